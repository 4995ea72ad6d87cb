/- Lemmas for the laws of this seat, part 4. -/
import Derived.WalkMore
import Derived.Scope
import Derived.Test.YtpbapojnbmbdlaaGreatDoorMx3
namespace Go.Proofs.YtpbapojnbmbdlaaGreatDoor.LN
def sg (x:Rat):Int:=if 1 < x then 1 else if x < 1 then -1 else 0
theorem sg_one:sg 1=0:=by decide
theorem sg_pos {x:Rat}:sg x=1↔1 < x:=by
 unfold sg
 by_cases h:1 < x
 ·simp [h]
 ·rw [if_neg h]; split <;> simp [h]
theorem sg_low {x:Rat}:sg x = -1↔x < 1:=by
 unfold sg
 by_cases h:1 < x
 ·rw [if_pos h]
  constructor
  ·intro h2; cases h2
  ·intro h2; exact absurd h2 (by grind)
 ·rw [if_neg h]; split <;> simp_all
theorem sg_ge {x:Rat}:0≤sg x↔1≤x:=by
 constructor
 ·intro h
  refine Rat.not_lt.1 fun h2=>?_
  rw [sg_low.2 h2] at h; omega
 ·intro h
  unfold sg
  split
  ·decide
  ·split
   ·rename_i h2; exact absurd h (Rat.not_le.2 h2)
   ·decide
theorem sg_le {x:Rat}:sg x≤0↔x≤1:=by
 constructor
 ·intro h
  refine Rat.not_lt.1 fun h2=>?_
  rw [sg_pos.2 h2] at h; omega
 ·intro h
  unfold sg
  split
  ·rename_i h2; exact absurd h (Rat.not_le.2 h2)
  ·split <;> decide
theorem sg_zero {x:Rat}:sg x=0↔x=1:=by
 constructor
 ·intro h
  exact Rat.le_antisymm (sg_le.1 (by omega)) (sg_ge.1 (by omega))
 ·rintro rfl; exact sg_one
theorem sg_cases (x:Rat):sg x=1∨sg x=0∨sg x = -1:=by
 unfold sg
 split
 ·exact .inl rfl
 ·split
  ·exact .inr (.inr rfl)
  ·exact .inr (.inl rfl)
theorem one_le_mul {x y:Rat} (hx:1≤x) (hy:1≤y):1≤x * y:=by
 have h:=Rat.mul_le_mul_of_nonneg_left hy (show 0≤x by grind)
 rw [Rat.mul_one] at h
 exact Rat.le_trans hx h
theorem one_lt_mul {x y:Rat} (hx:1 < x) (hy:1≤y):1 < x * y:=by
 have h:=Rat.mul_le_mul_of_nonneg_left hy (show 0≤x by grind)
 rw [Rat.mul_one] at h
 grind
theorem mul_le_one {x y:Rat} (h0:0 < x) (hx:x≤1) (hy:y≤1):x * y≤1:=by
 have h:=Rat.mul_le_mul_of_nonneg_left hy (show 0≤x by grind)
 rw [Rat.mul_one] at h
 grind
theorem mul_lt_one {x y:Rat} (h0:0 < x) (hx:x < 1) (hy:y≤1):x * y < 1:=by
 have h:=Rat.mul_le_mul_of_nonneg_left hy (show 0≤x by grind)
 rw [Rat.mul_one] at h
 grind
theorem pow_one_le {x:Rat} (hx:1≤x):∀ m:Nat,1≤x ^ m
 | 0=>by rw [Rat.pow_zero]; exact Rat.le_refl
 | m + 1=>by rw [Rat.pow_succ]; exact one_le_mul (pow_one_le hx m) hx
theorem pow_one_lt {x:Rat} (hx:1 < x) (m:Nat) (hm:0 < m):1 < x ^ m:=by
 obtain ⟨k,rfl⟩:=Nat.exists_eq_succ_of_ne_zero (by omega:m≠0)
 rw [Rat.pow_succ,Rat.mul_comm]
 exact one_lt_mul hx (pow_one_le (by grind) k)
theorem pow_le_one {x:Rat} (h0:0 < x) (hx:x≤1):∀ m:Nat,x ^ m≤1
 | 0=>by rw [Rat.pow_zero]; exact Rat.le_refl
 | m + 1=>by rw [Rat.pow_succ]; exact mul_le_one (Rat.pow_pos h0) (pow_le_one h0 hx m) hx
theorem pow_lt_one {x:Rat} (h0:0 < x) (hx:x < 1) (m:Nat) (hm:0 < m):x ^ m < 1:=by
 obtain ⟨k,rfl⟩:=Nat.exists_eq_succ_of_ne_zero (by omega:m≠0)
 rw [Rat.pow_succ,Rat.mul_comm]
 exact mul_lt_one h0 hx (pow_le_one h0 (by grind) k)
theorem sg_pow {x:Rat} (h0:0 < x) {m:Nat} (hm:0 < m):sg (x ^ m)=sg x:=by
 rcases sg_cases x with h | h | h
 ·rw [h]; exact sg_pos.2 (pow_one_lt (sg_pos.1 h) m hm)
 ·rw [h]
  rw [sg_zero.1 h]
  have:(1:Rat) ^ m=1:=by
   clear hm
   induction m with
   | zero=>rfl
   | succ m ih=>rw [Rat.pow_succ,ih,Rat.mul_one]
  rw [this]; exact sg_one
 ·rw [h]; exact sg_low.2 (pow_lt_one h0 (sg_low.1 h) m hm)
theorem sg_inv {x:Rat} (h0:0 < x):sg x⁻¹ = - sg x:=by
 have h1:=Rat.inv_pos.2 h0
 have e:=Rat.mul_inv_cancel x (by grind)
 rcases sg_cases x with h | h | h
 ·rw [h]
  have hx:=sg_pos.1 h
  refine sg_low.2 (Rat.not_le.1 fun h2=>?_)
  have:=one_lt_mul hx h2
  rw [e] at this
  exact Rat.lt_irrefl this
 ·rw [h,sg_zero.1 h,Rat.inv_eq_of_mul_eq_one (Rat.mul_one 1),sg_one]; rfl
 ·rw [h]
  have hx:=sg_low.1 h
  refine sg_pos.2 (Rat.not_le.1 fun h2=>?_)
  have:=mul_lt_one h0 hx h2
  rw [e] at this
  exact Rat.lt_irrefl this
theorem sg_mul_ge {x y:Rat} (hx:0≤sg x) (hy:0≤sg y):0≤sg (x * y):=sg_ge.2 (one_le_mul (sg_ge.1 hx) (sg_ge.1 hy))
theorem sg_mul_le {x y:Rat} (h0:0 < x) (hx:sg x≤0) (hy:sg y≤0):sg (x * y)≤0:=sg_le.2 (mul_le_one h0 (sg_le.1 hx) (sg_le.1 hy))
def vp:List Int→List Int→Rat
 | p :: ps,k :: ks=>(p:Rat) ^ k * vp ps ks
 | _,_=>1
theorem vp_pos:∀ (ps ks:List Int),(∀ p∈ps,0 < p)→0 < vp ps ks
 | [],_,_=>by simp only [vp]; decide
 | _ :: _,[],_=>by simp only [vp]; decide
 | p :: ps,k :: ks,h=>by
  simp only [vp]
  exact Rat.mul_pos (Rat.zpow_pos (by have:=h p List.mem_cons_self; exact Rat.intCast_pos.2 this)) (vp_pos ps ks fun q hq=>h q (List.mem_cons_of_mem _ hq))
theorem vp_add:∀ (ps ks ms:List Int),(∀ p∈ps,0 < p)→ks.length=ms.length→vp ps (List.zipWith (· + ·) ks ms)=vp ps ks * vp ps ms
 | [],_,_,_,_=>by simp only [vp]; rw [Rat.mul_one]
 | _ :: _,[],[],_,_=>by simp [vp]
 | p :: ps,k :: ks,m :: ms,h,hl=>by
  have ih:=vp_add ps ks ms (fun q hq=>h q (List.mem_cons_of_mem _ hq)) (by simpa using hl)
  have hp:=h p List.mem_cons_self
  have hp0:(p:Rat)≠0:=by have:=Rat.intCast_pos.2 hp; grind
  simp only [List.zipWith_cons_cons,vp]
  rw [ih,Rat.zpow_add hp0]
  grind
theorem vp_zero:∀ (ps ks:List Int),(∀ k∈ks,k=0)→vp ps ks=1
 | [],_,_=>rfl
 | _ :: _,[],_=>rfl
 | p :: ps,k :: ks,h=>by
  simp only [vp]
  rw [h k List.mem_cons_self,vp_zero ps ks fun x hx=>h x (List.mem_cons_of_mem _ hx),Rat.zpow_zero,Rat.mul_one]
theorem vp_neg (ps ks:List Int) (h:∀ p∈ps,0 < p):vp ps (ks.map fun k => -k)=(vp ps ks)⁻¹:=by
 have e:=vp_add ps ks (ks.map fun k => -k) h (by simp)
 have z:vp ps (List.zipWith (· + ·) ks (ks.map fun k => -k))=1:=by
  refine vp_zero _ _ fun k hk=>?_
  rw [List.zipWith_map_right] at hk
  rw [List.mem_iff_getElem] at hk
  obtain ⟨i,hi,rfl⟩:=hk
  simp
  omega
 rw [z] at e
 exact (Rat.inv_eq_of_mul_eq_one e.symm).symm
theorem vp_nsmul (ps ks:List Int) (h:∀ p∈ps,0 < p):∀ m:Nat,vp ps (ks.map fun k=>(m:Int) * k)=vp ps ks ^ m
 | 0=>by
  rw [Rat.pow_zero]
  refine vp_zero _ _ fun k hk=>?_
  obtain ⟨x,_,rfl⟩:=List.mem_map.1 hk
  simp
 | m + 1=>by
  have ih:=vp_nsmul ps ks h m
  have e:=vp_add ps (ks.map fun k=>(m:Int) * k) ks h (by simp)
  rw [Rat.pow_succ,← ih,← e]
  congr 1
  rw [List.zipWith_map_left]
  refine List.ext_getElem (by simp) fun i h1 h2=>?_
  simp
  rw [Int.add_mul,Int.one_mul]
def vt:List (Int×Int)→Rat
 | []=>1
 | x :: l=>(x.1:Rat) ^ x.2 * vt l
theorem natCast_pow (a n:Nat):((a ^ n:Nat):Rat)=(a:Rat) ^ n:=by
 induction n with
 | zero=>rw [Nat.pow_zero,Rat.pow_zero]; rfl
 | succ n ih=>rw [Nat.pow_succ,Rat.pow_succ,Rat.natCast_mul,ih]
theorem vt_up:∀ l:List (Int×Int),(∀ x∈l,0 < x.1)→((upT l:Nat):Rat)=vt l * ((upT (negT l):Nat):Rat)
 | [],_=>by simp [upT,negT,vt]
 | x :: l,h=>by
  have ih:=vt_up l fun y hy=>h y (List.mem_cons_of_mem _ hy)
  have hx:=h x List.mem_cons_self
  have e:negT (x :: l)=(x.1,-x.2) :: negT l:=rfl
  rw [e]
  simp only [upT,vt]
  rw [Rat.natCast_mul,Rat.natCast_mul,ih,natCast_pow,natCast_pow]
  have hp:((x.1.toNat:Nat):Rat)=(x.1:Rat):=by
   rw [← Rat.intCast_natCast,Int.toNat_of_nonneg (by omega)]
  rw [hp]
  have hp0:(x.1:Rat)≠0:=by have:=Rat.intCast_pos.2 hx; grind
  have key:(x.1:Rat) ^ x.2.toNat=(x.1:Rat) ^ x.2 * (x.1:Rat) ^ (-x.2).toNat:=by
   rw [← Rat.zpow_natCast,← Rat.zpow_natCast,← Rat.zpow_add hp0]
   congr 1
   omega
  rw [key]
  grind
theorem up_pos':∀ l:List (Int×Int),(∀ x∈l,0 < x.1)→0 < upT l
 | [],_=>by simp [upT]
 | x :: l,h=>by
  have hx:=h x List.mem_cons_self
  exact Nat.mul_pos (Nat.pow_pos (by omega)) (up_pos' l fun y hy=>h y (List.mem_cons_of_mem _ hy))
theorem signT_sg (l:List (Int×Int)) (h:∀ x∈l,0 < x.1):signT l=sg (vt l):=by
 have e:=vt_up l h
 have hd:(0:Rat) < ((upT (negT l):Nat):Rat):=by
  have:=up_pos' (negT l) (by
   intro x hx
   obtain ⟨y,hy,rfl⟩:=List.mem_map.1 hx
   exact h y hy)
  exact Rat.natCast_pos.2 this
 have c1:upT (negT l) < upT l↔1 < vt l:=by
  rw [← Rat.natCast_lt_natCast,e]
  constructor
  ·intro h1
   refine Rat.lt_of_mul_lt_mul_right (c:=((upT (negT l):Nat):Rat)) ?_ (Rat.le_of_lt hd)
   rw [Rat.one_mul]; exact h1
  ·intro h1
   have:=Rat.mul_lt_mul_of_pos_right h1 hd
   rw [Rat.one_mul] at this
   exact this
 have c2:upT l < upT (negT l)↔vt l < 1:=by
  rw [← Rat.natCast_lt_natCast,e]
  constructor
  ·intro h1
   refine Rat.lt_of_mul_lt_mul_right (c:=((upT (negT l):Nat):Rat)) ?_ (Rat.le_of_lt hd)
   rw [Rat.one_mul]; exact h1
  ·intro h1
   have:=Rat.mul_lt_mul_of_pos_right h1 hd
   rw [Rat.one_mul] at this
   exact this
 unfold signT sg
 simp only [c1,c2]
theorem mkRat_den' (n:Int) (d:Nat) (h:d≠0):(mkRat n d).den=d / Nat.gcd n.natAbs d:=by
 rw [← Rat.normalize_eq_mkRat h,Rat.den_normalize]
theorem num_pos' {q:Rat}:0 < q.num↔0 < q:=by
 have h1:=@Rat.num_nonneg q
 have h2:=@Rat.num_eq_zero q
 constructor
 ·intro h
  have:=h1.1 (by omega)
  have h3:q≠0:=fun e=>by have:=h2.2 e; omega
  grind
 ·intro h
  have:=h1.2 (by grind)
  have h3:q.num≠0:=fun e=>by have:=h2.1 e; grind
  omega
theorem num_neg' {q:Rat}:q.num < 0↔q < 0:=by
 have h1:=@num_pos' (-q)
 rw [Rat.neg_num] at h1
 constructor
 ·intro h
  have:=h1.1 (by omega)
  grind
 ·intro h
  have:=h1.2 (by grind)
  omega
theorem rat_tri (q:Rat):q < 0∨q=0∨0 < q:=by grind
theorem mul_den' (q:Rat):q * (q.den:Rat)=(q.num:Rat):=by
 have h:mkRat q.num q.den=(q.num:Rat) / ((q.den:Nat):Rat):=Rat.mkRat_eq_div _ _
 rw [Rat.mkRat_self] at h
 have h2:((q.den:Nat):Rat)≠0:=by have:=Rat.natCast_pos.2 q.den_pos; grind
 have h3:=Rat.div_mul_cancel (a:=(q.num:Rat)) h2
 rw [← h] at h3
 exact h3
def ex (D:Nat) (q:Rat):Int:=q.num * ((D / q.den:Nat):Int)
theorem ex_eq {D:Nat} {q:Rat} (h:q.den ∣ D):(ex D q:Rat)=q * (D:Rat):=by
 obtain ⟨m,rfl⟩:=h
 unfold ex
 rw [Nat.mul_div_cancel_left _ q.den_pos,Rat.intCast_mul,Rat.intCast_natCast,Rat.natCast_mul]
 have h1:=mul_den' q
 grind
theorem ex_add {D:Nat} {a b:Rat} (ha:a.den ∣ D) (hb:b.den ∣ D) (hc:(a + b).den ∣ D):ex D (a + b)=ex D a + ex D b:=by
 rw [← Rat.intCast_inj,Rat.intCast_add,ex_eq ha,ex_eq hb,ex_eq hc]
 grind
theorem ex_neg {D:Nat} {a:Rat}:ex D (-a) = - ex D a:=by
 unfold ex
 rw [Rat.neg_num,Rat.neg_den]
 grind
theorem ex_mul {D m:Nat} {a:Rat} (ha:a.den ∣ D):ex (m * D) a=(m:Int) * ex D a:=by
 have:a.den ∣ m * D:=Nat.dvd_trans ha (Nat.dvd_mul_left ..)
 rw [← Rat.intCast_inj,Rat.intCast_mul,ex_eq ha,ex_eq this,Rat.natCast_mul,Rat.intCast_natCast]
 grind
theorem ex_zero {D:Nat} (a:Rat) (h:a.num=0):ex D a=0:=by unfold ex; rw [h]; simp
theorem vt_tlist (D:Nat):∀ (ps:List Int) (l:List Rat),vt (tlist D ps l)=vp ps (l.map (ex D))
 | [],_=>rfl
 | _ :: _,[]=>rfl
 | p :: ps,q :: l=>by
  have ih:=vt_tlist D ps l
  unfold tlist at ih ⊢
  rw [List.zip_cons_cons,List.filterMap_cons]
  by_cases h:q.num=0
  ·simp only [h,if_true,List.map_cons,vp]
   rw [ih,ex_zero q h,Rat.zpow_zero,Rat.one_mul]
  ·simp only [h,if_false,List.map_cons,vp,vt]
   rw [ih]; rfl
theorem tden_go (l:List Rat):∀ d:Nat,d ∣ l.foldl (fun d q=>Nat.lcm d q.den) d∧∀ q∈l,q.den ∣ l.foldl (fun d q=>Nat.lcm d q.den) d:=by
 induction l with
 | nil=>intro d; exact ⟨Nat.dvd_refl _,by simp⟩
 | cons a l ih =>
  intro d
  obtain ⟨h1,h2⟩:=ih (Nat.lcm d a.den)
  refine ⟨Nat.dvd_trans (Nat.dvd_lcm_left ..) h1,fun q hq=>?_⟩
  rcases List.mem_cons.1 hq with rfl | hq
  ·exact Nat.dvd_trans (Nat.dvd_lcm_right ..) h1
  ·exact h2 q hq
theorem tden_dvd {l:List Rat} {q:Rat} (h:q∈l):q.den ∣ tden l:=(tden_go l 1).2 q h
theorem tden_least (l:List Rat):∀ (D d:Nat),d ∣ D→(∀ q∈l,q.den ∣ D)→l.foldl (fun d q=>Nat.lcm d q.den) d ∣ D:=by
 induction l with
 | nil=>intro D d h _; exact h
 | cons a l ih =>
  intro D d h h2
  exact ih D _ (Nat.lcm_dvd h (h2 a List.mem_cons_self)) fun q hq=>h2 q (List.mem_cons_of_mem _ hq)
theorem tden_min {l:List Rat} {D:Nat} (h:∀ q∈l,q.den ∣ D):tden l ∣ D:=tden_least l D 1 (Nat.one_dvd _) h
theorem tden_pos' (l:List Rat):0 < tden l:=by
 have:∀ (l:List Rat) (d:Nat),0 < d→0 < l.foldl (fun d q=>Nat.lcm d q.den) d:=by
  intro l
  induction l with
  | nil=>intro d h; exact h
  | cons a l ih=>intro d h; exact ih _ (Nat.lcm_pos h a.den_pos)
 exact this l 1 Nat.one_pos
def sz (ps:List Int) (l:List Rat):Int:=signT (tlist (tden l) ps l)
theorem tlist_pos {D:Nat} {ps:List Int} {l:List Rat} (hp:∀ p∈ps,0 < p):∀ x∈tlist D ps l,0 < x.1:=by
 intro x hx
 unfold tlist at hx
 obtain ⟨y,hy,he⟩:=List.mem_filterMap.1 hx
 have h1:=(List.of_mem_zip hy).1
 split at he
 ·cases he
 ·cases he; exact hp _ h1
theorem sz_eq {ps:List Int} {l:List Rat} {D:Nat} (hp:∀ p∈ps,0 < p) (hD:0 < D) (h:∀ q∈l,q.den ∣ D):sz ps l=sg (vp ps (l.map (ex D))):=by
 unfold sz
 rw [signT_sg _ (tlist_pos hp),vt_tlist]
 obtain ⟨m,rfl⟩:=tden_min h
 have hm:0 < m:=Nat.pos_of_mul_pos_left hD
 have e:l.map (ex (tden l * m))=(l.map (ex (tden l))).map fun k=>(m:Int) * k:=by
  rw [List.map_map]
  refine List.map_congr_left fun q hq=>?_
  rw [Nat.mul_comm,ex_mul (tden_dvd hq)]; rfl
 rw [e,vp_nsmul _ _ hp,sg_pow (vp_pos _ _ hp) hm]
theorem sz_neg {ps:List Int} {l:List Rat} (hp:∀ p∈ps,0 < p):sz ps (l.map fun q => -q) = - sz ps l:=by
 have h1:∀ q∈l.map (fun q:Rat => -q),q.den ∣ tden l:=by
  intro q hq
  obtain ⟨x,hx,rfl⟩:=List.mem_map.1 hq
  rw [Rat.neg_den]; exact tden_dvd hx
 rw [sz_eq hp (tden_pos' l) h1,sz_eq hp (tden_pos' l) fun q hq=>tden_dvd hq,← sg_inv (vp_pos _ _ hp),← vp_neg _ _ hp]
 congr 2
 rw [List.map_map,List.map_map]
 exact List.map_congr_left fun q _=>ex_neg
theorem sz_sum {ps:List Int} {a b c:List Rat} (hp:∀ p∈ps,0 < p) (hab:a.length=b.length) (hc:c=List.zipWith (· + ·) a b) :
  ∃ x y:Rat,0 < x∧0 < y∧sz ps a=sg x∧sz ps b=sg y∧sz ps c=sg (x * y):=by
 obtain ⟨D,hD⟩:∃ D,D=tden a * tden b * tden c:=⟨_,rfl⟩
 have ha:∀ q∈a,q.den ∣ D:=fun q hq=>Nat.dvd_trans (tden_dvd hq) (by rw [hD]; exact Nat.dvd_trans (Nat.dvd_mul_right _ _) (Nat.dvd_mul_right _ _))
 have hb:∀ q∈b,q.den ∣ D:=fun q hq=>Nat.dvd_trans (tden_dvd hq) (by rw [hD]; exact Nat.dvd_trans (Nat.dvd_mul_left _ _) (Nat.dvd_mul_right _ _))
 have hcc:∀ q∈c,q.den ∣ D:=fun q hq=>Nat.dvd_trans (tden_dvd hq) (by rw [hD]; exact Nat.dvd_mul_left _ _)
 have h0:0 < D:=by rw [hD]; exact Nat.mul_pos (Nat.mul_pos (tden_pos' _) (tden_pos' _)) (tden_pos' _)
 refine ⟨vp ps (a.map (ex D)),vp ps (b.map (ex D)),vp_pos _ _ hp,vp_pos _ _ hp,sz_eq hp h0 ha,sz_eq hp h0 hb,?_⟩
 rw [sz_eq hp h0 hcc,← vp_add _ _ _ hp (by simp [hab])]
 congr 2
 refine List.ext_getElem (by rw [hc]; simp) fun i h1 h2=>?_
 have i1:i < a.length:=by simp at h2; omega
 have i2:i < b.length:=by omega
 have i3:i < c.length:=by simpa using h1
 have e:c[i]=a[i] + b[i]:=by simp only [hc,List.getElem_zipWith]
 simp only [List.getElem_map,List.getElem_zipWith]
 have h3:=hcc c[i] (List.getElem_mem i3)
 rw [e] at h3 ⊢
 exact ex_add (ha _ (List.getElem_mem i1)) (hb _ (List.getElem_mem i2)) h3
theorem sz_add_ge {ps:List Int} {a b c:List Rat} (hp:∀ p∈ps,0 < p) (hab:a.length=b.length) (hc:c=List.zipWith (· + ·) a b) (h1:0≤sz ps a) (h2:0≤sz ps b):0≤sz ps c:=by
 obtain ⟨x,y,_,_,e1,e2,e3⟩:=sz_sum hp hab hc
 rw [e1] at h1
 rw [e2] at h2
 rw [e3]
 exact sg_mul_ge h1 h2
theorem sz_add_le {ps:List Int} {a b c:List Rat} (hp:∀ p∈ps,0 < p) (hab:a.length=b.length) (hc:c=List.zipWith (· + ·) a b) (h1:sz ps a≤0) (h2:sz ps b≤0):sz ps c≤0:=by
 obtain ⟨x,y,hx,_,e1,e2,e3⟩:=sz_sum hp hab hc
 rw [e1] at h1
 rw [e2] at h2
 rw [e3]
 exact sg_mul_le hx h1 h2
theorem sz_zero {ps:List Int} {l:List Rat} (hp:∀ p∈ps,0 < p) (h:∀ q∈l,q=0):sz ps l=0:=by
 rw [sz_eq hp (tden_pos' l) fun q hq=>tden_dvd hq,vp_zero,sg_one]
 intro k hk
 obtain ⟨q,hq,rfl⟩:=List.mem_map.1 hk
 exact ex_zero q (by rw [h q hq]; rfl)
theorem sz_pos_mul {ps:List Int} {l:List Rat} (hp:∀ p∈ps,0 < p) (k:Rat) (hk:0 < k):sz ps (l.map fun q=>k * q)=sz ps l:=by
 have hn:0 < k.num:=num_pos'.2 hk
 obtain ⟨n,hn'⟩:∃ n:Nat,k.num=n:=⟨k.num.toNat,by omega⟩
 have hn0:0 < n:=by omega
 have h1:∀ q∈l,q.den ∣ tden l:=fun q hq=>tden_dvd hq
 have hm:∀ q∈l,(k * q).den ∣ k.den * tden l:=by
  intro q hq
  refine Nat.dvd_trans ?_ (Nat.mul_dvd_mul (Nat.dvd_refl _) (h1 q hq))
  rw [Rat.mul_def',mkRat_den' _ _ (Nat.mul_ne_zero k.den_nz q.den_nz)]
  exact Nat.div_dvd_of_dvd (Nat.gcd_dvd_right _ _)
 have h2:∀ q∈l.map (fun q=>k * q),q.den ∣ k.den * tden l:=by
  intro q hq
  obtain ⟨x,hx,rfl⟩:=List.mem_map.1 hq
  exact hm x hx
 rw [sz_eq hp (Nat.mul_pos k.den_pos (tden_pos' l)) h2,sz_eq hp (tden_pos' l) h1]
 have e:(l.map fun q=>k * q).map (ex (k.den * tden l))=(l.map (ex (tden l))).map fun z=>(n:Int) * z:=by
  rw [List.map_map,List.map_map]
  refine List.map_congr_left fun q hq=>?_
  show ex _ (k * q)=(n:Int) * ex (tden l) q
  rw [← Rat.intCast_inj,ex_eq (hm q hq),Rat.intCast_mul,ex_eq (h1 q hq),Rat.natCast_mul,← hn']
  have h3:=mul_den' k
  rw [← h3]
  grind
 rw [e,vp_nsmul _ _ hp,sg_pow (vp_pos _ _ hp) hn0]
theorem sz_mul {ps:List Int} {l:List Rat} (hp:∀ p∈ps,0 < p) (k:Rat):sz ps (l.map fun q=>k * q)=k.num.sign * sz ps l:=by
 rcases rat_tri k with h | h | h
 ·have e:(l.map fun q=>k * q)=(l.map fun q=>(-k) * q).map fun q => -q:=by
   rw [List.map_map]
   refine List.map_congr_left fun q _=>?_
   show k * q = -(-k * q)
   grind
  rw [e,sz_neg hp,sz_pos_mul hp _ (by grind),Int.sign_eq_neg_one_of_neg (num_neg'.2 h)]
  omega
 ·rw [h,sz_zero hp]
  ·simp
  ·intro q hq
   obtain ⟨x,_,rfl⟩:=List.mem_map.1 hq
   grind
 ·rw [sz_pos_mul hp k h,Int.sign_eq_one_of_pos (num_pos'.2 h)]
  omega
end Go.Proofs.YtpbapojnbmbdlaaGreatDoor.LN

namespace Go.Proofs.YtpbapojnbmbdlaaGreatDoor.LN
theorem zpow_nat_mul {x:Rat} (hx:x≠0) (a:Int):∀ n:Nat,(x ^ a) ^ n=x ^ (a * n)
 | 0=>by simp
 | n + 1=>by
  rw [Rat.pow_succ,zpow_nat_mul hx a n,← Rat.zpow_add hx]
  congr 1
  rw [Int.natCast_add,Int.mul_add]; simp
theorem zpow_mul' {x:Rat} (hx:x≠0) (a b:Int):(x ^ a) ^ b=x ^ (a * b):=by
 rcases Int.eq_nat_or_neg b with ⟨n,rfl | rfl⟩
 ·rw [Rat.zpow_natCast,zpow_nat_mul hx]
 ·rw [Rat.zpow_neg,Rat.zpow_natCast,zpow_nat_mul hx,← Rat.zpow_neg]
  congr 1
  rw [Int.mul_neg]
theorem two_ne:(2:Rat)≠0:=by decide
theorem two_zpow_one_le {a:Int} (h:0≤a):(1:Rat)≤2 ^ a:=by
 obtain ⟨n,rfl⟩:=Int.eq_ofNat_of_zero_le h
 rw [Rat.zpow_natCast]
 exact pow_one_le (by decide) n
theorem two_zpow_one_lt {a:Int} (h:0 < a):(1:Rat) < 2 ^ a:=by
 obtain ⟨n,rfl⟩:=Int.eq_ofNat_of_zero_le (Int.le_of_lt h)
 rw [Rat.zpow_natCast]
 exact pow_one_lt (by decide) n (by omega)
theorem two_zpow_lt_one {a:Int} (h:a < 0):(2:Rat) ^ a < 1:=by
 have h1:=two_zpow_one_lt (a := -a) (by omega)
 have h2:(2:Rat) ^ a * 2 ^ (-a)=1:=by rw [← Rat.zpow_add two_ne]; simp [Int.add_right_neg]
 have h3:(0:Rat) < 2 ^ a:=Rat.zpow_pos (by decide)
 refine Rat.not_le.1 fun h4=>?_
 have h5:=Rat.mul_le_mul_of_nonneg_right h4 (c:=2 ^ (-a)) (by grind)
 grind
theorem pow_le_pow' {x y:Rat} (h0:0 < x) (h:x≤y):∀ n:Nat,x ^ n≤y ^ n
 | 0=>by rw [Rat.pow_zero,Rat.pow_zero]; exact Rat.le_refl
 | n + 1=>by
  have ih:=pow_le_pow' h0 h n
  rw [Rat.pow_succ,Rat.pow_succ]
  have h1:=Rat.mul_le_mul_of_nonneg_right ih (c:=x) (by grind)
  have h2:=Rat.mul_le_mul_of_nonneg_left h (c:=y ^ n) (Rat.le_of_lt (Rat.pow_pos (by grind)))
  exact Rat.le_trans h1 h2
theorem inv_le_inv {x y:Rat} (h0:0 < x) (h:x≤y):y⁻¹≤x⁻¹:=by
 have hy:0 < y:=by grind
 have h1:=Rat.inv_pos.2 h0
 have h2:=Rat.inv_pos.2 hy
 have e1:=Rat.mul_inv_cancel x (by grind)
 have e2:=Rat.mul_inv_cancel y (by grind)
 have h3:=Rat.mul_le_mul_of_nonneg_right h (c:=x⁻¹ * y⁻¹) (Rat.le_of_lt (Rat.mul_pos h1 h2))
 have e3:x * (x⁻¹ * y⁻¹)=y⁻¹:=by rw [← Rat.mul_assoc,e1,Rat.one_mul]
 have e4:y * (x⁻¹ * y⁻¹)=x⁻¹:=by rw [Rat.mul_comm x⁻¹,← Rat.mul_assoc,e2,Rat.one_mul]
 rw [e3,e4] at h3
 exact h3
theorem zpow_le_zpow {x y:Rat} (h0:0 < x) (h:x≤y) {j:Int} (hj:0≤j):x ^ j≤y ^ j:=by
 obtain ⟨n,rfl⟩:=Int.eq_ofNat_of_zero_le hj
 rw [Rat.zpow_natCast,Rat.zpow_natCast]
 exact pow_le_pow' h0 h n
theorem zpow_le_zpow_neg {x y:Rat} (h0:0 < x) (h:x≤y) {j:Int} (hj:j≤0):y ^ j≤x ^ j:=by
 obtain ⟨n,hn⟩:=Int.eq_ofNat_of_zero_le (a := -j) (by omega)
 have e:j = -(n:Int):=by omega
 rw [e,Rat.zpow_neg,Rat.zpow_neg,Rat.zpow_natCast,Rat.zpow_natCast]
 exact inv_le_inv (Rat.pow_pos h0) (pow_le_pow' h0 h n)
structure Btw (v:Rat) (a b:Int):Prop where
 pos:0 < v
 lo:2 ^ a≤v
 hi:v≤2 ^ b
theorem Btw.inv {v:Rat} {a b:Int} (h:Btw v a b):Btw v⁻¹ (-b) (-a):=by
 refine ⟨Rat.inv_pos.2 h.pos,?_,?_⟩
 ·rw [Rat.zpow_neg]; exact inv_le_inv h.pos h.hi
 ·rw [Rat.zpow_neg]; exact inv_le_inv (Rat.zpow_pos (by decide)) h.lo
theorem Btw.zpow {v:Rat} {a b:Int} (h:Btw v a b) {j:Int} (hj:0≤j):Btw (v ^ j) (j * a) (j * b):=by
 refine ⟨Rat.zpow_pos h.pos,?_,?_⟩
 ·rw [Int.mul_comm,← zpow_mul' two_ne]; exact zpow_le_zpow (Rat.zpow_pos (by decide)) h.lo hj
 ·rw [Int.mul_comm,← zpow_mul' two_ne]; exact zpow_le_zpow h.pos h.hi hj
theorem Btw.zpow_neg {v:Rat} {a b:Int} (h:Btw v a b) {j:Int} (hj:j≤0):Btw (v ^ j) (j * b) (j * a):=by
 refine ⟨Rat.zpow_pos h.pos,?_,?_⟩
 ·rw [Int.mul_comm,← zpow_mul' two_ne]; exact zpow_le_zpow_neg h.pos h.hi hj
 ·rw [Int.mul_comm,← zpow_mul' two_ne]; exact zpow_le_zpow_neg (Rat.zpow_pos (by decide)) h.lo hj
theorem Btw.mul {v u:Rat} {a b c d:Int} (h:Btw v a b) (k:Btw u c d):Btw (v * u) (a + c) (b + d):=by
 refine ⟨Rat.mul_pos h.pos k.pos,?_,?_⟩
 ·rw [Rat.zpow_add two_ne]
  have h1:=Rat.mul_le_mul_of_nonneg_right h.lo (c:=2 ^ c) (Rat.le_of_lt (Rat.zpow_pos (by decide)))
  have h2:=Rat.mul_le_mul_of_nonneg_left k.lo (c:=v) (Rat.le_of_lt h.pos)
  exact Rat.le_trans h1 h2
 ·rw [Rat.zpow_add two_ne]
  have h1:=Rat.mul_le_mul_of_nonneg_right h.hi (c:=u) (Rat.le_of_lt k.pos)
  have h2:=Rat.mul_le_mul_of_nonneg_left k.hi (c:=2 ^ b) (Rat.le_of_lt (Rat.zpow_pos (by decide)))
  exact Rat.le_trans h1 h2
theorem Btw.ge {v:Rat} {a b:Int} (h:Btw v a b) (ha:0≤a):1≤v:=Rat.le_trans (two_zpow_one_le ha) h.lo
theorem Btw.lt {v:Rat} {a b:Int} (h:Btw v a b) (hb:b < 0):v < 1:=by
 have:=two_zpow_lt_one hb
 have:=h.hi
 grind
theorem Btw.gt {v:Rat} {a b:Int} (h:Btw v a b) (ha:0 < a):1 < v:=by
 have:=two_zpow_one_lt ha
 have:=h.lo
 grind
def eLo (f:Int→Nat) (l:List (Int×Int)):Int:=(l.map fun x=>if x.2 < 0 then x.2 * (hiL f x.1:Int) else x.2 * (f x.1:Int)).sum
def eHi (f:Int→Nat) (l:List (Int×Int)):Int:=(l.map fun x=>if x.2 < 0 then x.2 * (f x.1:Int) else x.2 * (hiL f x.1:Int)).sum
theorem term_split (k:Int) (a b:Nat):(if k < 0 then k * (b:Int) else k * (a:Int))=((k.toNat * a:Nat):Int) - (((-k).toNat * b:Nat):Int):=by
 by_cases h:k < 0
 ·rw [if_pos h,show k.toNat=0 by omega]
  have e:((-k).toNat:Int) = -k:=Int.toNat_of_nonneg (by omega)
  rw [Int.natCast_mul,Int.natCast_mul,e]
  grind
 ·rw [if_neg h,show (-k).toNat=0 by omega]
  have e:(k.toNat:Int)=k:=Int.toNat_of_nonneg (by omega)
  rw [Int.natCast_mul,Int.natCast_mul,e]
  grind
theorem eLo_eq (f:Int→Nat):∀ l:List (Int×Int),eLo f l=(loS f l:Int) - (hiS f (negT l):Int)
 | []=>rfl
 | x :: l=>by
  have ih:=eLo_eq f l
  unfold eLo at ih ⊢
  have e:negT (x :: l)=(x.1,-x.2) :: negT l:=rfl
  rw [List.map_cons,List.sum_cons,ih,e,loS,hiS,term_split]
  dsimp only
  omega
theorem eHi_eq (f:Int→Nat):∀ l:List (Int×Int),eHi f l=(hiS f l:Int) - (loS f (negT l):Int)
 | []=>rfl
 | x :: l=>by
  have ih:=eHi_eq f l
  unfold eHi at ih ⊢
  have e:negT (x :: l)=(x.1,-x.2) :: negT l:=rfl
  rw [List.map_cons,List.sum_cons,ih,e,hiS,loS,term_split]
  dsimp only
  omega
theorem vt_pos:∀ l:List (Int×Int),(∀ x∈l,0 < x.1)→0 < vt l
 | [],_=>by simp only [vt]; decide
 | x :: l,h=>Rat.mul_pos (Rat.zpow_pos (Rat.intCast_pos.2 (h x List.mem_cons_self))) (vt_pos l fun y hy=>h y (List.mem_cons_of_mem _ hy))
theorem mul_pow' (a b:Rat):∀ n:Nat,(a * b) ^ n=a ^ n * b ^ n
 | 0=>by simp [Rat.mul_one]
 | n + 1=>by rw [Rat.pow_succ,Rat.pow_succ,Rat.pow_succ,mul_pow' a b n]; grind
theorem ends_btw (n:Nat) (f:Int→Nat) (l:List (Int×Int)) (hp:∀ x∈l,0 < x.1) (h:∀ x∈l,LogAt n x.1 (f x.1)):Btw (vt l ^ (2 ^ n)) (eLo f l) (eHi f l):=by
 have hn:=negT_log h
 have hpn:∀ x∈negT l,0 < x.1:=by
  intro x hx
  obtain ⟨y,hy,rfl⟩:=List.mem_map.1 hx
  exact hp y hy
 have a1:=pow_le_up n f l h
 have a2:=up_le_pow n f l h
 have b1:=pow_le_up n f (negT l) hn
 have b2:=up_le_pow n f (negT l) hn
 have e:=vt_up l hp
 have hv:=vt_pos l hp
 have key:((upT l:Nat):Rat) ^ (2 ^ n)=vt l ^ (2 ^ n) * ((upT (negT l):Nat):Rat) ^ (2 ^ n):=by rw [e,mul_pow']
 have hd:(0:Rat) < ((upT (negT l):Nat):Rat) ^ (2 ^ n):=Rat.pow_pos (Rat.natCast_pos.2 (up_pos' _ hpn))
 have c:∀ a b:Nat,a≤b→(a:Rat)≤(b:Rat):=fun a b h=>Rat.natCast_le_natCast.2 h
 have c1:=c _ _ a1
 have c2:=c _ _ a2
 have c3:=c _ _ b1
 have c4:=c _ _ b2
 rw [natCast_pow,natCast_pow] at c1 c2 c3 c4
 rw [show ((2:Nat):Rat)=2 from rfl] at c1 c2 c3 c4
 rw [key] at c1 c2
 have hvp:0 < vt l ^ (2 ^ n):=Rat.pow_pos hv
 generalize vt l ^ (2 ^ n)=V at *
 generalize ((upT (negT l):Nat):Rat) ^ (2 ^ n)=U at *
 refine ⟨hvp,?_,?_⟩
 ·rw [eLo_eq]
  have e1:(2:Rat) ^ ((loS f l:Int) - (hiS f (negT l):Int)) * 2 ^ (hiS f (negT l))=2 ^ (loS f l):=by
   rw [← Rat.zpow_natCast,← Rat.zpow_natCast,← Rat.zpow_add two_ne]; congr 1; omega
  have h1:2 ^ (loS f l)≤V * 2 ^ (hiS f (negT l)):=Rat.le_trans c1 (Rat.mul_le_mul_of_nonneg_left c4 (Rat.le_of_lt hvp))
  rw [← e1] at h1
  exact Rat.le_of_mul_le_mul_right h1 (Rat.pow_pos (by decide))
 ·rw [eHi_eq]
  have e1:(2:Rat) ^ ((hiS f l:Int) - (loS f (negT l):Int)) * 2 ^ (loS f (negT l))=2 ^ (hiS f l):=by
   rw [← Rat.zpow_natCast,← Rat.zpow_natCast,← Rat.zpow_add two_ne]; congr 1; omega
  have h1:V * 2 ^ (loS f (negT l))≤2 ^ (hiS f l):=Rat.le_trans (Rat.mul_le_mul_of_nonneg_left c3 (Rat.le_of_lt hvp)) c2
  rw [← e1] at h1
  exact Rat.le_of_mul_le_mul_right h1 (Rat.pow_pos (by decide))
theorem sg_of_pow {u:Rat} (h0:0 < u) (n:Nat):sg (u ^ (2 ^ n))=sg u:=sg_pow h0 (Nat.two_pow_pos n)
theorem zpow_pow_comm {x:Rat} (hx:x≠0) (j:Int) (m:Nat):(x ^ j) ^ m=(x ^ m) ^ j:=by
 rw [zpow_nat_mul hx,← Rat.zpow_natCast x m,zpow_mul' hx,Int.mul_comm]
theorem quo_low {X Y:Rat} {n:Nat} {xl xh yl yh:Int} (hX:0 < X) (hY:0 < Y) (bx:Btw (X ^ (2 ^ n)) xl xh) (by':Btw (Y ^ (2 ^ n)) yl yh) {d g:Int} (hd:0≤d) (hg:0≤g) {q low:Int}
  (hq:0≤q∧low=yh∨q≤0∧low=yl) (hle:q * (low * d)≤xl * g):0≤sg (X ^ g * Y ^ (-(q * d))):=by
 have hu:0 < X ^ g * Y ^ (-(q * d)):=Rat.mul_pos (Rat.zpow_pos hX) (Rat.zpow_pos hY)
 rw [← sg_of_pow hu n,mul_pow',zpow_pow_comm (by grind),zpow_pow_comm (by grind)]
 have b1:=bx.zpow hg
 rcases hq with ⟨h1,rfl⟩ | ⟨h1,rfl⟩
 ·have h2 : -(q * d)≤0:=by have:=Int.mul_nonneg h1 hd; omega
  have b:=b1.mul (by'.zpow_neg h2)
  refine sg_ge.2 (b.ge ?_)
  have e:g * xl + -(q * d) * low=xl * g - q * (low * d):=by grind
  omega
 ·have h2:0 ≤ -(q * d):=by
   have:=Int.mul_nonneg (show 0 ≤ -q by omega) hd
   rw [Int.neg_mul] at this
   omega
  have b:=b1.mul (by'.zpow h2)
  refine sg_ge.2 (b.ge ?_)
  have e:g * xl + -(q * d) * low=xl * g - q * (low * d):=by grind
  omega
theorem quo_high {X Y:Rat} {n:Nat} {xl xh yl yh:Int} (hX:0 < X) (hY:0 < Y) (bx:Btw (X ^ (2 ^ n)) xl xh) (by':Btw (Y ^ (2 ^ n)) yl yh) {d g:Int} (hd:0≤d) (hg:0≤g) {q high:Int}
  (hq:0≤q∧high=yl∨q≤0∧high=yh) (hlt:xh * g < q * (high * d)):sg (X ^ g * Y ^ (-(q * d))) = -1:=by
 have hu:0 < X ^ g * Y ^ (-(q * d)):=Rat.mul_pos (Rat.zpow_pos hX) (Rat.zpow_pos hY)
 rw [← sg_of_pow hu n,mul_pow',zpow_pow_comm (by grind),zpow_pow_comm (by grind)]
 have b1:=bx.zpow hg
 rcases hq with ⟨h1,rfl⟩ | ⟨h1,rfl⟩
 ·have h2 : -(q * d)≤0:=by have:=Int.mul_nonneg h1 hd; omega
  have b:=b1.mul (by'.zpow_neg h2)
  refine sg_low.2 (b.lt ?_)
  have e:g * xh + -(q * d) * high=xh * g - q * (high * d):=by grind
  omega
 ·have h2:0 ≤ -(q * d):=by
   have:=Int.mul_nonneg (show 0 ≤ -q by omega) hd
   rw [Int.neg_mul] at this
   omega
  have b:=b1.mul (by'.zpow h2)
  refine sg_low.2 (b.lt ?_)
  have e:g * xh + -(q * d) * high=xh * g - q * (high * d):=by grind
  omega
def quoL (xl yl yh g d:Int):Int:=xl * g / ((if xl < 0 then yl else yh) * d)
def quoH (xh yl yh g d:Int):Int:=xh * g / ((if xh < 0 then yh else yl) * d)
theorem quo_both {X Y:Rat} {n:Nat} {xl xh yl yh:Int} (hX:0 < X) (hY:0 < Y) (bx:Btw (X ^ (2 ^ n)) xl xh) (by':Btw (Y ^ (2 ^ n)) yl yh) {d g:Int} (hd:0 < d) (hg:0 < g) (hyl:0 < yl) (hy:yl≤yh) {q:Int}
  (h1:quoL xl yl yh g d=q) (h2:quoH xh yl yh g d=q):0≤sg (X ^ g * Y ^ (-(q * d)))∧sg (X ^ g * Y ^ (-((q + 1) * d))) = -1:=by
 constructor
 ·unfold quoL at h1
  by_cases hx:xl < 0
  ·rw [if_pos hx] at h1
   have hp:0 < yl * d:=Int.mul_pos hyl hd
   refine quo_low hX hY bx by' (Int.le_of_lt hd) (Int.le_of_lt hg) (.inr ⟨?_,rfl⟩) ?_
   ·rw [← h1]
    have:=Int.ediv_neg_of_neg_of_pos (Int.mul_neg_of_neg_of_pos hx hg) hp
    omega
   ·rw [← h1]; exact Int.ediv_mul_le _ (by omega)
  ·rw [if_neg hx] at h1
   have hp:0 < yh * d:=Int.mul_pos (by omega) hd
   refine quo_low hX hY bx by' (Int.le_of_lt hd) (Int.le_of_lt hg) (.inl ⟨?_,rfl⟩) ?_
   ·rw [← h1]
    exact Int.ediv_nonneg (Int.mul_nonneg (by omega) (by omega)) (by omega)
   ·rw [← h1]; exact Int.ediv_mul_le _ (by omega)
 ·unfold quoH at h2
  by_cases hx:xh < 0
  ·rw [if_pos hx] at h2
   have hp:0 < yh * d:=Int.mul_pos (by omega) hd
   refine quo_high hX hY bx by' (Int.le_of_lt hd) (Int.le_of_lt hg) (.inr ⟨?_,rfl⟩) ?_
   ·rw [← h2]
    have:=Int.ediv_neg_of_neg_of_pos (Int.mul_neg_of_neg_of_pos hx hg) hp
    omega
   ·rw [← h2]; exact Int.lt_ediv_add_one_mul_self _ hp
  ·rw [if_neg hx] at h2
   have hp:0 < yl * d:=Int.mul_pos hyl hd
   refine quo_high hX hY bx by' (Int.le_of_lt hd) (Int.le_of_lt hg) (.inl ⟨?_,rfl⟩) ?_
   ·rw [← h2]
    have:=Int.ediv_nonneg (Int.mul_nonneg (show 0≤xh by omega) (show 0≤g by omega)) (show 0≤yl * d by omega)
    omega
   ·rw [← h2]; exact Int.lt_ediv_add_one_mul_self _ hp
end Go.Proofs.YtpbapojnbmbdlaaGreatDoor.LN

namespace Go.Proofs.YtpbapojnbmbdlaaGreatDoor
open Go.RowKit Go.Shelf
attribute [local go_sem] Oper.semAt_some
def lf (n:Nat):Int→Nat:=fun p=>lgN p n
structure EndI (B:Nat) (n:Int) (slo shi:ByteArray) (W:World):Prop where
 c3:W.cell? ⟨B + 1,0,none⟩=some (.int .i64 n)
 c4:W.cell? ⟨B + 1 + 1,0,none⟩=some (.string slo)
 c5:W.cell? ⟨B + 1 + 1 + 1,0,none⟩=some (.string shi)
 f4:W.frozen? ⟨B + 1 + 1,0,none⟩=false
 f5:W.frozen? ⟨B + 1 + 1 + 1,0,none⟩=false
 sz:B + 4 < W.heap.size
theorem EndI.below {B:Nat} {n:Int} {slo shi:ByteArray} {W W':World} (h:EndI B n slo shi W) (hb:Below W.heap.size W W'):EndI B n slo shi W' :=
 ⟨(hb.cell (block_lt_of_cell h.c3)).trans h.c3,(hb.cell (block_lt_of_cell h.c4)).trans h.c4,(hb.cell (block_lt_of_cell h.c5)).trans h.c5,
  (hb.frozen (block_lt_of_cell h.c4)).trans h.f4,(hb.frozen (block_lt_of_cell h.c5)).trans h.f5,Nat.lt_of_lt_of_le h.sz hb.size⟩
theorem EndI.kept {B:Nat} {n:Int} {slo shi:ByteArray} {W W':World} {row:Option Nat} (h:EndI B n slo shi W) (hg:W.grownBy W' row) (hr:∀ r,row=some r→∃ o:Obj,W.heap[r]?=some o∧o.isCells=false):EndI B n slo shi W' :=
 ⟨cell_kept h.c3 hg hr,cell_kept h.c4 hg hr,cell_kept h.c5 hg hr,(frozen_kept h.c4 hg hr).trans h.f4,(frozen_kept h.c5 hg hr).trans h.f5,Nat.lt_of_lt_of_le h.sz hg.size⟩
theorem EndI.stored {B:Nat} {n:Int} {slo shi:ByteArray} {W:World} (h:EndI B n slo shi W) (s t:ByteArray) :
  EndI B n s t ((W.setCell ⟨B + 1 + 1,0,none⟩ (.string s)).setCell ⟨B + 1 + 1 + 1,0,none⟩ (.string t)):=by
 refine ⟨?_,?_,?_,?_,?_,?_⟩
 ·rw [World.cell?_setCell_other _ _ _ _ (by simp),World.cell?_setCell_other _ _ _ _ (by simp)]; exact h.c3
 ·rw [World.cell?_setCell_other _ _ _ _ (by simp),World.cell?_setCell_same _ _ _ h.c4]
 ·rw [World.cell?_setCell_same _ _ _ (by rw [World.cell?_setCell_other _ _ _ _ (by simp)]; exact h.c5)]
 ·rw [World.frozen?_setCell,World.frozen?_setCell]; exact h.f4
 ·rw [World.frozen?_setCell,World.frozen?_setCell]; exact h.f5
 ·rw [World.size_setCell,World.size_setCell]; exact h.sz
theorem ends_kt {B:Nat} {W0 W W4:World} (hB:W0.heap.size=B) (hb:Below W0.heap.size W0 W) (hsz:B + 4 < W.heap.size) (h:Below W.heap.size W W4) (v5 v6:Value) :
  KT B (B + 4) W ((W4.setCell ⟨B + 1 + 1,0,none⟩ v5).setCell ⟨B + 1 + 1 + 1,0,none⟩ v6):=by
 subst hB
 refine ⟨((h.mono hb.size).setCell (p:=⟨W0.heap.size + 1 + 1,0,none⟩) (by show _≤W0.heap.size + 1 + 1; omega) _).setCell (p:=⟨W0.heap.size + 1 + 1 + 1,0,none⟩) (by show _≤W0.heap.size + 1 + 1 + 1; omega) _,?_⟩
 rw [obj_other (g:=W0.heap.size + 1 + 1 + 1) (k:=W0.heap.size + 4) (by omega),obj_other (g:=W0.heap.size + 1 + 1) (k:=W0.heap.size + 4) (by omega),h.block _ hsz]
theorem boxes4 (w:World) (o1:Obj) (v2 v3 v4:Value) (t2 t3 t4:TypeId) (W:World) (hW:(((w.alloc o1).alloc (.cells #[v2] t2)).alloc (.cells #[v3] t3)).alloc (.cells #[v4] t4)=W) :
  W.heap[w.heap.size + 1]?=some (.cells #[v2] t2 (0,0))∧W.heap[w.heap.size + 1 + 1]?=some (.cells #[v3] t3 (0,0))∧W.heap[w.heap.size + 1 + 1 + 1]?=some (.cells #[v4] t4 (0,0)):=by
 subst hW
 exact ⟨heap_old (heap_old (heap_at _ _ _ _ (by simp)) _) _,heap_old (heap_at _ _ _ _ (by simp)) _,heap_at _ _ _ _ (by simp)⟩
def PrT (tl:List (Int×Int)):Prop:=∀ x∈tl,∃ q:Nat,x.1=q∧(q=2∨q∈oddP)
theorem eLo_snoc (f:Int→Nat) (l:List (Int×Int)) (x:Int×Int):LN.eLo f (l ++ [x])=LN.eLo f l + (if x.2 < 0 then x.2 * (LN.hiL f x.1:Int) else x.2 * (f x.1:Int)):=by simp [LN.eLo]
theorem eHi_snoc (f:Int→Nat) (l:List (Int×Int)) (x:Int×Int):LN.eHi f (l ++ [x])=LN.eHi f l + (if x.2 < 0 then x.2 * (f x.1:Int) else x.2 * (LN.hiL f x.1:Int)):=by simp [LN.eHi]
theorem lf_lt {n:Nat} {p:Int} (hp:∃ q:Nat,p=q∧(q=2∨q∈oddP)) (hn:n≤1056):lf n p < 2 ^ (n + 3)∧LN.hiL (lf n) p < 2 ^ (n + 3):=by
 obtain ⟨q,rfl,hq⟩:=hp
 have h:=lgN_le hq hn
 have e:2 ^ (n + 3)=8 * 2 ^ n:=by rw [Nat.pow_add,Nat.mul_comm]
 have h1:=Nat.two_pow_pos n
 have h2:lf n q < 7 * 2 ^ n:=h
 refine ⟨by omega,?_⟩
 unfold LN.hiL
 split <;> omega
theorem abs_mul_lt {k:Int} {a E F:Nat} (hk:k.natAbs < 2 ^ E) (ha:a < 2 ^ F):(k * (a:Int)).natAbs < 2 ^ (E + F):=by
 rw [Int.natAbs_mul,Int.natAbs_natCast,Nat.pow_add]
 exact Nat.mul_lt_mul'' hk ha
theorem eSum_le {n E:Nat} (hn:n≤1056):∀ l:List (Int×Int),PrT l→(∀ x∈l,x.2.natAbs < 2 ^ E)→(LN.eLo (lf n) l).natAbs≤l.length * 2 ^ (E + (n + 3))∧(LN.eHi (lf n) l).natAbs≤l.length * 2 ^ (E + (n + 3))
 | [],_,_=>by simp [LN.eLo,LN.eHi]
 | x :: l,hp,hk=>by
  have ih:=eSum_le hn l (fun y hy=>hp y (List.mem_cons_of_mem _ hy)) (fun y hy=>hk y (List.mem_cons_of_mem _ hy))
  obtain ⟨h1,h2⟩:=lf_lt (hp x List.mem_cons_self) hn
  have hx:=hk x List.mem_cons_self
  have a1:=abs_mul_lt hx h1
  have a2:=abs_mul_lt hx h2
  have e1:LN.eLo (lf n) (x :: l)=(if x.2 < 0 then x.2 * (LN.hiL (lf n) x.1:Int) else x.2 * (lf n x.1:Int)) + LN.eLo (lf n) l:=by simp [LN.eLo]
  have e2:LN.eHi (lf n) (x :: l)=(if x.2 < 0 then x.2 * (lf n x.1:Int) else x.2 * (LN.hiL (lf n) x.1:Int)) + LN.eHi (lf n) l:=by simp [LN.eHi]
  rw [e1,e2,List.length_cons,Nat.add_mul,Nat.one_mul]
  generalize 2 ^ (E + (n + 3))=T at *
  generalize l.length * T=S at *
  constructor
  ·refine Nat.le_trans (Int.natAbs_add_le _ _) ?_
   split <;> omega
  ·refine Nat.le_trans (Int.natAbs_add_le _ _) ?_
   split <;> omega
theorem eSum_num {n E:Nat} (hn:n≤1056) (l:List (Int×Int)) (hl:l.length≤1000) (hp:PrT l) (hk:∀ x∈l,x.2.natAbs < 2 ^ E) :
  (LN.eLo (lf n) l).natAbs < 2 ^ (E + (n + 3) + 10)∧(LN.eHi (lf n) l).natAbs < 2 ^ (E + (n + 3) + 10):=by
 obtain ⟨h1,h2⟩:=eSum_le hn l hp hk
 have h3:l.length * 2 ^ (E + (n + 3))≤1000 * 2 ^ (E + (n + 3)):=Nat.mul_le_mul_right _ hl
 have e:2 ^ (E + (n + 3) + 10)=1024 * 2 ^ (E + (n + 3)):=by rw [Nat.pow_add _ _ 10,Nat.mul_comm]
 have h4:=Nat.two_pow_pos (E + (n + 3))
 rw [e]
 constructor <;> omega
theorem EndI.cast {B:Nat} {n:Int} {s s' t t':ByteArray} {W:World} (h:EndI B n s t W) (e1:s'=s) (e2:t'=t):EndI B n s' t' W:=by subst e1; subst e2; exact h
theorem addZ (w:World) (a b:Int) (K:Nat) (hK:K < 90000) (ha:a.natAbs < 2 ^ K) (hb:b.natAbs < 2 ^ K) (L:Laid w):Gives Tryz.prog 169 #[.string (itx a),.string (itx b)] w (.string (itx (a + b))) :=
 addz_any w a b (num_two ha (by omega)) (num_two hb (by omega)) (num_two (K:=K + 1) (by rw [Nat.pow_succ]; omega) (by omega)) L
theorem mulZ (w:World) (a b:Int) (K M:Nat) (hK:K + M < 90000) (ha:a.natAbs < 2 ^ K) (hb:b.natAbs < 2 ^ M) (L:Laid w):Gives Tryz.prog 134 #[.string (itx a),.string (itx b)] w (.string (itx (a * b))) :=
 mulz_any w a b (num_two ha (by omega)) (num_two hb (by omega)) (num_two (K:=K + M) (by rw [Int.natAbs_mul,Nat.pow_add]; exact Nat.mul_lt_mul'' ha hb) (by omega)) L
def endsAct (w:World) (b1 b2:Option Addr) (d1 d2 D m:Nat) (n:Int) (p:Int) (k:ByteArray):Act:={ tmps := #[.agg (tcells b1 d1 b2 d2 m D),.int .i64 n,.pointer (some ⟨w.heap.size,0,none⟩),.pointer (some ⟨w.heap.size + 1,0,none⟩),.pointer (some ⟨w.heap.size + 1 + 1,0,none⟩),.pointer (some ⟨w.heap.size + 1 + 1 + 1,0,none⟩),.int .i64 p,.string k,undef,undef,.agg #[.slice b1 m d1,.slice b2 m d2,.string (dec D)],.func (.func 199) #[] #[.pointer (some ⟨w.heap.size + 1 + 1 + 1 + 1,0,none⟩)],.int .i64 p,.string k,undef,undef,undef,undef,undef,undef,undef,undef,undef,undef,undef,undef,undef,undef,undef,undef,undef,undef,undef,undef,undef,undef,undef,undef,undef,undef,undef],defers:=[] }
set_option maxRecDepth 100000 in
set_option maxHeartbeats 8000000 in
theorem ends_any (w:World) (b1 b2:Option Addr) (d1 d2 D n E:Nat) (tl:List (Int×Int)) (T:TermsAt w tl b1 b2) (hP:PrT tl) (hE:E≤20000) (hK:∀ x∈tl,x.2.natAbs < 2 ^ E) (hn:n≤1056) (L:Laid w) :
  Gives Tryz.prog 131 #[.agg (tcells b1 d1 b2 d2 tl.length D),.int .i64 n] w (.tuple #[.string (itx (LN.eLo (lf n) tl)),.string (itx (LN.eHi (lf n) tl))]):=by
 unfold Gives
 have hr1:=T.r1
 have hr2:=T.r2
 have hl:=T.len
 refine (callsIn_wide (n:=3)).1 ?_
 refine callsIn_of_wp_marks Tryz.func131 rfl trivial ?_ rfl
 simp only [Tryz.ntmps131,List.size_toArray,List.length_cons,List.length_nil,Nat.reduceAdd,Nat.reduceSub,Array.replicate_succ,Array.replicate_zero,List.push_toArray,List.append_toArray,List.nil_append,List.cons_append]
 have HT:=Lib.hid T
 have HL:=Lib.hid L
 have Hn:=Lib.hid hn
 have HE:=Lib.hid hE
 have HP:=Lib.hid hP
 have HK:=Lib.hid hK
 have H0:Hid (itx 0=⟨#[48]⟩):=by show _=_; rw [show (0:Int)=((0:Nat):Int) from rfl,itx_nat,dec_zero]
 clear L T hn hE hK hP
 gi_wp2_with fail
 obtain ⟨w0,hw0⟩:∃ w0,(((w.alloc (Obj.cells (tcells b1 d1 b2 d2 tl.length D) 168)).alloc (Obj.cells #[Value.int IntKind.i64 n] 3)).alloc (Obj.cells #[Value.string ⟨#[48]⟩] 54)).alloc (Obj.cells #[Value.string ⟨#[48]⟩] 54)=w0:=⟨_,rfl⟩
 have hsz0:w0.heap.size=w.heap.size + 4:=by rw [← hw0]; simp
 have hB0:Below w.heap.size w w0:=by rw [← hw0]; exact ((((Below.refl _ w).alloc nr_ _).alloc (by simp) _).alloc (by simp; omega) _).alloc (by simp; omega) _
 have hbox:=boxes4 w _ _ _ _ _ _ _ w0 hw0
 rw [hw0]
 refine ⟨trivial,?_⟩
 refine (callsIn_wide.2 (all_any w0 b1 b2 d1 d2 tl.length D)).mono ?_
 rintro e w' ⟨rfl,rfl⟩
 rw [hsz0]
 have hB5:(w0.alloc (.cells (tcells b1 d1 b2 d2 tl.length D) 168)).heap[w.heap.size + 4]?=some (.cells (tcells b1 d1 b2 d2 tl.length D) 168 (0,0)):=by
  rw [← hsz0]; exact Go.heap_alloc_new w0 _
 have hB1:Below w.heap.size w (w0.alloc (.cells (tcells b1 d1 b2 d2 tl.length D) 168)):=hB0.alloc (by omega) _
 have hsz1:(w0.alloc (.cells (tcells b1 d1 b2 d2 tl.length D) 168)).heap.size=w.heap.size + 5:=by rw [World.size_alloc,hsz0]
 have hI1:EndI w.heap.size n (itx (LN.eLo (lf n) [])) (itx (LN.eHi (lf n) [])) (w0.alloc (.cells (tcells b1 d1 b2 d2 tl.length D) 168)):=by
  obtain ⟨h1,h2,h3⟩:=hbox
  have h1:=heap_old h1 (.cells (tcells b1 d1 b2 d2 tl.length D) 168)
  have h2:=heap_old h2 (.cells (tcells b1 d1 b2 d2 tl.length D) 168)
  have h3:=heap_old h3 (.cells (tcells b1 d1 b2 d2 tl.length D) 168)
  have e1:itx (LN.eLo (lf n) [])=⟨#[48]⟩:=H0.out
  have e2:itx (LN.eHi (lf n) [])=⟨#[48]⟩:=H0.out
  rw [e1,e2]
  exact ⟨(one_cell h1).1,(one_cell h2).1,(one_cell h3).1,(one_cell h2).2,(one_cell h3).2,by rw [hsz1]; omega⟩
 clear hB0 hw0 hbox H0
 generalize w0.alloc (.cells (tcells b1 d1 b2 d2 tl.length D) 168)=w1 at *
 gi_wp2_with fail
 refine wpIn_rangeFunc_ownF rfl (by decide) (gf:=199) (lb := #[.pointer (some ⟨w.heap.size + 4,0,none⟩)]) rfl trivial (enters_of Tryz.func199 (by kernel_rfl) rfl)
  (all_stops 2 (by decide) w w1 hB1 (w.heap.size + 4) b1 b2 d1 d2 D tl hl hB5 hr1 hr2) kt_t (kt_b (by rw [hsz1]; omega) (by rw [hsz1]; omega)) (Below.refl _ _) (fun _=>rfl)
  (fun pre W=>EndI w.heap.size n (itx (LN.eLo (lf n) (pre.map Subtype.val))) (itx (LN.eHi (lf n) (pre.map Subtype.val))) W∧Below w.heap.size w W)
  (fun _ _ W=>False∧Below w.heap.size w W)
  (OwnFrom.and (Own.from (fun s A B row hs hg hr=>hs.kept hg hr) _) (ownFrom_below nr_ (by rw [hsz1]; omega)))
  (fun c=>OwnFrom.and (Own.from (fun s A B row hs hg hr=>hs.elim) _) (ownFrom_below nr_ (by rw [hsz1]; omega)))
  ⟨hI1,hB1⟩
  (fun x=>endsAct w b1 b2 d1 d2 D tl.length n x.1.1 (itx x.1.2)) ?assign ?body ?done ?stop
 case assign =>
  intro l x W K hK
  unfold endsAct at hK
  gi_wp2
  exact hK
 case body =>
  rintro l pre ⟨⟨p,k⟩,hmem⟩ W0 ⟨hI,hB⟩ hlen
  have HI:=Lib.hid hI
  have HB:=Lib.hid hB
  have hpp:=HP.out _ hmem
  have hkk:=HK.out _ hmem
  simp only at hpp hkk
  have hn:=Hn.out
  have hE:=HE.out
  obtain ⟨g1,g2⟩:=lf_lt hpp hn
  have hsub:∀ x∈pre.map Subtype.val,x∈tl:=fun x hx=>by
   obtain ⟨y,_,rfl⟩:=List.mem_map.1 hx
   exact y.2
  have hpl:(pre.map Subtype.val).length≤1000:=by rw [List.length_map]; omega
  obtain ⟨s1,s2⟩:=eSum_num hn (pre.map Subtype.val) hpl (fun x hx=>HP.out x (hsub x hx)) (fun x hx=>HK.out x (hsub x hx))
  have e1:LN.eLo (lf n) ((pre ++ [(⟨(p,k),hmem⟩:{x // x∈tl})]).map Subtype.val)=LN.eLo (lf n) (pre.map Subtype.val) + (if k < 0 then (LN.hiL (lf n) p:Int) * k else (lf n p:Int) * k):=by
   rw [List.map_append]
   have:=eLo_snoc (lf n) (pre.map Subtype.val) (p,k)
   simp only at this
   rw [Int.mul_comm k,Int.mul_comm k] at this
   exact this
  have e2:LN.eHi (lf n) ((pre ++ [(⟨(p,k),hmem⟩:{x // x∈tl})]).map Subtype.val)=LN.eHi (lf n) (pre.map Subtype.val) + (if k < 0 then (lf n p:Int) * k else (LN.hiL (lf n) p:Int) * k):=by
   rw [List.map_append]
   have:=eHi_snoc (lf n) (pre.map Subtype.val) (p,k)
   simp only at this
   rw [Int.mul_comm k,Int.mul_comm k] at this
   exact this
  have Hlog:Hid (∀ W,Below w.heap.size w W→Gives Tryz.prog 168 #[.int .i64 p,.int .i64 n] W (.string (dec (lf n p)))):=fun W hW=>by
   obtain ⟨q,rfl,hq⟩:=hpp
   exact log_any W q n hq hn (HL.out.below hW)
  have Hm1:Hid (∀ W,Below w.heap.size w W→Gives Tryz.prog 134 #[.string (dec (lf n p)),.string (itx k)] W (.string (itx ((lf n p:Int) * k)))):=fun W hW=>by
   have:=mulZ W (lf n p:Int) k (n + 3) E (by omega) (by rw [Int.natAbs_natCast]; exact g1) hkk (HL.out.below hW)
   rw [itx_nat] at this; exact this
  have Hm2:Hid (∀ W,Below w.heap.size w W→Gives Tryz.prog 134 #[.string (dec (LN.hiL (lf n) p)),.string (itx k)] W (.string (itx ((LN.hiL (lf n) p:Int) * k)))):=fun W hW=>by
   have:=mulZ W (LN.hiL (lf n) p:Int) k (n + 3) E (by omega) (by rw [Int.natAbs_natCast]; exact g2) hkk (HL.out.below hW)
   rw [itx_nat] at this; exact this
  have Hsg:Hid (∀ W,Below w.heap.size w W→Gives Tryz.prog 93 #[.string (itx k)] W (.int .i64 k.sign)):=fun W _=>sign_any W k
  have t1:((lf n p:Int) * k).natAbs < 2 ^ (E + (n + 3) + 10):=by
   have:=abs_mul_lt hkk g1
   rw [Int.mul_comm] at this
   exact Nat.lt_of_lt_of_le this (Nat.pow_le_pow_right (by decide) (by omega))
  have t2:((LN.hiL (lf n) p:Int) * k).natAbs < 2 ^ (E + (n + 3) + 10):=by
   have:=abs_mul_lt hkk g2
   rw [Int.mul_comm] at this
   exact Nat.lt_of_lt_of_le this (Nat.pow_le_pow_right (by decide) (by omega))
  have hF:E + (n + 3) + 10 < 90000:=by omega
  have one:1 < 2 ^ (n + 3):=Nat.one_lt_two_pow (by omega)
  have Had:Hid (∀ W,Below w.heap.size w W→Gives Tryz.prog 169 #[.string (dec (lf n p)),.string ⟨#[49]⟩] W (.string (dec (lf n p + 1)))):=fun W hW=>by
   have:=addD W (lf n p) 1 (n + 3) (by omega) g1 one (HL.out.below hW)
   rw [dec_one] at this; exact this
  generalize E + (n + 3) + 10=F at *
  unfold endsAct
  have Hk0:=Lib.hid (Below.refl W0.heap.size W0)
  have HI0:=HI
  have HB0:=HB
  have hw2:(k.sign = -1∧k < 0)∨(0≤k.sign∧k.sign≤1∧¬ k < 0):=by
   rcases Int.lt_trichotomy k 0 with h | h | h
   ·exact .inl ⟨Int.sign_eq_neg_one_of_neg h,h⟩
   ·subst h; exact .inr ⟨by decide,by decide,by decide⟩
   ·rw [Int.sign_eq_one_of_pos h]; exact .inr ⟨by decide,by decide,by omega⟩
  clear hI hB hr1 hr2 hI1 hB1 hB5 hpp hkk hsub g1 g2 one
  have hc3:=HI0.out.c3
  have hc4:=HI0.out.c4
  have hc5:=HI0.out.c5
  have hf4:=HI0.out.f4
  have hf5:=HI0.out.f5
  have HLL:Hid (∀ W,Below w.heap.size w W→Laid W):=fun W hW=>HL.out.below hW
  by_cases hp2:p=2
  ·subst hp2
   have hH:LN.hiL (lf n) 2=lf n 2:=by unfold LN.hiL; rw [if_pos rfl]
   rw [hH] at Hm2 e1 e2 t2
   clear hH
   rcases hw2 with ⟨hs,hk⟩ | ⟨hs1,hs2,hk⟩
   ·rw [if_pos hk] at e1 e2
    rw [hs] at Hsg
    clear hs
    have Ha1:Hid (∀ W,Below w.heap.size w W→Gives Tryz.prog 169 #[.string (itx (LN.eLo (lf n) (pre.map Subtype.val))),.string (itx ((lf n 2:Int) * k))] W (.string (itx ((LN.eLo (lf n) (pre.map Subtype.val)) + (lf n 2:Int) * k)))):=fun W hW=>addZ W _ _ F hF s1 t2 (HLL.out W hW)
    have Ha2:Hid (∀ W,Below w.heap.size w W→Gives Tryz.prog 169 #[.string (itx (LN.eHi (lf n) (pre.map Subtype.val))),.string (itx ((lf n 2:Int) * k))] W (.string (itx ((LN.eHi (lf n) (pre.map Subtype.val)) + (lf n 2:Int) * k)))):=fun W hW=>addZ W _ _ F hF s2 t1 (HLL.out W hW)
    rw [← e1] at Ha1
    rw [← e2] at Ha2
    clear e1 e2 s1 s2 t1 t2 HLL hlen hpl hF
    obtain ⟨slo2,hq1⟩:∃ s,itx (LN.eLo (lf n) ((pre ++ [(⟨(2,k),hmem⟩:{x // x∈tl})]).map Subtype.val))=s:=⟨_,rfl⟩
    obtain ⟨shi2,hq2⟩:∃ s,itx (LN.eHi (lf n) ((pre ++ [(⟨(2,k),hmem⟩:{x // x∈tl})]).map Subtype.val))=s:=⟨_,rfl⟩
    rw [hq1] at Ha1
    rw [hq2] at Ha2
    have Hf1:=Lib.hid hq1
    have Hf2:=Lib.hid hq2
    clear hq1 hq2
    generalize itx (LN.eLo (lf n) (pre.map Subtype.val))=slo at *
    generalize itx (LN.eHi (lf n) (pre.map Subtype.val))=shi at *
    generalize itx k=sk at *
    generalize itx ((lf n 2:Int) * k)=sa at *
    generalize dec (lf n 2)=sL at *
    clear Had
    gi_wp2_with fail
    refine ⟨trivial,?_⟩
    refine (CallsIn.inRound l (callsIn_wide.2 (Hlog.out W0 HB0.out))).mono ?_
    rintro e W1 ⟨rfl,hb⟩
    have HI1:=Lib.hid (HI0.out.below hb)
    have HB1:=Lib.hid (HB0.out.trans (hb.mono HB0.out.size))
    have Hk1:=Lib.hid (Hk0.out.trans (hb.mono Hk0.out.size))
    clear hb hc3 hc4 hc5 hf4 hf5 Hlog HI0 HB0 Hk0
    have hc3:=HI1.out.c3
    have hc4:=HI1.out.c4
    have hc5:=HI1.out.c5
    have hf4:=HI1.out.f4
    have hf5:=HI1.out.f5
    gi_wp2_with fail
    refine ⟨trivial,?_⟩
    refine (CallsIn.inRound l (callsIn_wide.2 (Hm1.out W1 HB1.out))).mono ?_
    rintro e W2 ⟨rfl,hb⟩
    have HI2:=Lib.hid (HI1.out.below hb)
    have HB2:=Lib.hid (HB1.out.trans (hb.mono HB1.out.size))
    have Hk2:=Lib.hid (Hk1.out.trans (hb.mono Hk1.out.size))
    clear hb hc3 hc4 hc5 hf4 hf5 Hm1 HI1 HB1 Hk1
    have hc3:=HI2.out.c3
    have hc4:=HI2.out.c4
    have hc5:=HI2.out.c5
    have hf4:=HI2.out.f4
    have hf5:=HI2.out.f5
    gi_wp2_with fail
    refine ⟨trivial,?_⟩
    refine (CallsIn.inRound l (callsIn_wide.2 (Hm2.out W2 HB2.out))).mono ?_
    rintro e W3 ⟨rfl,hb⟩
    have HI3:=Lib.hid (HI2.out.below hb)
    have HB3:=Lib.hid (HB2.out.trans (hb.mono HB2.out.size))
    have Hk3:=Lib.hid (Hk2.out.trans (hb.mono Hk2.out.size))
    clear hb hc3 hc4 hc5 hf4 hf5 Hm2 HI2 HB2 Hk2
    have hc3:=HI3.out.c3
    have hc4:=HI3.out.c4
    have hc5:=HI3.out.c5
    have hf4:=HI3.out.f4
    have hf5:=HI3.out.f5
    gi_wp2_with fail
    refine ⟨trivial,?_⟩
    refine (CallsIn.inRound l (callsIn_wide.2 (Hsg.out W3 HB3.out))).mono ?_
    rintro e W4 ⟨rfl,hb⟩
    have HI4:=Lib.hid (HI3.out.below hb)
    have HB4:=Lib.hid (HB3.out.trans (hb.mono HB3.out.size))
    have Hk4:=Lib.hid (Hk3.out.trans (hb.mono Hk3.out.size))
    clear hb hc3 hc4 hc5 hf4 hf5 Hsg HI3 HB3 Hk3
    have hc3:=HI4.out.c3
    have hc4:=HI4.out.c4
    have hc5:=HI4.out.c5
    have hf4:=HI4.out.f4
    have hf5:=HI4.out.f5
    gi_wp2_with fail
    have q0:=@CellW.h
    have q9:Nonempty (CellW ⟨w.heap.size + 1 + 1,0,none⟩ (.string slo)):=⟨⟨W4,HI4.out.c4⟩⟩
    have q8:Nonempty (CellW ⟨w.heap.size + 1 + 1 + 1,0,none⟩ (.string shi)):=⟨⟨W4,HI4.out.c5⟩⟩
    refine wpIn_region_readers2 [(8,0),(1,1),(9,3),(1,4),(0,2),(0,5),(0,6),(0,7)]
     [(6,fun w'=>∃ p:CellW ⟨w.heap.size + 1 + 1,0,none⟩ (.string slo),w'=p.w),(7,fun w'=>∃ p:CellW ⟨w.heap.size + 1 + 1 + 1,0,none⟩ (.string shi),w'=p.w)]
     (by kernel_rfl) (by kernel_rfl) ⟨.inr ⟨⟨{ W4 with drawn:=W4.drawn + 1 },HI4.out.c4⟩,rfl⟩,.inr ⟨⟨{ W4 with drawn:=W4.drawn + 1 },HI4.out.c5⟩,rfl⟩,trivial⟩ ?_
    refine walkR2_read (s:=6) _ (List.mem_cons_self ..) rfl ?_
    simp only [dz_,tsc_,tz_]
    go_big_quiet_step (fail)
    refine wpQuiet_nil ?_
    refine walkR2_any ?_
    simp only [dsc_,dz_,tsc_,tz_]
    go_big_quiet_step (fail)
    refine wpQuiet_nil ?_
    refine walkR2_read (s:=7) _ (List.mem_cons_of_mem _ (List.mem_cons_self ..)) rfl ?_
    simp only [dsc_,dz_,tsc_,tz_]
    go_big_quiet_step (fail)
    refine wpQuiet_nil ?_
    refine walkR2_any ?_
    simp only [dsc_,dz_,tsc_,tz_]
    go_big_quiet_step (fail)
    refine wpQuiet_nil ?_
    clear q0 q8 q9 hc3 hc4 hc5 hf4 hf5
    obtain ⟨V0,hV0⟩:∃ V0:World,{ heap:=W4.heap,tape:=W4.tape,drawn:=W4.drawn + 1,os:=W4.os,output:=W4.output }=V0:=⟨_,rfl⟩
    rw [hV0]
    have hdr:Below W4.heap.size W4 V0:=by rw [← hV0]; exact ⟨rfl,rfl,rfl,Nat.le_refl _,fun _ _=>rfl⟩
    have HJ0:=Lib.hid (HI4.out.below hdr)
    have HC0:=Lib.hid (HB4.out.trans (hdr.mono HB4.out.size))
    have Hl0:=Lib.hid (Hk4.out.trans (hdr.mono Hk4.out.size))
    clear hV0 hdr HI4 HB4 Hk4
    refine walkR2_move ?_
    simp only [dsc_,dz_,tsc_,tz_]
    go_wp2_with fail
    refine Calls.mono (Ha1.out V0 HC0.out) ?_
    rintro e V1 ⟨rfl,hb⟩
    have HJ1:=Lib.hid (HJ0.out.below hb)
    have HC1:=Lib.hid (HC0.out.trans (hb.mono HC0.out.size))
    have Hl1:=Lib.hid (Hl0.out.trans (hb.mono Hl0.out.size))
    clear hb HJ0 HC0 Hl0 Ha1
    go_wp2_with fail
    refine ⟨⟨.inr ⟨⟨V1,HJ1.out.c4⟩,rfl⟩,.inr ⟨⟨V1,HJ1.out.c5⟩,rfl⟩,trivial⟩,?_⟩
    refine walkR2_move ?_
    simp only [dsc_,dz_,tsc_,tz_]
    go_wp2_with fail
    refine Calls.mono (Ha2.out V1 HC1.out) ?_
    rintro e V2 ⟨rfl,hb⟩
    have HJ2:=Lib.hid (HJ1.out.below hb)
    have HC2:=Lib.hid (HC1.out.trans (hb.mono HC1.out.size))
    have Hl2:=Lib.hid (Hl1.out.trans (hb.mono Hl1.out.size))
    clear hb HJ1 HC1 Hl1 Ha2
    go_wp2_with fail
    refine ⟨⟨.inr ⟨⟨V2,HJ2.out.c4⟩,rfl⟩,.inr ⟨⟨V2,HJ2.out.c5⟩,rfl⟩,trivial⟩,?_⟩
    have hc4:=HJ2.out.c4
    have hc5:=HJ2.out.c5
    have hf4:=HJ2.out.f4
    have hf5:=HJ2.out.f5
    refine walkR2_move ?_
    simp only [dsc_,dz_,tsc_,tz_]
    go_wp2_with fail
    have hc52:(V2.setCell ⟨w.heap.size + 1 + 1,0,none⟩ (.string slo2)).cell? ⟨w.heap.size + 1 + 1 + 1,0,none⟩=some (.string shi):=by
     rw [World.cell?_setCell_other _ _ _ _ (by simp)]; exact HJ2.out.c5
    have hf52:(V2.setCell ⟨w.heap.size + 1 + 1,0,none⟩ (.string slo2)).frozen? ⟨w.heap.size + 1 + 1 + 1,0,none⟩=false:=by rw [World.frozen?_setCell]; exact HJ2.out.f5
    refine ⟨⟨.inl rfl,.inr ⟨⟨V2.setCell ⟨w.heap.size + 1 + 1,0,none⟩ (.string slo2),hc52⟩,rfl⟩,trivial⟩,?_⟩
    clear hc4 hc5 hf4 hf5
    refine walkR2_move ?_
    simp only [dsc_,dz_,tsc_,tz_]
    go_wp2_with fail
    refine ⟨⟨.inl rfl,.inl rfl,trivial⟩,?_⟩
    simp only [walkR2]
    exact ⟨(keeps_of_below Hl2.out).trans ((KeepsOthers.setCell _ _ _).trans (KeepsOthers.setCell _ _ _)),ends_kt rfl HB.out HI.out.sz Hl2.out _ _,(HJ2.out.stored _ _).cast Hf1.out Hf2.out,near_below HC2.out _ _⟩
   ·rw [if_neg hk] at e1 e2
    have hs':¬ k.sign < 0:=by omega
    have Ha1:Hid (∀ W,Below w.heap.size w W→Gives Tryz.prog 169 #[.string (itx (LN.eLo (lf n) (pre.map Subtype.val))),.string (itx ((lf n 2:Int) * k))] W (.string (itx ((LN.eLo (lf n) (pre.map Subtype.val)) + (lf n 2:Int) * k)))):=fun W hW=>addZ W _ _ F hF s1 t1 (HLL.out W hW)
    have Ha2:Hid (∀ W,Below w.heap.size w W→Gives Tryz.prog 169 #[.string (itx (LN.eHi (lf n) (pre.map Subtype.val))),.string (itx ((lf n 2:Int) * k))] W (.string (itx ((LN.eHi (lf n) (pre.map Subtype.val)) + (lf n 2:Int) * k)))):=fun W hW=>addZ W _ _ F hF s2 t2 (HLL.out W hW)
    generalize k.sign=sg at *
    rw [← e1] at Ha1
    rw [← e2] at Ha2
    clear e1 e2 s1 s2 t1 t2 HLL hlen hpl hF
    obtain ⟨slo2,hq1⟩:∃ s,itx (LN.eLo (lf n) ((pre ++ [(⟨(2,k),hmem⟩:{x // x∈tl})]).map Subtype.val))=s:=⟨_,rfl⟩
    obtain ⟨shi2,hq2⟩:∃ s,itx (LN.eHi (lf n) ((pre ++ [(⟨(2,k),hmem⟩:{x // x∈tl})]).map Subtype.val))=s:=⟨_,rfl⟩
    rw [hq1] at Ha1
    rw [hq2] at Ha2
    have Hf1:=Lib.hid hq1
    have Hf2:=Lib.hid hq2
    clear hq1 hq2
    generalize itx (LN.eLo (lf n) (pre.map Subtype.val))=slo at *
    generalize itx (LN.eHi (lf n) (pre.map Subtype.val))=shi at *
    generalize itx k=sk at *
    generalize itx ((lf n 2:Int) * k)=sa at *
    generalize dec (lf n 2)=sL at *
    clear Had
    gi_wp2_with fail
    refine ⟨trivial,?_⟩
    refine (CallsIn.inRound l (callsIn_wide.2 (Hlog.out W0 HB0.out))).mono ?_
    rintro e W1 ⟨rfl,hb⟩
    have HI1:=Lib.hid (HI0.out.below hb)
    have HB1:=Lib.hid (HB0.out.trans (hb.mono HB0.out.size))
    have Hk1:=Lib.hid (Hk0.out.trans (hb.mono Hk0.out.size))
    clear hb hc3 hc4 hc5 hf4 hf5 Hlog HI0 HB0 Hk0
    have hc3:=HI1.out.c3
    have hc4:=HI1.out.c4
    have hc5:=HI1.out.c5
    have hf4:=HI1.out.f4
    have hf5:=HI1.out.f5
    gi_wp2_with fail
    refine ⟨trivial,?_⟩
    refine (CallsIn.inRound l (callsIn_wide.2 (Hm1.out W1 HB1.out))).mono ?_
    rintro e W2 ⟨rfl,hb⟩
    have HI2:=Lib.hid (HI1.out.below hb)
    have HB2:=Lib.hid (HB1.out.trans (hb.mono HB1.out.size))
    have Hk2:=Lib.hid (Hk1.out.trans (hb.mono Hk1.out.size))
    clear hb hc3 hc4 hc5 hf4 hf5 Hm1 HI1 HB1 Hk1
    have hc3:=HI2.out.c3
    have hc4:=HI2.out.c4
    have hc5:=HI2.out.c5
    have hf4:=HI2.out.f4
    have hf5:=HI2.out.f5
    gi_wp2_with fail
    refine ⟨trivial,?_⟩
    refine (CallsIn.inRound l (callsIn_wide.2 (Hm2.out W2 HB2.out))).mono ?_
    rintro e W3 ⟨rfl,hb⟩
    have HI3:=Lib.hid (HI2.out.below hb)
    have HB3:=Lib.hid (HB2.out.trans (hb.mono HB2.out.size))
    have Hk3:=Lib.hid (Hk2.out.trans (hb.mono Hk2.out.size))
    clear hb hc3 hc4 hc5 hf4 hf5 Hm2 HI2 HB2 Hk2
    have hc3:=HI3.out.c3
    have hc4:=HI3.out.c4
    have hc5:=HI3.out.c5
    have hf4:=HI3.out.f4
    have hf5:=HI3.out.f5
    gi_wp2_with fail
    refine ⟨trivial,?_⟩
    refine (CallsIn.inRound l (callsIn_wide.2 (Hsg.out W3 HB3.out))).mono ?_
    rintro e W4 ⟨rfl,hb⟩
    have HI4:=Lib.hid (HI3.out.below hb)
    have HB4:=Lib.hid (HB3.out.trans (hb.mono HB3.out.size))
    have Hk4:=Lib.hid (Hk3.out.trans (hb.mono Hk3.out.size))
    clear hb hc3 hc4 hc5 hf4 hf5 Hsg HI3 HB3 Hk3
    have hc3:=HI4.out.c3
    have hc4:=HI4.out.c4
    have hc5:=HI4.out.c5
    have hf4:=HI4.out.f4
    have hf5:=HI4.out.f5
    gi_wp2_with fail
    have q0:=@CellW.h
    have q9:Nonempty (CellW ⟨w.heap.size + 1 + 1,0,none⟩ (.string slo)):=⟨⟨W4,HI4.out.c4⟩⟩
    have q8:Nonempty (CellW ⟨w.heap.size + 1 + 1 + 1,0,none⟩ (.string shi)):=⟨⟨W4,HI4.out.c5⟩⟩
    refine wpIn_region_readers2 [(8,0),(1,1),(9,3),(1,4),(0,2),(0,5),(0,6),(0,7)]
     [(6,fun w'=>∃ p:CellW ⟨w.heap.size + 1 + 1,0,none⟩ (.string slo),w'=p.w),(7,fun w'=>∃ p:CellW ⟨w.heap.size + 1 + 1 + 1,0,none⟩ (.string shi),w'=p.w)]
     (by kernel_rfl) (by kernel_rfl) ⟨.inr ⟨⟨{ W4 with drawn:=W4.drawn + 1 },HI4.out.c4⟩,rfl⟩,.inr ⟨⟨{ W4 with drawn:=W4.drawn + 1 },HI4.out.c5⟩,rfl⟩,trivial⟩ ?_
    refine walkR2_read (s:=6) _ (List.mem_cons_self ..) rfl ?_
    simp only [dz_,tsc_,tz_]
    go_big_quiet_step (fail)
    refine wpQuiet_nil ?_
    refine walkR2_any ?_
    simp only [dsc_,dz_,tsc_,tz_]
    go_big_quiet_step (fail)
    refine wpQuiet_nil ?_
    refine walkR2_read (s:=7) _ (List.mem_cons_of_mem _ (List.mem_cons_self ..)) rfl ?_
    simp only [dsc_,dz_,tsc_,tz_]
    go_big_quiet_step (fail)
    refine wpQuiet_nil ?_
    refine walkR2_any ?_
    simp only [dsc_,dz_,tsc_,tz_]
    go_big_quiet_step (fail)
    refine wpQuiet_nil ?_
    clear q0 q8 q9 hc3 hc4 hc5 hf4 hf5
    obtain ⟨V0,hV0⟩:∃ V0:World,{ heap:=W4.heap,tape:=W4.tape,drawn:=W4.drawn + 1,os:=W4.os,output:=W4.output }=V0:=⟨_,rfl⟩
    rw [hV0]
    have hdr:Below W4.heap.size W4 V0:=by rw [← hV0]; exact ⟨rfl,rfl,rfl,Nat.le_refl _,fun _ _=>rfl⟩
    have HJ0:=Lib.hid (HI4.out.below hdr)
    have HC0:=Lib.hid (HB4.out.trans (hdr.mono HB4.out.size))
    have Hl0:=Lib.hid (Hk4.out.trans (hdr.mono Hk4.out.size))
    clear hV0 hdr HI4 HB4 Hk4
    refine walkR2_move ?_
    simp only [dsc_,dz_,tsc_,tz_]
    go_wp2_with fail
    refine Calls.mono (Ha1.out V0 HC0.out) ?_
    rintro e V1 ⟨rfl,hb⟩
    have HJ1:=Lib.hid (HJ0.out.below hb)
    have HC1:=Lib.hid (HC0.out.trans (hb.mono HC0.out.size))
    have Hl1:=Lib.hid (Hl0.out.trans (hb.mono Hl0.out.size))
    clear hb HJ0 HC0 Hl0 Ha1
    go_wp2_with fail
    refine ⟨⟨.inr ⟨⟨V1,HJ1.out.c4⟩,rfl⟩,.inr ⟨⟨V1,HJ1.out.c5⟩,rfl⟩,trivial⟩,?_⟩
    refine walkR2_move ?_
    simp only [dsc_,dz_,tsc_,tz_]
    go_wp2_with fail
    refine Calls.mono (Ha2.out V1 HC1.out) ?_
    rintro e V2 ⟨rfl,hb⟩
    have HJ2:=Lib.hid (HJ1.out.below hb)
    have HC2:=Lib.hid (HC1.out.trans (hb.mono HC1.out.size))
    have Hl2:=Lib.hid (Hl1.out.trans (hb.mono Hl1.out.size))
    clear hb HJ1 HC1 Hl1 Ha2
    go_wp2_with fail
    refine ⟨⟨.inr ⟨⟨V2,HJ2.out.c4⟩,rfl⟩,.inr ⟨⟨V2,HJ2.out.c5⟩,rfl⟩,trivial⟩,?_⟩
    have hc4:=HJ2.out.c4
    have hc5:=HJ2.out.c5
    have hf4:=HJ2.out.f4
    have hf5:=HJ2.out.f5
    refine walkR2_move ?_
    simp only [dsc_,dz_,tsc_,tz_]
    go_wp2_with fail
    have hc52:(V2.setCell ⟨w.heap.size + 1 + 1,0,none⟩ (.string slo2)).cell? ⟨w.heap.size + 1 + 1 + 1,0,none⟩=some (.string shi):=by
     rw [World.cell?_setCell_other _ _ _ _ (by simp)]; exact HJ2.out.c5
    have hf52:(V2.setCell ⟨w.heap.size + 1 + 1,0,none⟩ (.string slo2)).frozen? ⟨w.heap.size + 1 + 1 + 1,0,none⟩=false:=by rw [World.frozen?_setCell]; exact HJ2.out.f5
    refine ⟨⟨.inl rfl,.inr ⟨⟨V2.setCell ⟨w.heap.size + 1 + 1,0,none⟩ (.string slo2),hc52⟩,rfl⟩,trivial⟩,?_⟩
    clear hc4 hc5 hf4 hf5
    refine walkR2_move ?_
    simp only [dsc_,dz_,tsc_,tz_]
    go_wp2_with fail
    refine ⟨⟨.inl rfl,.inl rfl,trivial⟩,?_⟩
    simp only [walkR2]
    exact ⟨(keeps_of_below Hl2.out).trans ((KeepsOthers.setCell _ _ _).trans (KeepsOthers.setCell _ _ _)),ends_kt rfl HB.out HI.out.sz Hl2.out _ _,(HJ2.out.stored _ _).cast Hf1.out Hf2.out,near_below HC2.out _ _⟩
  ·have hH:LN.hiL (lf n) p=lf n p + 1:=by unfold LN.hiL; rw [if_neg hp2]
   rw [hH] at Hm2 e1 e2 t2
   have hp2':(p == 2)=false:=by rw [beq_eq_false_iff_ne]; exact hp2
   clear hH
   rcases hw2 with ⟨hs,hk⟩ | ⟨hs1,hs2,hk⟩
   ·rw [if_pos hk] at e1 e2
    rw [hs] at Hsg
    clear hs
    have Ha1:Hid (∀ W,Below w.heap.size w W→Gives Tryz.prog 169 #[.string (itx (LN.eLo (lf n) (pre.map Subtype.val))),.string (itx (((lf n p + 1:Nat):Int) * k))] W (.string (itx ((LN.eLo (lf n) (pre.map Subtype.val)) + ((lf n p + 1:Nat):Int) * k)))):=fun W hW=>addZ W _ _ F hF s1 t2 (HLL.out W hW)
    have Ha2:Hid (∀ W,Below w.heap.size w W→Gives Tryz.prog 169 #[.string (itx (LN.eHi (lf n) (pre.map Subtype.val))),.string (itx ((lf n p:Int) * k))] W (.string (itx ((LN.eHi (lf n) (pre.map Subtype.val)) + (lf n p:Int) * k)))):=fun W hW=>addZ W _ _ F hF s2 t1 (HLL.out W hW)
    rw [← e1] at Ha1
    rw [← e2] at Ha2
    clear e1 e2 s1 s2 t1 t2 HLL hlen hpl hF
    obtain ⟨slo2,hq1⟩:∃ s,itx (LN.eLo (lf n) ((pre ++ [(⟨(p,k),hmem⟩:{x // x∈tl})]).map Subtype.val))=s:=⟨_,rfl⟩
    obtain ⟨shi2,hq2⟩:∃ s,itx (LN.eHi (lf n) ((pre ++ [(⟨(p,k),hmem⟩:{x // x∈tl})]).map Subtype.val))=s:=⟨_,rfl⟩
    rw [hq1] at Ha1
    rw [hq2] at Ha2
    have Hf1:=Lib.hid hq1
    have Hf2:=Lib.hid hq2
    clear hq1 hq2
    generalize itx (LN.eLo (lf n) (pre.map Subtype.val))=slo at *
    generalize itx (LN.eHi (lf n) (pre.map Subtype.val))=shi at *
    generalize itx k=sk at *
    generalize itx ((lf n p:Int) * k)=sa at *
    generalize itx (((lf n p + 1:Nat):Int) * k)=sb at *
    generalize dec (lf n p + 1)=sH at *
    generalize dec (lf n p)=sL at *
    gi_wp2_with fail
    refine ⟨trivial,?_⟩
    refine (CallsIn.inRound l (callsIn_wide.2 (Hlog.out W0 HB0.out))).mono ?_
    rintro e W1 ⟨rfl,hb⟩
    have HI1:=Lib.hid (HI0.out.below hb)
    have HB1:=Lib.hid (HB0.out.trans (hb.mono HB0.out.size))
    have Hk1:=Lib.hid (Hk0.out.trans (hb.mono Hk0.out.size))
    clear hb hc3 hc4 hc5 hf4 hf5 Hlog HI0 HB0 Hk0
    have hc3:=HI1.out.c3
    have hc4:=HI1.out.c4
    have hc5:=HI1.out.c5
    have hf4:=HI1.out.f4
    have hf5:=HI1.out.f5
    gi_wp2_with fail
    refine ⟨trivial,?_⟩
    refine (CallsIn.inRound l (callsIn_wide.2 (Had.out W1 HB1.out))).mono ?_
    rintro e W2 ⟨rfl,hb⟩
    have HI2:=Lib.hid (HI1.out.below hb)
    have HB2:=Lib.hid (HB1.out.trans (hb.mono HB1.out.size))
    have Hk2:=Lib.hid (Hk1.out.trans (hb.mono Hk1.out.size))
    clear hb hc3 hc4 hc5 hf4 hf5 Had HI1 HB1 Hk1
    have hc3:=HI2.out.c3
    have hc4:=HI2.out.c4
    have hc5:=HI2.out.c5
    have hf4:=HI2.out.f4
    have hf5:=HI2.out.f5
    gi_wp2_with fail
    refine ⟨trivial,?_⟩
    refine (CallsIn.inRound l (callsIn_wide.2 (Hm1.out W2 HB2.out))).mono ?_
    rintro e W3 ⟨rfl,hb⟩
    have HI3:=Lib.hid (HI2.out.below hb)
    have HB3:=Lib.hid (HB2.out.trans (hb.mono HB2.out.size))
    have Hk3:=Lib.hid (Hk2.out.trans (hb.mono Hk2.out.size))
    clear hb hc3 hc4 hc5 hf4 hf5 Hm1 HI2 HB2 Hk2
    have hc3:=HI3.out.c3
    have hc4:=HI3.out.c4
    have hc5:=HI3.out.c5
    have hf4:=HI3.out.f4
    have hf5:=HI3.out.f5
    gi_wp2_with fail
    refine ⟨trivial,?_⟩
    refine (CallsIn.inRound l (callsIn_wide.2 (Hm2.out W3 HB3.out))).mono ?_
    rintro e W4 ⟨rfl,hb⟩
    have HI4:=Lib.hid (HI3.out.below hb)
    have HB4:=Lib.hid (HB3.out.trans (hb.mono HB3.out.size))
    have Hk4:=Lib.hid (Hk3.out.trans (hb.mono Hk3.out.size))
    clear hb hc3 hc4 hc5 hf4 hf5 Hm2 HI3 HB3 Hk3
    have hc3:=HI4.out.c3
    have hc4:=HI4.out.c4
    have hc5:=HI4.out.c5
    have hf4:=HI4.out.f4
    have hf5:=HI4.out.f5
    gi_wp2_with fail
    refine ⟨trivial,?_⟩
    refine (CallsIn.inRound l (callsIn_wide.2 (Hsg.out W4 HB4.out))).mono ?_
    rintro e W5 ⟨rfl,hb⟩
    have HI5:=Lib.hid (HI4.out.below hb)
    have HB5:=Lib.hid (HB4.out.trans (hb.mono HB4.out.size))
    have Hk5:=Lib.hid (Hk4.out.trans (hb.mono Hk4.out.size))
    clear hb hc3 hc4 hc5 hf4 hf5 Hsg HI4 HB4 Hk4
    have hc3:=HI5.out.c3
    have hc4:=HI5.out.c4
    have hc5:=HI5.out.c5
    have hf4:=HI5.out.f4
    have hf5:=HI5.out.f5
    gi_wp2_with fail
    have q0:=@CellW.h
    have q9:Nonempty (CellW ⟨w.heap.size + 1 + 1,0,none⟩ (.string slo)):=⟨⟨W5,HI5.out.c4⟩⟩
    have q8:Nonempty (CellW ⟨w.heap.size + 1 + 1 + 1,0,none⟩ (.string shi)):=⟨⟨W5,HI5.out.c5⟩⟩
    refine wpIn_region_readers2 [(8,0),(1,1),(9,3),(1,4),(0,2),(0,5),(0,6),(0,7)]
     [(6,fun w'=>∃ p:CellW ⟨w.heap.size + 1 + 1,0,none⟩ (.string slo),w'=p.w),(7,fun w'=>∃ p:CellW ⟨w.heap.size + 1 + 1 + 1,0,none⟩ (.string shi),w'=p.w)]
     (by kernel_rfl) (by kernel_rfl) ⟨.inr ⟨⟨{ W5 with drawn:=W5.drawn + 1 },HI5.out.c4⟩,rfl⟩,.inr ⟨⟨{ W5 with drawn:=W5.drawn + 1 },HI5.out.c5⟩,rfl⟩,trivial⟩ ?_
    refine walkR2_read (s:=6) _ (List.mem_cons_self ..) rfl ?_
    simp only [dz_,tsc_,tz_]
    go_big_quiet_step (fail)
    refine wpQuiet_nil ?_
    refine walkR2_any ?_
    simp only [dsc_,dz_,tsc_,tz_]
    go_big_quiet_step (fail)
    refine wpQuiet_nil ?_
    refine walkR2_read (s:=7) _ (List.mem_cons_of_mem _ (List.mem_cons_self ..)) rfl ?_
    simp only [dsc_,dz_,tsc_,tz_]
    go_big_quiet_step (fail)
    refine wpQuiet_nil ?_
    refine walkR2_any ?_
    simp only [dsc_,dz_,tsc_,tz_]
    go_big_quiet_step (fail)
    refine wpQuiet_nil ?_
    clear q0 q8 q9 hc3 hc4 hc5 hf4 hf5
    obtain ⟨V0,hV0⟩:∃ V0:World,{ heap:=W5.heap,tape:=W5.tape,drawn:=W5.drawn + 1,os:=W5.os,output:=W5.output }=V0:=⟨_,rfl⟩
    rw [hV0]
    have hdr:Below W5.heap.size W5 V0:=by rw [← hV0]; exact ⟨rfl,rfl,rfl,Nat.le_refl _,fun _ _=>rfl⟩
    have HJ0:=Lib.hid (HI5.out.below hdr)
    have HC0:=Lib.hid (HB5.out.trans (hdr.mono HB5.out.size))
    have Hl0:=Lib.hid (Hk5.out.trans (hdr.mono Hk5.out.size))
    clear hV0 hdr HI5 HB5 Hk5
    refine walkR2_move ?_
    simp only [dsc_,dz_,tsc_,tz_]
    go_wp2_with fail
    refine Calls.mono (Ha1.out V0 HC0.out) ?_
    rintro e V1 ⟨rfl,hb⟩
    have HJ1:=Lib.hid (HJ0.out.below hb)
    have HC1:=Lib.hid (HC0.out.trans (hb.mono HC0.out.size))
    have Hl1:=Lib.hid (Hl0.out.trans (hb.mono Hl0.out.size))
    clear hb HJ0 HC0 Hl0 Ha1
    go_wp2_with fail
    refine ⟨⟨.inr ⟨⟨V1,HJ1.out.c4⟩,rfl⟩,.inr ⟨⟨V1,HJ1.out.c5⟩,rfl⟩,trivial⟩,?_⟩
    refine walkR2_move ?_
    simp only [dsc_,dz_,tsc_,tz_]
    go_wp2_with fail
    refine Calls.mono (Ha2.out V1 HC1.out) ?_
    rintro e V2 ⟨rfl,hb⟩
    have HJ2:=Lib.hid (HJ1.out.below hb)
    have HC2:=Lib.hid (HC1.out.trans (hb.mono HC1.out.size))
    have Hl2:=Lib.hid (Hl1.out.trans (hb.mono Hl1.out.size))
    clear hb HJ1 HC1 Hl1 Ha2
    go_wp2_with fail
    refine ⟨⟨.inr ⟨⟨V2,HJ2.out.c4⟩,rfl⟩,.inr ⟨⟨V2,HJ2.out.c5⟩,rfl⟩,trivial⟩,?_⟩
    have hc4:=HJ2.out.c4
    have hc5:=HJ2.out.c5
    have hf4:=HJ2.out.f4
    have hf5:=HJ2.out.f5
    refine walkR2_move ?_
    simp only [dsc_,dz_,tsc_,tz_]
    go_wp2_with fail
    have hc52:(V2.setCell ⟨w.heap.size + 1 + 1,0,none⟩ (.string slo2)).cell? ⟨w.heap.size + 1 + 1 + 1,0,none⟩=some (.string shi):=by
     rw [World.cell?_setCell_other _ _ _ _ (by simp)]; exact HJ2.out.c5
    have hf52:(V2.setCell ⟨w.heap.size + 1 + 1,0,none⟩ (.string slo2)).frozen? ⟨w.heap.size + 1 + 1 + 1,0,none⟩=false:=by rw [World.frozen?_setCell]; exact HJ2.out.f5
    refine ⟨⟨.inl rfl,.inr ⟨⟨V2.setCell ⟨w.heap.size + 1 + 1,0,none⟩ (.string slo2),hc52⟩,rfl⟩,trivial⟩,?_⟩
    clear hc4 hc5 hf4 hf5
    refine walkR2_move ?_
    simp only [dsc_,dz_,tsc_,tz_]
    go_wp2_with fail
    refine ⟨⟨.inl rfl,.inl rfl,trivial⟩,?_⟩
    simp only [walkR2]
    exact ⟨(keeps_of_below Hl2.out).trans ((KeepsOthers.setCell _ _ _).trans (KeepsOthers.setCell _ _ _)),ends_kt rfl HB.out HI.out.sz Hl2.out _ _,(HJ2.out.stored _ _).cast Hf1.out Hf2.out,near_below HC2.out _ _⟩
   ·rw [if_neg hk] at e1 e2
    have hs':¬ k.sign < 0:=by omega
    have Ha1:Hid (∀ W,Below w.heap.size w W→Gives Tryz.prog 169 #[.string (itx (LN.eLo (lf n) (pre.map Subtype.val))),.string (itx ((lf n p:Int) * k))] W (.string (itx ((LN.eLo (lf n) (pre.map Subtype.val)) + (lf n p:Int) * k)))):=fun W hW=>addZ W _ _ F hF s1 t1 (HLL.out W hW)
    have Ha2:Hid (∀ W,Below w.heap.size w W→Gives Tryz.prog 169 #[.string (itx (LN.eHi (lf n) (pre.map Subtype.val))),.string (itx (((lf n p + 1:Nat):Int) * k))] W (.string (itx ((LN.eHi (lf n) (pre.map Subtype.val)) + ((lf n p + 1:Nat):Int) * k)))):=fun W hW=>addZ W _ _ F hF s2 t2 (HLL.out W hW)
    generalize k.sign=sg at *
    rw [← e1] at Ha1
    rw [← e2] at Ha2
    clear e1 e2 s1 s2 t1 t2 HLL hlen hpl hF
    obtain ⟨slo2,hq1⟩:∃ s,itx (LN.eLo (lf n) ((pre ++ [(⟨(p,k),hmem⟩:{x // x∈tl})]).map Subtype.val))=s:=⟨_,rfl⟩
    obtain ⟨shi2,hq2⟩:∃ s,itx (LN.eHi (lf n) ((pre ++ [(⟨(p,k),hmem⟩:{x // x∈tl})]).map Subtype.val))=s:=⟨_,rfl⟩
    rw [hq1] at Ha1
    rw [hq2] at Ha2
    have Hf1:=Lib.hid hq1
    have Hf2:=Lib.hid hq2
    clear hq1 hq2
    generalize itx (LN.eLo (lf n) (pre.map Subtype.val))=slo at *
    generalize itx (LN.eHi (lf n) (pre.map Subtype.val))=shi at *
    generalize itx k=sk at *
    generalize itx ((lf n p:Int) * k)=sa at *
    generalize itx (((lf n p + 1:Nat):Int) * k)=sb at *
    generalize dec (lf n p + 1)=sH at *
    generalize dec (lf n p)=sL at *
    gi_wp2_with fail
    refine ⟨trivial,?_⟩
    refine (CallsIn.inRound l (callsIn_wide.2 (Hlog.out W0 HB0.out))).mono ?_
    rintro e W1 ⟨rfl,hb⟩
    have HI1:=Lib.hid (HI0.out.below hb)
    have HB1:=Lib.hid (HB0.out.trans (hb.mono HB0.out.size))
    have Hk1:=Lib.hid (Hk0.out.trans (hb.mono Hk0.out.size))
    clear hb hc3 hc4 hc5 hf4 hf5 Hlog HI0 HB0 Hk0
    have hc3:=HI1.out.c3
    have hc4:=HI1.out.c4
    have hc5:=HI1.out.c5
    have hf4:=HI1.out.f4
    have hf5:=HI1.out.f5
    gi_wp2_with fail
    refine ⟨trivial,?_⟩
    refine (CallsIn.inRound l (callsIn_wide.2 (Had.out W1 HB1.out))).mono ?_
    rintro e W2 ⟨rfl,hb⟩
    have HI2:=Lib.hid (HI1.out.below hb)
    have HB2:=Lib.hid (HB1.out.trans (hb.mono HB1.out.size))
    have Hk2:=Lib.hid (Hk1.out.trans (hb.mono Hk1.out.size))
    clear hb hc3 hc4 hc5 hf4 hf5 Had HI1 HB1 Hk1
    have hc3:=HI2.out.c3
    have hc4:=HI2.out.c4
    have hc5:=HI2.out.c5
    have hf4:=HI2.out.f4
    have hf5:=HI2.out.f5
    gi_wp2_with fail
    refine ⟨trivial,?_⟩
    refine (CallsIn.inRound l (callsIn_wide.2 (Hm1.out W2 HB2.out))).mono ?_
    rintro e W3 ⟨rfl,hb⟩
    have HI3:=Lib.hid (HI2.out.below hb)
    have HB3:=Lib.hid (HB2.out.trans (hb.mono HB2.out.size))
    have Hk3:=Lib.hid (Hk2.out.trans (hb.mono Hk2.out.size))
    clear hb hc3 hc4 hc5 hf4 hf5 Hm1 HI2 HB2 Hk2
    have hc3:=HI3.out.c3
    have hc4:=HI3.out.c4
    have hc5:=HI3.out.c5
    have hf4:=HI3.out.f4
    have hf5:=HI3.out.f5
    gi_wp2_with fail
    refine ⟨trivial,?_⟩
    refine (CallsIn.inRound l (callsIn_wide.2 (Hm2.out W3 HB3.out))).mono ?_
    rintro e W4 ⟨rfl,hb⟩
    have HI4:=Lib.hid (HI3.out.below hb)
    have HB4:=Lib.hid (HB3.out.trans (hb.mono HB3.out.size))
    have Hk4:=Lib.hid (Hk3.out.trans (hb.mono Hk3.out.size))
    clear hb hc3 hc4 hc5 hf4 hf5 Hm2 HI3 HB3 Hk3
    have hc3:=HI4.out.c3
    have hc4:=HI4.out.c4
    have hc5:=HI4.out.c5
    have hf4:=HI4.out.f4
    have hf5:=HI4.out.f5
    gi_wp2_with fail
    refine ⟨trivial,?_⟩
    refine (CallsIn.inRound l (callsIn_wide.2 (Hsg.out W4 HB4.out))).mono ?_
    rintro e W5 ⟨rfl,hb⟩
    have HI5:=Lib.hid (HI4.out.below hb)
    have HB5:=Lib.hid (HB4.out.trans (hb.mono HB4.out.size))
    have Hk5:=Lib.hid (Hk4.out.trans (hb.mono Hk4.out.size))
    clear hb hc3 hc4 hc5 hf4 hf5 Hsg HI4 HB4 Hk4
    have hc3:=HI5.out.c3
    have hc4:=HI5.out.c4
    have hc5:=HI5.out.c5
    have hf4:=HI5.out.f4
    have hf5:=HI5.out.f5
    gi_wp2_with fail
    have q0:=@CellW.h
    have q9:Nonempty (CellW ⟨w.heap.size + 1 + 1,0,none⟩ (.string slo)):=⟨⟨W5,HI5.out.c4⟩⟩
    have q8:Nonempty (CellW ⟨w.heap.size + 1 + 1 + 1,0,none⟩ (.string shi)):=⟨⟨W5,HI5.out.c5⟩⟩
    refine wpIn_region_readers2 [(8,0),(1,1),(9,3),(1,4),(0,2),(0,5),(0,6),(0,7)]
     [(6,fun w'=>∃ p:CellW ⟨w.heap.size + 1 + 1,0,none⟩ (.string slo),w'=p.w),(7,fun w'=>∃ p:CellW ⟨w.heap.size + 1 + 1 + 1,0,none⟩ (.string shi),w'=p.w)]
     (by kernel_rfl) (by kernel_rfl) ⟨.inr ⟨⟨{ W5 with drawn:=W5.drawn + 1 },HI5.out.c4⟩,rfl⟩,.inr ⟨⟨{ W5 with drawn:=W5.drawn + 1 },HI5.out.c5⟩,rfl⟩,trivial⟩ ?_
    refine walkR2_read (s:=6) _ (List.mem_cons_self ..) rfl ?_
    simp only [dz_,tsc_,tz_]
    go_big_quiet_step (fail)
    refine wpQuiet_nil ?_
    refine walkR2_any ?_
    simp only [dsc_,dz_,tsc_,tz_]
    go_big_quiet_step (fail)
    refine wpQuiet_nil ?_
    refine walkR2_read (s:=7) _ (List.mem_cons_of_mem _ (List.mem_cons_self ..)) rfl ?_
    simp only [dsc_,dz_,tsc_,tz_]
    go_big_quiet_step (fail)
    refine wpQuiet_nil ?_
    refine walkR2_any ?_
    simp only [dsc_,dz_,tsc_,tz_]
    go_big_quiet_step (fail)
    refine wpQuiet_nil ?_
    clear q0 q8 q9 hc3 hc4 hc5 hf4 hf5
    obtain ⟨V0,hV0⟩:∃ V0:World,{ heap:=W5.heap,tape:=W5.tape,drawn:=W5.drawn + 1,os:=W5.os,output:=W5.output }=V0:=⟨_,rfl⟩
    rw [hV0]
    have hdr:Below W5.heap.size W5 V0:=by rw [← hV0]; exact ⟨rfl,rfl,rfl,Nat.le_refl _,fun _ _=>rfl⟩
    have HJ0:=Lib.hid (HI5.out.below hdr)
    have HC0:=Lib.hid (HB5.out.trans (hdr.mono HB5.out.size))
    have Hl0:=Lib.hid (Hk5.out.trans (hdr.mono Hk5.out.size))
    clear hV0 hdr HI5 HB5 Hk5
    refine walkR2_move ?_
    simp only [dsc_,dz_,tsc_,tz_]
    go_wp2_with fail
    refine Calls.mono (Ha1.out V0 HC0.out) ?_
    rintro e V1 ⟨rfl,hb⟩
    have HJ1:=Lib.hid (HJ0.out.below hb)
    have HC1:=Lib.hid (HC0.out.trans (hb.mono HC0.out.size))
    have Hl1:=Lib.hid (Hl0.out.trans (hb.mono Hl0.out.size))
    clear hb HJ0 HC0 Hl0 Ha1
    go_wp2_with fail
    refine ⟨⟨.inr ⟨⟨V1,HJ1.out.c4⟩,rfl⟩,.inr ⟨⟨V1,HJ1.out.c5⟩,rfl⟩,trivial⟩,?_⟩
    refine walkR2_move ?_
    simp only [dsc_,dz_,tsc_,tz_]
    go_wp2_with fail
    refine Calls.mono (Ha2.out V1 HC1.out) ?_
    rintro e V2 ⟨rfl,hb⟩
    have HJ2:=Lib.hid (HJ1.out.below hb)
    have HC2:=Lib.hid (HC1.out.trans (hb.mono HC1.out.size))
    have Hl2:=Lib.hid (Hl1.out.trans (hb.mono Hl1.out.size))
    clear hb HJ1 HC1 Hl1 Ha2
    go_wp2_with fail
    refine ⟨⟨.inr ⟨⟨V2,HJ2.out.c4⟩,rfl⟩,.inr ⟨⟨V2,HJ2.out.c5⟩,rfl⟩,trivial⟩,?_⟩
    have hc4:=HJ2.out.c4
    have hc5:=HJ2.out.c5
    have hf4:=HJ2.out.f4
    have hf5:=HJ2.out.f5
    refine walkR2_move ?_
    simp only [dsc_,dz_,tsc_,tz_]
    go_wp2_with fail
    have hc52:(V2.setCell ⟨w.heap.size + 1 + 1,0,none⟩ (.string slo2)).cell? ⟨w.heap.size + 1 + 1 + 1,0,none⟩=some (.string shi):=by
     rw [World.cell?_setCell_other _ _ _ _ (by simp)]; exact HJ2.out.c5
    have hf52:(V2.setCell ⟨w.heap.size + 1 + 1,0,none⟩ (.string slo2)).frozen? ⟨w.heap.size + 1 + 1 + 1,0,none⟩=false:=by rw [World.frozen?_setCell]; exact HJ2.out.f5
    refine ⟨⟨.inl rfl,.inr ⟨⟨V2.setCell ⟨w.heap.size + 1 + 1,0,none⟩ (.string slo2),hc52⟩,rfl⟩,trivial⟩,?_⟩
    clear hc4 hc5 hf4 hf5
    refine walkR2_move ?_
    simp only [dsc_,dz_,tsc_,tz_]
    go_wp2_with fail
    refine ⟨⟨.inl rfl,.inl rfl,trivial⟩,?_⟩
    simp only [walkR2]
    exact ⟨(keeps_of_below Hl2.out).trans ((KeepsOthers.setCell _ _ _).trans (KeepsOthers.setCell _ _ _)),ends_kt rfl HB.out HI.out.sz Hl2.out _ _,(HJ2.out.stored _ _).cast Hf1.out Hf2.out,near_below HC2.out _ _⟩
 case done =>
  rintro D' ys W hD rfl ⟨hI,hB⟩ hK
  rw [List.attach_map_subtype_val] at hI
  have HI:=Lib.hid hI
  have HB:=Lib.hid hB
  have HK:=Lib.hid hK
  clear hI hB hK hr1 hr2 hI1 hB1 hB5
  have Hv:Hid (∀ s t,itx (LN.eLo (lf n) tl)=s→itx (LN.eHi (lf n) tl)=t→Ending.returned (.tuple #[.string s,.string t])=Ending.returned (.tuple #[.string (itx (LN.eLo (lf n) tl)),.string (itx (LN.eHi (lf n) tl))])):=by
   intro s t h1 h2
   rw [h1,h2]
  obtain ⟨lo,hlo⟩:∃ s,itx (LN.eLo (lf n) tl)=s:=⟨_,rfl⟩
  obtain ⟨hi,hhi⟩:∃ s,itx (LN.eHi (lf n) tl)=s:=⟨_,rfl⟩
  have Hr:=Lib.hid (Hv.out lo hi hlo hhi)
  rw [hlo,hhi] at HI
  clear Hv hlo hhi
  have hc4:=HI.out.c4
  have hc5:=HI.out.c5
  have hf4:=HI.out.f4
  have hf5:=HI.out.f5
  gi_wp2_with fail
  gi_region
  gi_wp2
  clear hc4 hc5 hf4 hf5
  have e4:((W.setCell { block:=w.heap.size + 1 + 1,off:=0 } (Value.string lo)).setCell { block:=w.heap.size + 1 + 1 + 1,off:=0 } (Value.string hi)).drew.cell? ⟨w.heap.size + 1 + 1,0,none⟩=some (.string lo):=by
   show World.cell? ((W.setCell { block:=w.heap.size + 1 + 1,off:=0 } (Value.string lo)).setCell { block:=w.heap.size + 1 + 1 + 1,off:=0 } (Value.string hi)) _=_
   rw [World.cell?_setCell_other _ _ _ _ (by simp),World.cell?_setCell_same _ _ _ HI.out.c4]
  have e5:((W.setCell { block:=w.heap.size + 1 + 1,off:=0 } (Value.string lo)).setCell { block:=w.heap.size + 1 + 1 + 1,off:=0 } (Value.string hi)).drew.cell? ⟨w.heap.size + 1 + 1 + 1,0,none⟩=some (.string hi):=by
   show World.cell? ((W.setCell { block:=w.heap.size + 1 + 1,off:=0 } (Value.string lo)).setCell { block:=w.heap.size + 1 + 1 + 1,off:=0 } (Value.string hi)) _=_
   rw [World.cell?_setCell_same _ _ _ (by rw [World.cell?_setCell_other _ _ _ _ (by simp)]; exact HI.out.c5)]
  have hk9:=((KeepsOthers.setCell W ⟨w.heap.size + 1 + 1,0,none⟩ (.string lo)).trans (KeepsOthers.setCell _ ⟨w.heap.size + 1 + 1 + 1,0,none⟩ (.string hi))).trans (KeepsOthers.drew _)
  have hK9:=hk9.same D' _ HK.out rfl
  have hb9:=((HB.out.setCell (p:=⟨w.heap.size + 1 + 1,0,none⟩) (by show _≤w.heap.size + 1 + 1; omega) (.string lo)).setCell (p:=⟨w.heap.size + 1 + 1 + 1,0,none⟩) (by show _≤w.heap.size + 1 + 1 + 1; omega) (.string hi)).drew
  generalize ((W.setCell { block:=w.heap.size + 1 + 1,off:=0 } (Value.string lo)).setCell { block:=w.heap.size + 1 + 1 + 1,off:=0 } (Value.string hi)).drew=w9 at *
  have g4:=cell_kept e4 (grownBy_putObj' _ D' (.deferred none)) (fun r e=>by cases e; exact ⟨_,hK9,rfl⟩)
  have g5:=cell_kept e5 (grownBy_putObj' _ D' (.deferred none)) (fun r e=>by cases e; exact ⟨_,hK9,rfl⟩)
  refine ⟨by simp,.inl ⟨_,_,rfl,run_takeDeferred hK9,?_⟩⟩
  refine ⟨.tuple #[.string lo,.string hi],?_,Hr.out,hb9.trans (belowK_b (w:=w) nr_ w9 D' _ _ (by rw [hsz1] at hD; omega) hK9 rfl rfl)⟩
  simp [results,Tryz.results131,go_sem,g4,g5]
 case stop =>
  rintro D' c pre W hD hSp ⟨hf,_⟩ hK
  exact hf.elim
end Go.Proofs.YtpbapojnbmbdlaaGreatDoor

namespace Go.Proofs.YtpbapojnbmbdlaaGreatDoor.LN
theorem vp_zsmul (ps ks:List Int) (h:∀ p∈ps,0 < p) (j:Int):vp ps (ks.map fun k=>j * k)=vp ps ks ^ j:=by
 rcases Int.eq_nat_or_neg j with ⟨n,rfl | rfl⟩
 ·rw [Rat.zpow_natCast,vp_nsmul _ _ h]
 ·rw [Rat.zpow_neg,Rat.zpow_natCast,← vp_nsmul _ _ h,← vp_neg _ _ h]
  congr 1
  rw [List.map_map]
  refine List.map_congr_left fun k _=>?_
  show -(n:Int) * k = -((n:Int) * k)
  grind
def subQ (q:Int) (la lb:List Rat):List Rat:=List.zipWith (fun a b=>a + (-(q:Rat)) * b) la lb
theorem den_add_dvd (a b:Rat):(a + b).den ∣ a.den * b.den:=by
 rw [Rat.add_def',mkRat_den' _ _ (Nat.mul_ne_zero a.den_nz b.den_nz)]
 exact Nat.div_dvd_of_dvd (Nat.gcd_dvd_right _ _)
theorem den_mul_dvd (a b:Rat):(a * b).den ∣ a.den * b.den:=by
 rw [Rat.mul_def',mkRat_den' _ _ (Nat.mul_ne_zero a.den_nz b.den_nz)]
 exact Nat.div_dvd_of_dvd (Nat.gcd_dvd_right _ _)
theorem den_sub_dvd (a b:Rat) (q:Int):(a + (-(q:Rat)) * b).den ∣ a.den * b.den:=by
 refine Nat.dvd_trans (den_add_dvd _ _) (Nat.mul_dvd_mul (Nat.dvd_refl _) ?_)
 have h:=den_mul_dvd (-(q:Rat)) b
 rw [Rat.neg_den,Rat.den_intCast,Nat.one_mul] at h
 exact h
theorem ex_sub {d g:Nat} {a b:Rat} (q:Int) (ha:a.den ∣ d) (hb:b.den ∣ g):ex (d * g) (a + (-(q:Rat)) * b)=(g:Int) * ex d a + (-(q * d)) * ex g b:=by
 have h:(a + (-(q:Rat)) * b).den ∣ d * g:=Nat.dvd_trans (den_sub_dvd a b q) (Nat.mul_dvd_mul ha hb)
 rw [← Rat.intCast_inj,Rat.intCast_add,Rat.intCast_mul,Rat.intCast_mul,ex_eq h,ex_eq ha,ex_eq hb,Rat.natCast_mul,Rat.intCast_neg,Rat.intCast_mul,Rat.intCast_natCast,Rat.intCast_natCast]
 grind
theorem sz_sub {ps:List Int} {la lb:List Rat} (hp:∀ p∈ps,0 < p) (hl:la.length=lb.length) (q:Int) :
  sz ps (subQ q la lb)=sg (vt (tlist (tden la) ps la) ^ ((tden lb:Nat):Int) * vt (tlist (tden lb) ps lb) ^ (-(q * ((tden la:Nat):Int)))):=by
 have h:∀ x∈subQ q la lb,x.den ∣ tden la * tden lb:=by
  intro x hx
  unfold subQ at hx
  obtain ⟨i,hi,rfl⟩:=List.mem_iff_getElem.1 hx
  rw [List.getElem_zipWith]
  exact Nat.dvd_trans (den_sub_dvd _ _ q) (Nat.mul_dvd_mul (tden_dvd (List.getElem_mem _)) (tden_dvd (List.getElem_mem _)))
 rw [sz_eq hp (Nat.mul_pos (tden_pos' _) (tden_pos' _)) h,vt_tlist,vt_tlist,← vp_zsmul _ _ hp,← vp_zsmul _ _ hp,← vp_add _ _ _ hp (by simp [hl])]
 congr 2
 refine List.ext_getElem (by simp [subQ]) fun i h1 h2=>?_
 have i1:i < la.length:=by simp at h2; omega
 have i2:i < lb.length:=by omega
 simp only [subQ,List.getElem_map,List.getElem_zipWith]
 exact ex_sub q (tden_dvd (List.getElem_mem i1)) (tden_dvd (List.getElem_mem i2))
def FloorOf (ps:List Int) (la lb:List Rat) (q:Int):Prop:=0≤sz ps (subQ q la lb) * sz ps lb∧sz ps (subQ (q + 1) la lb) * sz ps lb < 0
theorem sz_of_vt {ps:List Int} {l:List Rat} (hp:∀ p∈ps,0 < p):sz ps l=sg (vt (tlist (tden l) ps l)):=signT_sg _ (tlist_pos hp)
theorem floor_pos {ps:List Int} {la lb:List Rat} (hp:∀ p∈ps,0 < p) (hl:la.length=lb.length) {n:Nat} {f:Int→Nat}
  (hf:∀ p∈ps,LogAt n p (f p)) {q:Int} {xl xh yl yh:Int} (e1:eLo f (tlist (tden la) ps la)=xl) (e2:eHi f (tlist (tden la) ps la)=xh) (e3:eLo f (tlist (tden lb) ps lb)=yl) (e4:eHi f (tlist (tden lb) ps lb)=yh)
  (hyl:0 < yl) (hy:yl≤yh) (h1:quoL xl yl yh (tden lb) (tden la)=q) (h2:quoH xh yl yh (tden lb) (tden la)=q):FloorOf ps la lb q:=by
 have hm:∀ (D:Nat) (l:List Rat),∀ x∈tlist D ps l,LogAt n x.1 (f x.1):=by
  intro D l x hx
  unfold tlist at hx
  obtain ⟨y,hy,he⟩:=List.mem_filterMap.1 hx
  have h1:=(List.of_mem_zip hy).1
  split at he
  ·cases he
  ·cases he; exact hf _ h1
 have bx:=ends_btw n f _ (tlist_pos hp) (hm (tden la) la)
 have b2:=ends_btw n f _ (tlist_pos hp) (hm (tden lb) lb)
 rw [e1,e2] at bx
 rw [e3,e4] at b2
 have hX:=vt_pos _ (tlist_pos (D:=tden la) (l:=la) hp)
 have hY:=vt_pos _ (tlist_pos (D:=tden lb) (l:=lb) hp)
 have hd:(0:Int) < ((tden la:Nat):Int):=by have:=tden_pos' la; omega
 have hg:(0:Int) < ((tden lb:Nat):Int):=by have:=tden_pos' lb; omega
 obtain ⟨r1,r2⟩:=quo_both hX hY bx b2 hd hg hyl hy h1 h2
 have hs:sz ps lb=1:=by
  rw [sz_of_vt hp,← sg_of_pow hY n]
  exact sg_pos.2 (b2.gt hyl)
 unfold FloorOf
 rw [sz_sub hp hl,sz_sub hp hl,hs,r2]
 exact ⟨by omega,by decide⟩
theorem floor_neg {ps:List Int} {la lb:List Rat} (hp:∀ p∈ps,0 < p) (hl:la.length=lb.length) {n:Nat} {f:Int→Nat}
  (hf:∀ p∈ps,LogAt n p (f p)) {q:Int} {xl xh yl yh:Int} (e1:eLo f (tlist (tden la) ps la)=xl) (e2:eHi f (tlist (tden la) ps la)=xh) (e3:eLo f (tlist (tden lb) ps lb)=yl) (e4:eHi f (tlist (tden lb) ps lb)=yh)
  (hyh:yh < 0) (hy:yl≤yh) (h1:quoL (-xh) (-yh) (-yl) (tden lb) (tden la)=q) (h2:quoH (-xl) (-yh) (-yl) (tden lb) (tden la)=q):FloorOf ps la lb q:=by
 have hm:∀ (D:Nat) (l:List Rat),∀ x∈tlist D ps l,LogAt n x.1 (f x.1):=by
  intro D l x hx
  unfold tlist at hx
  obtain ⟨y,hy,he⟩:=List.mem_filterMap.1 hx
  have h1:=(List.of_mem_zip hy).1
  split at he
  ·cases he
  ·cases he; exact hf _ h1
 have bx:=ends_btw n f _ (tlist_pos hp) (hm (tden la) la)
 have b2:=ends_btw n f _ (tlist_pos hp) (hm (tden lb) lb)
 rw [e1,e2] at bx
 rw [e3,e4] at b2
 have hX:=vt_pos _ (tlist_pos (D:=tden la) (l:=la) hp)
 have hY:=vt_pos _ (tlist_pos (D:=tden lb) (l:=lb) hp)
 have hd:(0:Int) < ((tden la:Nat):Int):=by have:=tden_pos' la; omega
 have hg:(0:Int) < ((tden lb:Nat):Int):=by have:=tden_pos' lb; omega
 have inv:∀ x:Rat,0 < x→x⁻¹ ^ (2 ^ n)=(x ^ (2 ^ n))⁻¹:=fun x hx=>by
  have e:x⁻¹=x ^ (-1:Int):=by rw [Rat.zpow_neg,Rat.zpow_one]
  rw [e,zpow_pow_comm (by grind),Rat.zpow_neg,Rat.zpow_one]
 have bxi:=bx.inv
 have b2i:=b2.inv
 rw [← inv _ hX] at bxi
 rw [← inv _ hY] at b2i
 obtain ⟨r1,r2⟩:=quo_both (Rat.inv_pos.2 hX) (Rat.inv_pos.2 hY) bxi b2i hd hg (by omega) (by omega) h1 h2
 have hs:sz ps lb = -1:=by
  rw [sz_of_vt hp,← sg_of_pow hY n]
  exact sg_low.2 (b2.lt hyh)
 have flip:∀ j k:Int,sg (vt (tlist (tden la) ps la) ^ j * vt (tlist (tden lb) ps lb) ^ k) = - sg ((vt (tlist (tden la) ps la))⁻¹ ^ j * (vt (tlist (tden lb) ps lb))⁻¹ ^ k):=fun j k=>by
  rw [← sg_inv (Rat.mul_pos (Rat.zpow_pos (Rat.inv_pos.2 hX)) (Rat.zpow_pos (Rat.inv_pos.2 hY)))]
  congr 1
  have e:∀ (x:Rat) (m:Int),0 < x→x⁻¹ ^ m=(x ^ m)⁻¹:=fun x m hx=>by
   have e:x⁻¹=x ^ (-1:Int):=by rw [Rat.zpow_neg,Rat.zpow_one]
   rw [e,zpow_mul' (by grind),← Rat.zpow_neg]
   congr 1
   omega
  rw [e _ _ hX,e _ _ hY,Rat.inv_mul_rev,Rat.inv_inv,Rat.inv_inv,Rat.mul_comm]
 unfold FloorOf
 rw [sz_sub hp hl,sz_sub hp hl,hs,flip,flip,r2]
 exact ⟨by omega,by decide⟩
theorem subQ_ratio {la lb:List Rat} {k:Rat} (h:la=lb.map fun x=>k * x) (q:Int):subQ q la lb=lb.map fun x=>(k + (-(q:Rat))) * x:=by
 rw [h]
 unfold subQ
 rw [List.zipWith_map_left]
 refine List.ext_getElem (by simp) fun i h1 h2=>?_
 simp
 grind
theorem floor_mult {ps:List Int} {la lb:List Rat} (hp:∀ p∈ps,0 < p) {k:Rat} (h:la=lb.map fun x=>k * x) (h0:sz ps lb≠0):FloorOf ps la lb k.floor:=by
 have h1:=Rat.floor_le k
 have h2:k - 1 < ((k.floor:Int):Rat):=Rat.lt_floor
 have hs:sz ps lb=1∨sz ps lb = -1:=by
  rw [sz_of_vt hp] at h0 ⊢
  rcases sg_cases (vt (tlist (tden lb) ps lb)) with h | h | h
  ·exact .inl h
  ·exact absurd h h0
  ·exact .inr h
 unfold FloorOf
 rw [subQ_ratio h,subQ_ratio h,sz_mul hp,sz_mul hp]
 have n1:0≤(k + -((k.floor:Int):Rat)).num:=Rat.num_nonneg.2 (by grind)
 have n2:(k + -(((k.floor + 1:Int)):Rat)).num < 0:=num_neg'.2 (by rw [Rat.intCast_add]; grind)
 have s1:0≤(k + -((k.floor:Int):Rat)).num.sign:=by
  rcases Int.lt_or_eq_of_le n1 with h | h
  ·rw [Int.sign_eq_one_of_pos h]; decide
  ·rw [← h]; decide
 rw [Int.sign_eq_neg_one_of_neg n2]
 rcases hs with hs | hs <;> rw [hs] <;> omega
end Go.Proofs.YtpbapojnbmbdlaaGreatDoor.LN

namespace Go.Proofs.YtpbapojnbmbdlaaGreatDoor
open Go.RowKit
theorem lf_at {n:Nat} {tl:List (Int×Int)} (h:PrT tl) (hn:n≤1056):∀ x∈tl,LN.LogAt n x.1 (lf n x.1):=fun x hx=>by
 obtain ⟨q,e,hq⟩:=h x hx
 rw [e]
 exact lgN_at hq hn
structure TrT (tl:List (Int×Int)):Prop where
 p:PrT tl
 nz:∀ x∈tl,x.2≠0
 nd:(tl.map Prod.fst).Nodup
theorem sign_of_lo {n:Nat} {tl:List (Int×Int)} (h:TrT tl) (hn:n≤1056) (hne:tl≠[]) (h0:0≤LN.eLo (lf n) tl):LN.signT tl=1:=by
 rw [LN.eLo_eq] at h0
 exact LN.sign_low n (lf n) tl (lf_at h.p hn) h.nz hne h.nd (by omega)
theorem sign_of_hi {n:Nat} {tl:List (Int×Int)} (h:TrT tl) (hn:n≤1056) (hne:tl≠[]) (h0:LN.eHi (lf n) tl≤0):LN.signT tl = -1:=by
 rw [LN.eHi_eq] at h0
 exact LN.sign_high n (lf n) tl (lf_at h.p hn) h.nz hne h.nd (by omega)
theorem isLg_two (N:Nat):IsLg 2 N N:=⟨Nat.le_refl _,Nat.pow_lt_pow_right (by decide) (by omega)⟩
theorem digs_two (more n:Nat) (hm:1≤more) {s:Nat×Nat×Nat} (h:digs 2 more n=some s):s.2.2=2 ^ n :=
 isLg_one (digs_inv 2 more (by decide) hm n s h).lg (isLg_two _)
theorem lgA_lf {p:Int} (hp:∃ q:Nat,p=q∧(q=2∨q∈oddP)) (h:(digs p.toNat 62 26).isSome=true):lgA p=(lf 26 p:Int)∧lgB p=(LN.hiL (lf 26) p:Int):=by
 obtain ⟨q,rfl,hq⟩:=hp
 obtain ⟨s,hs⟩:=Option.isSome_iff_exists.1 h
 rw [Int.toNat_natCast] at hs
 have e:lgA q=(lf 26 q:Int):=by
  unfold lgA
  rw [Int.toNat_natCast,hs]
  show ((s.2.2:Nat):Int)=((lgN q 26:Nat):Int)
  rcases hq with rfl | hq
  ·rw [digs_two 62 26 (by decide) hs]
   rw [show ((2:Nat):Int)=2 from rfl,lgN_two]
  ·rw [digs_lgN hq (by decide) (by decide) hs]
 refine ⟨e,?_⟩
 unfold lgB LN.hiL
 rw [e]
 split
 ·rfl
 ·rfl
theorem lowT_eq {most:Int}:∀ tl:List (Int×Int),PrT tl→(∀ x∈tl,okT most x)→lowT tl=LN.eLo (lf 26) tl∧highT tl=LN.eHi (lf 26) tl
 | [],_,_=>⟨rfl,rfl⟩
 | x :: l,hp,ho=>by
  obtain ⟨i1,i2⟩:=lowT_eq l (fun y hy=>hp y (List.mem_cons_of_mem _ hy)) (fun y hy=>ho y (List.mem_cons_of_mem _ hy))
  obtain ⟨a1,a2⟩:=lgA_lf (hp x List.mem_cons_self) (ho x List.mem_cons_self).2
  have e1:lowT (x :: l)=min (x.2 * lgA x.1) (x.2 * lgB x.1) + lowT l:=by simp [lowT]
  have e2:highT (x :: l)=max (x.2 * lgA x.1) (x.2 * lgB x.1) + highT l:=by simp [highT]
  have f1:LN.eLo (lf 26) (x :: l)=(if x.2 < 0 then x.2 * (LN.hiL (lf 26) x.1:Int) else x.2 * (lf 26 x.1:Int)) + LN.eLo (lf 26) l:=by simp [LN.eLo]
  have f2:LN.eHi (lf 26) (x :: l)=(if x.2 < 0 then x.2 * (lf 26 x.1:Int) else x.2 * (LN.hiL (lf 26) x.1:Int)) + LN.eHi (lf 26) l:=by simp [LN.eHi]
  have hle:lf 26 x.1≤LN.hiL (lf 26) x.1:=by unfold LN.hiL; split <;> omega
  rw [e1,e2,f1,f2,i1,i2,a1,a2]
  by_cases hk:x.2 < 0
  ·have h1:x.2 * (LN.hiL (lf 26) x.1:Int)≤x.2 * (lf 26 x.1:Int):=Int.mul_le_mul_of_nonpos_left (by omega) (by omega)
   rw [if_pos hk,if_pos hk,Int.min_eq_right h1,Int.max_eq_left h1]
   exact ⟨rfl,rfl⟩
  ·have h1:x.2 * (lf 26 x.1:Int)≤x.2 * (LN.hiL (lf 26) x.1:Int):=Int.mul_le_mul_of_nonneg_left (by omega) (by omega)
   rw [if_neg hk,if_neg hk,Int.min_eq_left h1,Int.max_eq_right h1]
   exact ⟨rfl,rfl⟩
theorem quick_sign {tl:List (Int×Int)} (h:TrT tl) (hne:tl≠[]) (hq:quickV tl≠0):quickV tl=LN.signT tl:=by
 unfold quickV at hq ⊢
 split at hq
 ·rename_i ho
  obtain ⟨e1,e2⟩:=lowT_eq tl h.p ho
  rw [if_pos ho]
  rw [e1,e2] at hq ⊢
  split
  ·rename_i h1; rw [sign_of_lo h (by decide) hne h1]
  ·rename_i h1
   rw [if_neg h1] at hq
   split
   ·rename_i h2; rw [sign_of_hi h (by decide) hne h2]
   ·rename_i h2; rw [if_neg h2] at hq; exact absurd rfl hq
 ·exact absurd rfl hq
def Pw (n:Nat):Prop:=n=64∨n=128∨n=256∨n=512∨n=1024
def Dec (tl:List (Int×Int)):Prop:=0≤LN.eLo (lf 1024) tl∨LN.eHi (lf 1024) tl≤0
set_option maxRecDepth 100000 in
set_option maxHeartbeats 8000000 in
theorem sign_dec (w:World) (b1 b2:Option Addr) (d1 d2 D E:Nat) (tl:List (Int×Int)) (T:TermsAt w tl b1 b2) (R:TrT tl) (hE:E≤20000) (hK:∀ x∈tl,x.2.natAbs < 2 ^ E) (hd:tl≠[]→Dec tl) (L:Laid w) :
  Gives Tryz.prog 112 #[.agg (tcells b1 d1 b2 d2 tl.length D)] w (.int .i64 (LN.signT tl)):=by
 by_cases h0:tl=[]
 ·have:=sign_quick w b1 b2 d1 d2 D tl T L (.inl h0)
  rw [if_pos h0] at this
  rw [h0] at this ⊢
  exact this
 by_cases hq:quickV tl≠0
 ·have:=sign_quick w b1 b2 d1 d2 D tl T L (.inr hq)
  rw [if_neg h0,quick_sign R h0 hq] at this
  exact this
 ·have hq0:quickV tl=0:=by omega
  unfold Gives
  have Hb0:=Lib.hid ((Below.refl w.heap.size w).alloc nr_ (.cells (tcells b1 d1 b2 d2 tl.length D) 168))
  have Hn:=Lib.hid (quick_any _ b1 b2 d1 d2 D tl (T.below Hb0.out) (L.below Hb0.out))
  rw [hq0] at Hn
  have hl0:((tl.length:Int) == 0)=false:=by
   rw [beq_eq_false_iff_ne]
   intro h
   exact h0 (List.eq_nil_of_length_eq_zero (by omega))
  have He:Hid (∀ (n:Nat) W,n≤1056→Below w.heap.size w W→Gives Tryz.prog 131 #[.agg (tcells b1 d1 b2 d2 tl.length D),.int .i64 n] W (.tuple #[.string (itx (LN.eLo (lf n) tl)),.string (itx (LN.eHi (lf n) tl))])) :=
   fun n W hn hW=>ends_any W b1 b2 d1 d2 D n E tl (T.below hW) R.p hE hK hn (L.below hW)
  have Hlo:Hid (∀ n:Nat,n≤1056→0≤LN.eLo (lf n) tl→LN.signT tl=1):=fun n hn h=>sign_of_lo R hn h0 h
  have Hhi:Hid (∀ n:Nat,n≤1056→LN.eHi (lf n) tl≤0→LN.signT tl = -1):=fun n hn h=>sign_of_hi R hn h0 h
  have Hdec:=Lib.hid (hd h0)
  clear T L hq h0 hq0 R hE hK hd
  generalize LN.signT tl=sv at *
  generalize hm:tl.length=m at *
  clear hm
  have Hob:=Lib.hid (heap_at w (tcells b1 d1 b2 d2 m D) 168 w.heap.size rfl)
  obtain ⟨m0,m1,m2,m3⟩:=obj_cells3 Hob.out
  clear m3
  go_enter Tryz.func112,Tryz.ntmps112
  go_wp2_with fail
  go_step3
  go_wp2_with fail
  refine Calls.mono Hn.out ?_
  rintro e w1 ⟨rfl,hb1⟩
  have Hb1:=Lib.hid (Hb0.out.trans (hb1.mono Hb0.out.size))
  have Hk1:=Lib.hid (heap_kept Hob.out hb1 nr_)
  clear hb1 Hn Hb0 Hob m0 m1 m2
  go_wp2_with fail
  go_step3
  go_wp2_with fail
  go_loopw [4] (fun a wr=>∃ (n:Nat),Hid (Pw n)∧n≤1024∧a = .int .i64 n∧Hid (Below w.heap.size w wr)∧Hid (wr.heap[w.heap.size]?=some (.cells (tcells b1 d1 b2 d2 m D) 168 (0,0)))) (fun a _=>1024 - (intOf a).toNat)
  case atStart=>exact ⟨64,.inl rfl,by decide,rfl,Hb1,Hk1⟩
  case round =>
   clear Hb1 Hk1
   obtain ⟨n,Hp,hn,rfl,Hb,Hk⟩:=hrel
   obtain ⟨m0,m1,m2,m3⟩:=obj_cells3 Hk.out
   clear m3
   have Hen:=Lib.hid (He.out n wr (by omega) Hb.out)
   have hlo:=Hlo.out n (by omega)
   have hhi:=Hhi.out n (by omega)
   have hlast:n=1024→0≤LN.eLo (lf n) tl∨LN.eHi (lf n) tl≤0:=fun h=>by rw [h]; exact Hdec.out
   clear He Hlo Hhi Hdec
   generalize LN.eLo (lf n) tl=lo at *
   generalize LN.eHi (lf n) tl=hi at *
   have Hs1:Hid (∀ W,Gives Tryz.prog 93 #[.string (itx lo)] W (.int .i64 lo.sign)):=fun W=>sign_any W lo
   have Hs2:Hid (∀ W,Gives Tryz.prog 93 #[.string (itx hi)] W (.int .i64 hi.sign)):=fun W=>sign_any W hi
   have c1:=sign_cases lo
   have c2:=sign_cases hi
   have hw:IntKind.i64.wrap ((n:Int) * 2)=((n * 2:Nat):Int):=by rw [show (n:Int) * 2=((n * 2:Nat):Int) by omega]; exact IntWalk.i64_in _ (by omega)
   by_cases h1:0≤lo
   ·have Hv:=Lib.hid (hlo h1)
    have h1':0≤lo.sign:=by omega
    generalize lo.sign=sl at *
    clear c1 c2 hlo hhi hlast Hs2 h1
    generalize itx lo=slo at *
    generalize itx hi=shi at *
    have B1:=Hb
    have K1:=Hk
    clear Hb Hk
    go_wp2_with fail
    refine Calls.mono (Hen.out) ?_
    rintro e w2 ⟨rfl,hb⟩
    have B2:=Lib.hid (B1.out.trans (hb.mono B1.out.size))
    have K2:=Lib.hid (heap_kept K1.out hb nr_)
    clear hb B1 K1
    go_wp2_with fail
    refine Calls.mono (Hs1.out _) ?_
    rintro e w3 ⟨rfl,hb⟩
    have B3:=Lib.hid (B2.out.trans (hb.mono B2.out.size))
    have K3:=Lib.hid (heap_kept K2.out hb nr_)
    clear hb B2 K2
    go_wp2_with fail
    rw [Exit.noGoto_ret]
    go_ret
    exact ⟨by rw [Hv.out]; rfl,B3.out⟩
   ·have h1':lo.sign < 0:=by omega
    by_cases h2:hi≤0
    ·have Hv:=Lib.hid (hhi h2)
     have h2':hi.sign≤0:=by omega
     generalize lo.sign=sl at *
     generalize hi.sign=sh at *
     clear c1 c2 hlo hhi hlast h1 h2
     generalize itx lo=slo at *
     generalize itx hi=shi at *
     have B1:=Hb
     have K1:=Hk
     clear Hb Hk
     go_wp2_with fail
     refine Calls.mono (Hen.out) ?_
     rintro e w2 ⟨rfl,hb⟩
     have B2:=Lib.hid (B1.out.trans (hb.mono B1.out.size))
     have K2:=Lib.hid (heap_kept K1.out hb nr_)
     clear hb B1 K1
     go_wp2_with fail
     refine Calls.mono (Hs1.out _) ?_
     rintro e w3 ⟨rfl,hb⟩
     have B3:=Lib.hid (B2.out.trans (hb.mono B2.out.size))
     have K3:=Lib.hid (heap_kept K2.out hb nr_)
     clear hb B2 K2
     go_wp2_with fail
     refine Calls.mono (Hs2.out _) ?_
     rintro e w4 ⟨rfl,hb⟩
     have B4:=Lib.hid (B3.out.trans (hb.mono B3.out.size))
     have K4:=Lib.hid (heap_kept K3.out hb nr_)
     clear hb B3 K3
     go_wp2_with fail
     rw [Exit.noGoto_ret]
     go_ret
     exact ⟨by rw [Hv.out]; rfl,B4.out⟩
    ·have h2':0 < hi.sign:=by omega
     have hn2:n * 2≤1024:=by
      rcases Hp.out with h | h | h | h | h
      ·omega
      ·omega
      ·omega
      ·omega
      ·have:=hlast h; omega
     have hp2:Hid (Pw (n * 2)):=by
      rcases Hp.out with h | h | h | h | h
      ·subst h; exact .inr (.inl rfl)
      ·subst h; exact .inr (.inr (.inl rfl))
      ·subst h; exact .inr (.inr (.inr (.inl rfl)))
      ·subst h; exact .inr (.inr (.inr (.inr rfl)))
      ·have:=hlast h; omega
     have hn0:0 < n:=by rcases Hp.out with h | h | h | h | h <;> omega
     generalize lo.sign=sl at *
     generalize hi.sign=sh at *
     clear c1 c2 hlo hhi hlast h1 h2
     generalize itx lo=slo at *
     generalize itx hi=shi at *
     have B1:=Hb
     have K1:=Hk
     clear Hb Hk
     go_wp2_with fail
     refine Calls.mono (Hen.out) ?_
     rintro e w2 ⟨rfl,hb⟩
     have B2:=Lib.hid (B1.out.trans (hb.mono B1.out.size))
     have K2:=Lib.hid (heap_kept K1.out hb nr_)
     clear hb B1 K1
     go_wp2_with fail
     refine Calls.mono (Hs1.out _) ?_
     rintro e w3 ⟨rfl,hb⟩
     have B3:=Lib.hid (B2.out.trans (hb.mono B2.out.size))
     have K3:=Lib.hid (heap_kept K2.out hb nr_)
     clear hb B2 K2
     go_wp2_with fail
     refine Calls.mono (Hs2.out _) ?_
     rintro e w4 ⟨rfl,hb⟩
     have B4:=Lib.hid (B3.out.trans (hb.mono B3.out.size))
     have K4:=Lib.hid (heap_kept K3.out hb nr_)
     clear hb B3 K3
     go_wp2_with fail
     go_roundw
     case rel=>exact ⟨n * 2,hp2,hn2,rfl,B4,K4⟩
     case measure=>simp [intOf]; omega
end Go.Proofs.YtpbapojnbmbdlaaGreatDoor

namespace Go.Proofs.YtpbapojnbmbdlaaGreatDoor
open Go.RowKit
def smallP:List Int:=[2,3,5,7,11,13]
theorem lg_lgN {p n L:Nat} (hp:p∈oddP) (hn:n≤1056) (h:LN.lg p p.log2 n 1120=some L):lgN p n=L:=by
 rw [lg_digs] at h
 obtain ⟨s,hs,e⟩:=Option.map_eq_some_iff.1 h
 rw [← digs_lgN hp hn (by decide) hs,e]
theorem lg_cert:([3,5,7,11,13]:List Nat).map (fun p=>LN.lg p p.log2 1024 1120)=LN.certL.tail.map fun x=>some x.toNat:=by decide +kernel
theorem certL_head:LN.certL.head?=some (2 ^ 1024):=by decide +kernel
theorem certL_pos:∀ x∈LN.certL,(0:Int)≤x:=by decide +kernel
theorem lf_two (n:Nat):((lf n 2:Nat):Int)=2 ^ n:=by
 show ((lgN 2 n:Nat):Int)=_
 rw [lgN_two,Int.natCast_pow]; rfl
theorem mul_pow_le {a k m:Nat} (ha:a≤100) (h:7 + k≤m):a * 2 ^ k≤2 ^ m:=by
 have:a * 2 ^ k≤2 ^ 7 * 2 ^ k:=Nat.mul_le_mul_right _ (by omega)
 rw [← Nat.pow_add] at this
 exact Nat.le_trans this (Nat.pow_le_pow_right (by decide) h)
theorem certL_eq:smallP.map (fun p=>((lf 1024 p:Nat):Int))=LN.certL:=by
 have h:=lg_cert
 have h0:=certL_head
 have hp:=certL_pos
 obtain ⟨c0,c1,c2,c3,c4,c5,e⟩:∃ c0 c1 c2 c3 c4 c5,LN.certL=[c0,c1,c2,c3,c4,c5]:=⟨_,_,_,_,_,_,rfl⟩
 rw [e] at h h0 hp ⊢
 have key:∀ (p:Nat) (c:Int),p∈oddP→0≤c→LN.lg p p.log2 1024 1120=some c.toNat→((lf 1024 (p:Int):Nat):Int)=c:=fun p c hp h0 h=>by
  have:=lg_lgN hp (by decide) h
  show ((lgN p 1024:Nat):Int)=c
  rw [this]; omega
 simp only [List.map_cons,List.map_nil,List.tail_cons,List.cons.injEq,and_true] at h
 obtain ⟨h1,h2,h3,h4,h5⟩:=h
 simp only [List.head?_cons,Option.some.injEq] at h0
 have p1:=hp c1 (by simp)
 have p2:=hp c2 (by simp)
 have p3:=hp c3 (by simp)
 have p4:=hp c4 (by simp)
 have p5:=hp c5 (by simp)
 have k1:=key 3 c1 (by decide) p1 h1
 have k2:=key 5 c2 (by decide) p2 h2
 have k3:=key 7 c3 (by decide) p3 h3
 have k4:=key 11 c4 (by decide) p4 h4
 have k5:=key 13 c5 (by decide) p5 h5
 have k0:((lf 1024 2:Nat):Int)=c0:=by
  rw [h0]
  exact lf_two 1024
 show [((lf 1024 2:Nat):Int),((lf 1024 3:Nat):Int),((lf 1024 5:Nat):Int),((lf 1024 7:Nat):Int),((lf 1024 11:Nat):Int),((lf 1024 13:Nat):Int)]=_
 rw [k0]
 rw [show ((lf 1024 3:Nat):Int)=c1 from k1,show ((lf 1024 5:Nat):Int)=c2 from k2,show ((lf 1024 7:Nat):Int)=c3 from k3,show ((lf 1024 11:Nat):Int)=c4 from k4,show ((lf 1024 13:Nat):Int)=c5 from k5]
def Kb:Nat:=2 ^ 100
theorem dec_of_cert {tl:List (Int×Int)} (h1:∀ x∈tl,x.1∈smallP) (h0:∀ x∈tl,x.2≠0) (hd:(tl.map Prod.fst).Nodup) (hk:∀ x∈tl,x.2.natAbs≤Kb) (hl:tl.length≤100) (hne:tl≠[]):Dec tl:=by
 have hc:=LN.cert_ok
 rw [← certL_eq] at hc
 have hS:=@mul_pow_le tl.length 100 503 hl (by decide)
 have:=LN.ends_decide hc (by decide) tl hS hne (fun x hx=>⟨h1 x hx,h0 x hx,hk x hx⟩) hd
 unfold Dec
 rw [LN.eLo_eq,LN.eHi_eq]
 omega
structure Good (ps:List Int) (l:List Rat):Prop where
 pr:∀ p∈ps,p∈smallP
 nd:ps.Nodup
 kb:∀ x∈tlQ ps l,x.2.natAbs≤Kb
theorem tlist_fst (D:Nat):∀ (ps:List Int) (l:List Rat),((tlist D ps l).map Prod.fst).Sublist ps
 | [],_=>by simp [tlist]
 | _ :: _,[]=>by simp [tlist]
 | p :: ps,q :: l=>by
  have ih:=tlist_fst D ps l
  unfold tlist at ih ⊢
  rw [List.zip_cons_cons,List.filterMap_cons]
  by_cases h:q.num=0
  ·simp only [h,if_true]; exact ih.cons _
  ·simp only [h,if_false]; exact ih.cons_cons _
theorem smallP_pr {p:Int} (h:p∈smallP):∃ q:Nat,p=q∧(q=2∨q∈oddP):=by
 simp only [smallP,List.mem_cons,List.not_mem_nil,or_false] at h
 rcases h with rfl | rfl | rfl | rfl | rfl | rfl
 ·exact ⟨2,rfl,.inl rfl⟩
 ·exact ⟨3,rfl,.inr (by decide)⟩
 ·exact ⟨5,rfl,.inr (by decide)⟩
 ·exact ⟨7,rfl,.inr (by decide)⟩
 ·exact ⟨11,rfl,.inr (by decide)⟩
 ·exact ⟨13,rfl,.inr (by decide)⟩
theorem tlQ_nz {ps:List Int} {l:List Rat} {x:Int×Int} (h:x∈tlQ ps l):x.2≠0:=by
 obtain ⟨_,q,hq,hn,he⟩:=tlist_mem h
 rw [he]
 refine Int.mul_ne_zero hn ?_
 have h1:=LN.tden_dvd hq
 have h2:=LN.tden_pos' l
 have h3:0 < tden l / q.den:=Nat.div_pos (Nat.le_of_dvd h2 h1) q.den_pos
 omega
theorem Good.trt {ps:List Int} {l:List Rat} (h:Good ps l):TrT (tlQ ps l) :=
 ⟨fun _ hx=>smallP_pr (h.pr _ (tlist_mem hx).1),fun _ hx=>tlQ_nz hx,(tlist_fst _ ps l).nodup h.nd⟩
theorem Good.lt {ps:List Int} {l:List Rat} (h:Good ps l):∀ x∈tlQ ps l,x.2.natAbs < 2 ^ 101:=fun x hx=>Nat.lt_of_le_of_lt (h.kb x hx) (by decide)
theorem Good.dec {ps:List Int} {l:List Rat} (h:Good ps l) (hn:ps.length≤100) (hne:tlQ ps l≠[]):Dec (tlQ ps l) :=
 dec_of_cert (fun x hx=>h.pr _ (tlist_mem hx).1) h.trt.nz h.trt.nd h.kb (Nat.le_trans (by have:=(tlist_fst (tden l) ps l).length_le; rw [List.length_map] at this; exact this) hn) hne
set_option maxRecDepth 100000 in
set_option maxHeartbeats 8000000 in
theorem compare_dec (w:World) (ps:List Int) (a0 a1 a2:Option Addr) (c0 c1 c2 D:Nat) (la lb:List Rat) (A:SizeOk w ps a0 a1 la D) (B:SizeOk w ps a0 a2 lb D) (L:Laid w) (hD:D≤400)
  (hq:Good ps (sumQ ps.length [la,lb] [1,-1])) :
  Gives Tryz.prog 85 #[.slice a0 ps.length c0,.slice a1 la.length c1,.slice a2 lb.length c2] w (.int .i64 (LN.sz ps (sumQ ps.length [la,lb] [1,-1]))):=by
 unfold Gives
 have HL:=Lib.hid L
 have HA:=Lib.hid A
 have HB:=Lib.hid B
 have HD:=Lib.hid hD
 have Hq:=Lib.hid hq
 have Hn:=Lib.hid A.n
 have Hr0:Hid (LN.sz ps (sumQ ps.length [la,lb] [1,-1])=LN.signT (tlQ ps (sumQ ps.length [la,lb] [1,-1]))):=Lib.hid rfl
 have Hnum1:Hid (∀ W,Below w.heap.size w W→Gives Tryz.prog 90 #[.int .i64 1] W (.agg #[.string (itx 1),.string (dec 1)])):=fun W hW=>number_any W 1 (by decide) (by decide) (HL.out.below hW)
 have Hnum2:Hid (∀ W,Below w.heap.size w W→Gives Tryz.prog 90 #[.int .i64 (-1)] W (.agg #[.string (itx (-1)),.string (dec 1)])):=fun W hW=>number_any W (-1) (by decide) (by decide) (HL.out.below hW)
 clear hq hD A B L
 obtain ⟨r,hr⟩:∃ r,LN.sz ps (sumQ ps.length [la,lb] [1,-1])=r:=⟨_,rfl⟩
 have Hsg:Hid (LN.signT (tlQ ps (sumQ ps.length [la,lb] [1,-1]))=r):=by show _=_; rw [← Hr0.out,hr]
 rw [hr]
 clear hr Hr0
 go_enter Tryz.func85,Tryz.ntmps85
 go_wp2_with fail
 have K1:=Lib.hid (heap_at w #[.slice a1 la.length c1,.slice a2 lb.length c2] 50 _ rfl)
 have B1:=Lib.hid ((Below.refl w.heap.size w).alloc nr_ (.cells #[.slice a1 la.length c1,.slice a2 lb.length c2] 50))
 generalize hw1:w.alloc (.cells #[.slice a1 la.length c1,.slice a2 lb.length c2] 50)=w1 at *
 clear hw1
 refine Calls.mono (Hnum1.out _ B1.out) ?_
 rintro e w2 ⟨rfl,hb⟩
 have K2:=Lib.hid (heap_kept K1.out hb nr_)
 have B2:=Lib.hid (B1.out.trans (hb.mono B1.out.size))
 clear hb
 go_wp2_with fail
 refine Calls.mono (Hnum2.out _ B2.out) ?_
 rintro e w3 ⟨rfl,hb⟩
 have K3:=Lib.hid (heap_kept K2.out hb nr_)
 have B3:=Lib.hid (B2.out.trans (hb.mono B2.out.size))
 clear hb
 go_wp2_with fail
 have K4:=Lib.hid (heap_old K3.out (.cells #[.string (itx 1),.string (dec 1),.string (itx (-1)),.string (dec 1)] 92))
 have B4:=Lib.hid (B3.out.alloc B3.out.size (.cells #[.string (itx 1),.string (dec 1),.string (itx (-1)),.string (dec 1)] 92))
 have M4:=Lib.hid (heap_at w3 #[.string (itx 1),.string (dec 1),.string (itx (-1)),.string (dec 1)] 92 _ rfl)
 generalize hw4:w3.alloc (.cells #[.string (itx 1),.string (dec 1),.string (itx (-1)),.string (dec 1)] 92)=w4 at *
 clear hw4
 have Hs:=Lib.hid (sum_pair w4 _ _ a1 a2 c1 c2 ps.length D la lb 1 (-1) K4.out M4.out (HA.out.below B4.out).rl (HB.out.below B4.out).rl HA.out.len HB.out.len HA.out.sm HB.out.sm Sm.one Sm.minus Hn.out HD.out (HL.out.below B4.out))
 refine Calls.mono Hs.out ?_
 rintro e w5 ⟨a5,c5,rfl,ho,hb⟩
 have Hr5:=Lib.hid ho.rd
 have B5:=Lib.hid (B4.out.trans (hb.mono B4.out.size))
 clear hb ho
 have S5:Hid (SizeOk w5 ps a0 a5 (sumQ ps.length [la,lb] [1,-1]) (2 * D + 5)) :=
  ⟨(HA.out.below B5.out).rp,Hr5.out,sum_pair_len HA.out.len HB.out.len,Hn.out,HA.out.pr,sum_pair_sm HA.out.sm HB.out.sm Sm.one Sm.minus,by have:=HD.out; omega⟩
 have Ht:=Lib.hid (terms_ok (c0:=c0) (c:=c5) S5.out (HL.out.below B5.out))
 go_wp2_with fail
 refine Calls.mono Ht.out ?_
 rintro e w6 ⟨b1,d1,b2,d2,rfl,T,hb⟩
 have B6:=Lib.hid (B5.out.trans (hb.mono B5.out.size))
 have Hg:Hid (Gives Tryz.prog 112 #[.agg (tcells b1 d1 b2 d2 (tlQ ps (sumQ ps.length [la,lb] [1,-1])).length (tden (sumQ ps.length [la,lb] [1,-1])))] w6 (.int .i64 r)):=by
  rw [← Hsg.out]; exact sign_dec w6 b1 b2 d1 d2 _ 101 _ T Hq.out.trt (by decide) Hq.out.lt (Hq.out.dec Hn.out) (HL.out.below B6.out)
 clear hb T
 go_wp2_with fail
 refine Calls.mono Hg.out ?_
 rintro e w7 ⟨rfl,hb⟩
 have B7:=Lib.hid (B6.out.trans (hb.mono B6.out.size))
 clear hb
 go_wp2_with fail
 go_ret
 exact ⟨rfl,B7.out⟩
set_option maxRecDepth 100000 in
set_option maxHeartbeats 8000000 in
theorem Compare_dec (w:World) (ps:List Int) (a0 a1 a2:Option Addr) (c0 c1 c2:Nat) (la lb:List Rat) (A:SizeOk w ps a0 a1 la 30) (B:SizeOk w ps a0 a2 lb 30) (hp:pcode ps=0) (L:Laid w)
  (hq:Good ps (sumQ ps.length [la,lb] [1,-1])) :
  Gives Tryz.prog 52 #[.slice a0 ps.length c0,.slice a1 la.length c1,.slice a2 lb.length c2] w (.tuple #[.int .i64 (LN.sz ps (sumQ ps.length [la,lb] [1,-1])),.int .i64 0]):=by
 unfold Gives
 have Hc:Hid (∀ W,Below w.heap.size w W→Gives Tryz.prog 85 #[.slice a0 ps.length c0,.slice a1 la.length c1,.slice a2 lb.length c2] W (.int .i64 (LN.sz ps (sumQ ps.length [la,lb] [1,-1])))):=fun W hW =>
  compare_dec W ps a0 a1 a2 c0 c1 c2 30 la lb (A.below hW) (B.below hW) (L.below hW) (by decide) hq
 have Hk:Hid (∀ W g,Below w.heap.size w W→W.heap[g]?=some (.cells #[.slice a1 la.length c1,.slice a2 lb.length c2] 50 (0,0))→Gives Tryz.prog 84 #[.slice a0 ps.length c0,.slice (some ⟨g,0,none⟩) 2 2] W (.int .i64 0)):=fun W g hW hg =>
  checkAll_two W ps g a0 a1 a2 c0 c1 c2 la lb (A.below hW) (B.below hW) hp (L.below hW) hg
 clear A B hp L hq
 generalize LN.sz ps (sumQ ps.length [la,lb] [1,-1])=r at *
 go_enter Tryz.func52,Tryz.ntmps52
 go_wp2_with fail
 have B1:=Lib.hid ((Below.refl w.heap.size w).alloc nr_ (.cells #[.slice a1 la.length c1,.slice a2 lb.length c2] 50))
 refine Calls.mono (Hk.out _ _ B1.out (heap_at w _ _ _ rfl)) ?_
 rintro e w1 ⟨rfl,hb⟩
 have B2:=Lib.hid (B1.out.trans (hb.mono B1.out.size))
 clear hb Hk B1
 go_wp2_with fail
 refine Calls.mono (Hc.out _ B2.out) ?_
 rintro e w2 ⟨rfl,hb⟩
 have B3:=Lib.hid (B2.out.trans (hb.mono B2.out.size))
 clear hb Hc
 go_wp2_with fail
 go_ret2
 exact ⟨rfl,B3.out⟩
end Go.Proofs.YtpbapojnbmbdlaaGreatDoor

namespace Go.Proofs.YtpbapojnbmbdlaaGreatDoor
open Go.RowKit
theorem prod_le5 {k a:Int} (hk : -100000≤k∧k≤100000) (ha:0≤a∧a≤469762049) : -46976204900000≤k * a∧k * a≤46976204900000:=by
 have h:(k * a).natAbs≤100000 * 469762049:=by rw [Int.natAbs_mul]; exact Nat.mul_le_mul (by omega) (by omega)
 omega
theorem sums_le5:∀ (l:List (Int×Int)),(∀ x∈l,okT 100000 x)→(∀ x∈l,2≤x.1∧x.1≤97) →
  (-((l.length:Int) * 46976204900000)≤lowT l∧lowT l≤(l.length:Int) * 46976204900000)∧(-((l.length:Int) * 46976204900000)≤highT l∧highT l≤(l.length:Int) * 46976204900000)
 | [],_,_=>⟨⟨Int.le_refl _,Int.le_refl _⟩,⟨Int.le_refl _,Int.le_refl _⟩⟩
 | x :: l,h,hp=>by
  have ih:=sums_le5 l (fun y hy=>h y (List.mem_cons_of_mem _ hy)) (fun y hy=>hp y (List.mem_cons_of_mem _ hy))
  have hx:=(h x List.mem_cons_self).1
  have hq:=hp x List.mem_cons_self
  have ha:=lgA_le x.1 hq.1 hq.2
  have t1:=prod_le5 hx (show 0≤lgA x.1∧lgA x.1≤469762049 by omega)
  have t2:=prod_le5 hx (show 0≤lgB x.1∧lgB x.1≤469762049 by unfold lgB; split <;> omega)
  have e1:lowT (x :: l)=min (x.2 * lgA x.1) (x.2 * lgB x.1) + lowT l:=by simp [lowT]
  have e2:highT (x :: l)=max (x.2 * lgA x.1) (x.2 * lgB x.1) + highT l:=by simp [highT]
  rw [e1,e2,List.length_cons]
  omega
theorem lowT_le:∀ l:List (Int×Int),lowT l≤highT l
 | []=>Int.le_refl _
 | x :: l=>by
  have ih:=lowT_le l
  have e1:lowT (x :: l)=min (x.2 * lgA x.1) (x.2 * lgB x.1) + lowT l:=by simp [lowT]
  have e2:highT (x :: l)=max (x.2 * lgA x.1) (x.2 * lgB x.1) + highT l:=by simp [highT]
  rw [e1,e2]
  omega
structure QuoT (tx ty:List (Int×Int)) (d g:Nat) (q:Int):Prop where
 okx:∀ x∈tx,okT 100000 x
 oky:∀ x∈ty,okT 100000 x
 r:(0 < lowT ty∧LN.quoL (lowT tx) (lowT ty) (highT ty) g d=q∧LN.quoH (highT tx) (lowT ty) (highT ty) g d=q) ∨
   (highT ty < 0∧LN.quoL (-highT tx) (-highT ty) (-lowT ty) g d=q∧LN.quoH (-lowT tx) (-highT ty) (-lowT ty) g d=q)
 lo : -4000000000000000000≤q
 hi:q≤4000000000000000000
theorem near_says (w:World) (b1 b2:Option Addr) (d1 d2 D:Nat) (tl:List (Int×Int)) (T:TermsAt w tl b1 b2) (hl:tl.length≤6) :
  ∃ (a h:Int) (b:Bool),(b=true→(∀ x∈tl,okT 100000 x)∧a=lowT tl∧h=highT tl)∧(-300000000000000≤a∧a≤300000000000000)∧(-300000000000000≤h∧h≤300000000000000) ∧
   ∀ W,Below w.heap.size w W→Laid W→Gives Tryz.prog 165 #[.agg (tcells b1 d1 b2 d2 tl.length D),.int .i64 100000] W (.tuple #[.int .i64 a,.int .i64 h,.bool b]):=by
 by_cases ho:∀ x∈tl,okT 100000 x
 ·have hs:=sums_le5 tl ho T.p
  refine ⟨lowT tl,highT tl,true,fun _=>⟨ho,rfl,rfl⟩,by omega,by omega,fun W hW LW=>?_⟩
  have:=near_any W b1 b2 d1 d2 D tl 100000 (by decide) (by decide) T.len (T.below hW).r1 (T.below hW).r2 T.p T.z LW
  unfold nearV at this
  rw [if_pos ho] at this
  exact this
 ·refine ⟨0,0,false,fun h=>(by cases h),by decide,by decide,fun W hW LW=>?_⟩
  have:=near_any W b1 b2 d1 d2 D tl 100000 (by decide) (by decide) T.len (T.below hW).r1 (T.below hW).r2 T.p T.z LW
  unfold nearV at this
  rw [if_neg ho] at this
  exact this
theorem small_says (d:Nat) (hd:Num d):∃ (a:Int) (b:Bool),(b=true→a=d)∧0≤a∧a≤9223372036854775807∧∀ W,Laid W→Gives Tryz.prog 83 #[.string (dec d)] W (.tuple #[.int .i64 a,.bool b]):=by
 by_cases h : -9223372036854775808≤(d:Int)∧(d:Int)≤9223372036854775807
 ·refine ⟨d,true,fun _=>rfl,by omega,h.2,fun W LW=>?_⟩
  have:=smallz_any W (d:Int) hd LW
  rw [if_pos h,itx_nat] at this
  exact this
 ·refine ⟨0,false,fun h=>(by cases h),by decide,by decide,fun W LW=>?_⟩
  have:=smallz_any W (d:Int) hd LW
  rw [if_neg h,itx_nat] at this
  exact this
set_option maxRecDepth 100000 in
set_option maxHeartbeats 64000000 in
theorem quotient_any (w:World) (x1 x2 y1 y2:Option Addr) (e1 e2 g1 g2 d g:Nat) (tx ty:List (Int×Int)) (X:TermsAt w tx x1 x2) (Y:TermsAt w ty y1 y2) (hlx:tx.length≤6) (hly:ty.length≤6) (hd:Num d) (hg:Num g) (hd0:0 < d) (hg0:0 < g) (L:Laid w) :
  Calls Tryz.prog 130 #[.agg (tcells x1 e1 x2 e2 tx.length d),.agg (tcells y1 g1 y2 g2 ty.length g)] w fun e w'=>∃ q b,e = .returned (.tuple #[.int .i64 q,.bool b])∧(b=true→QuoT tx ty d g q)∧Below w.heap.size w w':=by
 obtain ⟨X1,X2,bx,hX,hX1,hX2,NX⟩:=near_says w x1 x2 e1 e2 d tx X hlx
 obtain ⟨Y1,Y2,by_,hY,hY1,hY2,NY⟩:=near_says w y1 y2 g1 g2 g ty Y hly
 obtain ⟨D,bd,hD,hD0,hD1,ND⟩:=small_says d hd
 obtain ⟨G,bg,hG,hG0,hG1,NG⟩:=small_says g hg
 have Hnx:Hid (∀ W,Below w.heap.size w W→Gives Tryz.prog 165 #[.agg (tcells x1 e1 x2 e2 tx.length d),.int .i64 100000] W (.tuple #[.int .i64 X1,.int .i64 X2,.bool bx])):=fun W hW=>NX W hW (L.below hW)
 have Hny:Hid (∀ W,Below w.heap.size w W→Gives Tryz.prog 165 #[.agg (tcells y1 g1 y2 g2 ty.length g),.int .i64 100000] W (.tuple #[.int .i64 Y1,.int .i64 Y2,.bool by_])):=fun W hW=>NY W hW (L.below hW)
 have Hsd:Hid (∀ W,Below w.heap.size w W→Gives Tryz.prog 83 #[.string (dec d)] W (.tuple #[.int .i64 D,.bool bd])):=fun W hW=>ND W (L.below hW)
 have Hsg:Hid (∀ W,Below w.heap.size w W→Gives Tryz.prog 83 #[.string (dec g)] W (.tuple #[.int .i64 G,.bool bg])):=fun W hW=>NG W (L.below hW)
 have R1:Hid (((w.alloc (.cells (tcells x1 e1 x2 e2 tx.length d) 168)).alloc (.cells (tcells y1 g1 y2 g2 ty.length g) 168)).heap[w.heap.size]?=some (.cells #[.slice x1 tx.length e1,.slice x2 tx.length e2,.string (dec d)] 168 (0,0))):=heap_old (heap_at w _ _ _ rfl) _
 have R2:Hid (((w.alloc (.cells (tcells x1 e1 x2 e2 tx.length d) 168)).alloc (.cells (tcells y1 g1 y2 g2 ty.length g) 168)).heap[w.heap.size + 1]?=some (.cells #[.slice y1 ty.length g1,.slice y2 ty.length g2,.string (dec g)] 168 (0,0))):=heap_at _ _ _ _ (by show (w.heap.push _).size=_; exact Array.size_push ..)
 have B0:Hid (Below w.heap.size w ((w.alloc (.cells (tcells x1 e1 x2 e2 tx.length d) 168)).alloc (.cells (tcells y1 g1 y2 g2 ty.length g) 168))):=by
  show Below _ _ _
  have b1:=(Below.refl w.heap.size w).alloc nr_ (.cells (tcells x1 e1 x2 e2 tx.length d) 168)
  exact b1.alloc b1.size _
 have HX:=Lib.hid hX
 have HY:=Lib.hid hY
 have HD:=Lib.hid hD
 have HG:=Lib.hid hG
 clear NX NY ND NG hX hY hD hG X Y L hlx hly hd hg
 generalize tx.length=n at *
 generalize ty.length=m at *
 cases bx with
 | false =>
  go_enter Tryz.func130,Tryz.ntmps130
  go_wp2_with fail
  generalize (w.alloc (.cells (tcells x1 e1 x2 e2 n d) 168)).alloc (.cells (tcells y1 g1 y2 g2 m g) 168)=W0 at *
  refine Calls.mono (Hnx.out _ B0.out) ?_
  rintro e W1 ⟨rfl,hb⟩
  have B1:=Lib.hid (B0.out.trans (hb.mono B0.out.size))
  have R3:=Lib.hid (heap_kept R1.out hb nr_)
  have R4:=Lib.hid (heap_kept R2.out hb nr_)
  clear hb B0 R1 R2 Hnx
  obtain ⟨k0,k1,k2,-⟩:=obj_cells3 R3.out
  obtain ⟨m0,m1,m2,-⟩:=obj_cells3 R4.out
  go_wp2_with fail
  refine Calls.mono (Hny.out _ B1.out) ?_
  rintro e W2 ⟨rfl,hb⟩
  have B2:=Lib.hid (B1.out.trans (hb.mono B1.out.size))
  have R5:=Lib.hid (heap_kept R3.out hb nr_)
  have R6:=Lib.hid (heap_kept R4.out hb nr_)
  clear hb B1 R3 R4 Hny k0 k1 k2 m0 m1 m2
  obtain ⟨k0,k1,k2,-⟩:=obj_cells3 R5.out
  go_wp2_with fail
  refine Calls.mono (Hsd.out _ B2.out) ?_
  rintro e W3 ⟨rfl,hb⟩
  have B3:=Lib.hid (B2.out.trans (hb.mono B2.out.size))
  have R8:=Lib.hid (heap_kept R6.out hb nr_)
  clear hb B2 R5 R6 Hsd k0 k1 k2
  obtain ⟨m0,m1,m2,-⟩:=obj_cells3 R8.out
  go_wp2_with fail
  refine Calls.mono (Hsg.out _ B3.out) ?_
  rintro e W4 ⟨rfl,hb⟩
  have B4:=Lib.hid (B3.out.trans (hb.mono B3.out.size))
  clear hb B3 R8 Hsg m0 m1 m2
  go_wp2_with fail
  go_ret2
  exact ⟨0,false,rfl,fun h=>(by cases h),B4.out⟩
 | true =>
  cases by_ with
  | false =>
   go_enter Tryz.func130,Tryz.ntmps130
   go_wp2_with fail
   generalize (w.alloc (.cells (tcells x1 e1 x2 e2 n d) 168)).alloc (.cells (tcells y1 g1 y2 g2 m g) 168)=W0 at *
   refine Calls.mono (Hnx.out _ B0.out) ?_
   rintro e W1 ⟨rfl,hb⟩
   have B1:=Lib.hid (B0.out.trans (hb.mono B0.out.size))
   have R3:=Lib.hid (heap_kept R1.out hb nr_)
   have R4:=Lib.hid (heap_kept R2.out hb nr_)
   clear hb B0 R1 R2 Hnx
   obtain ⟨k0,k1,k2,-⟩:=obj_cells3 R3.out
   obtain ⟨m0,m1,m2,-⟩:=obj_cells3 R4.out
   go_wp2_with fail
   refine Calls.mono (Hny.out _ B1.out) ?_
   rintro e W2 ⟨rfl,hb⟩
   have B2:=Lib.hid (B1.out.trans (hb.mono B1.out.size))
   have R5:=Lib.hid (heap_kept R3.out hb nr_)
   have R6:=Lib.hid (heap_kept R4.out hb nr_)
   clear hb B1 R3 R4 Hny k0 k1 k2 m0 m1 m2
   obtain ⟨k0,k1,k2,-⟩:=obj_cells3 R5.out
   go_wp2_with fail
   refine Calls.mono (Hsd.out _ B2.out) ?_
   rintro e W3 ⟨rfl,hb⟩
   have B3:=Lib.hid (B2.out.trans (hb.mono B2.out.size))
   have R8:=Lib.hid (heap_kept R6.out hb nr_)
   clear hb B2 R5 R6 Hsd k0 k1 k2
   obtain ⟨m0,m1,m2,-⟩:=obj_cells3 R8.out
   go_wp2_with fail
   refine Calls.mono (Hsg.out _ B3.out) ?_
   rintro e W4 ⟨rfl,hb⟩
   have B4:=Lib.hid (B3.out.trans (hb.mono B3.out.size))
   clear hb B3 R8 Hsg m0 m1 m2
   go_wp2_with fail
   go_ret2
   exact ⟨0,false,rfl,fun h=>(by cases h),B4.out⟩
  | true =>
   cases bd with
   | false =>
    go_enter Tryz.func130,Tryz.ntmps130
    go_wp2_with fail
    generalize (w.alloc (.cells (tcells x1 e1 x2 e2 n d) 168)).alloc (.cells (tcells y1 g1 y2 g2 m g) 168)=W0 at *
    refine Calls.mono (Hnx.out _ B0.out) ?_
    rintro e W1 ⟨rfl,hb⟩
    have B1:=Lib.hid (B0.out.trans (hb.mono B0.out.size))
    have R3:=Lib.hid (heap_kept R1.out hb nr_)
    have R4:=Lib.hid (heap_kept R2.out hb nr_)
    clear hb B0 R1 R2 Hnx
    obtain ⟨k0,k1,k2,-⟩:=obj_cells3 R3.out
    obtain ⟨m0,m1,m2,-⟩:=obj_cells3 R4.out
    go_wp2_with fail
    refine Calls.mono (Hny.out _ B1.out) ?_
    rintro e W2 ⟨rfl,hb⟩
    have B2:=Lib.hid (B1.out.trans (hb.mono B1.out.size))
    have R5:=Lib.hid (heap_kept R3.out hb nr_)
    have R6:=Lib.hid (heap_kept R4.out hb nr_)
    clear hb B1 R3 R4 Hny k0 k1 k2 m0 m1 m2
    obtain ⟨k0,k1,k2,-⟩:=obj_cells3 R5.out
    go_wp2_with fail
    refine Calls.mono (Hsd.out _ B2.out) ?_
    rintro e W3 ⟨rfl,hb⟩
    have B3:=Lib.hid (B2.out.trans (hb.mono B2.out.size))
    have R8:=Lib.hid (heap_kept R6.out hb nr_)
    clear hb B2 R5 R6 Hsd k0 k1 k2
    obtain ⟨m0,m1,m2,-⟩:=obj_cells3 R8.out
    go_wp2_with fail
    refine Calls.mono (Hsg.out _ B3.out) ?_
    rintro e W4 ⟨rfl,hb⟩
    have B4:=Lib.hid (B3.out.trans (hb.mono B3.out.size))
    clear hb B3 R8 Hsg m0 m1 m2
    go_wp2_with fail
    go_ret2
    exact ⟨0,false,rfl,fun h=>(by cases h),B4.out⟩
   | true =>
    cases bg with
    | false =>
     go_enter Tryz.func130,Tryz.ntmps130
     go_wp2_with fail
     generalize (w.alloc (.cells (tcells x1 e1 x2 e2 n d) 168)).alloc (.cells (tcells y1 g1 y2 g2 m g) 168)=W0 at *
     refine Calls.mono (Hnx.out _ B0.out) ?_
     rintro e W1 ⟨rfl,hb⟩
     have B1:=Lib.hid (B0.out.trans (hb.mono B0.out.size))
     have R3:=Lib.hid (heap_kept R1.out hb nr_)
     have R4:=Lib.hid (heap_kept R2.out hb nr_)
     clear hb B0 R1 R2 Hnx
     obtain ⟨k0,k1,k2,-⟩:=obj_cells3 R3.out
     obtain ⟨m0,m1,m2,-⟩:=obj_cells3 R4.out
     go_wp2_with fail
     refine Calls.mono (Hny.out _ B1.out) ?_
     rintro e W2 ⟨rfl,hb⟩
     have B2:=Lib.hid (B1.out.trans (hb.mono B1.out.size))
     have R5:=Lib.hid (heap_kept R3.out hb nr_)
     have R6:=Lib.hid (heap_kept R4.out hb nr_)
     clear hb B1 R3 R4 Hny k0 k1 k2 m0 m1 m2
     obtain ⟨k0,k1,k2,-⟩:=obj_cells3 R5.out
     go_wp2_with fail
     refine Calls.mono (Hsd.out _ B2.out) ?_
     rintro e W3 ⟨rfl,hb⟩
     have B3:=Lib.hid (B2.out.trans (hb.mono B2.out.size))
     have R8:=Lib.hid (heap_kept R6.out hb nr_)
     clear hb B2 R5 R6 Hsd k0 k1 k2
     obtain ⟨m0,m1,m2,-⟩:=obj_cells3 R8.out
     go_wp2_with fail
     refine Calls.mono (Hsg.out _ B3.out) ?_
     rintro e W4 ⟨rfl,hb⟩
     have B4:=Lib.hid (B3.out.trans (hb.mono B3.out.size))
     clear hb B3 R8 Hsg m0 m1 m2
     go_wp2_with fail
     go_ret2
     exact ⟨0,false,rfl,fun h=>(by cases h),B4.out⟩
    | true =>
     have hDd:=HD.out rfl
     have hGg:=HG.out rfl
     have hXx:=HX.out rfl
     have hYy:=HY.out rfl
     by_cases hD2:(10000:Int) < D
     ·clear hDd hGg hXx hYy HX HY HD HG
      go_enter Tryz.func130,Tryz.ntmps130
      go_wp2_with fail
      generalize (w.alloc (.cells (tcells x1 e1 x2 e2 n d) 168)).alloc (.cells (tcells y1 g1 y2 g2 m g) 168)=W0 at *
      refine Calls.mono (Hnx.out _ B0.out) ?_
      rintro e W1 ⟨rfl,hb⟩
      have B1:=Lib.hid (B0.out.trans (hb.mono B0.out.size))
      have R3:=Lib.hid (heap_kept R1.out hb nr_)
      have R4:=Lib.hid (heap_kept R2.out hb nr_)
      clear hb B0 R1 R2 Hnx
      obtain ⟨k0,k1,k2,-⟩:=obj_cells3 R3.out
      obtain ⟨m0,m1,m2,-⟩:=obj_cells3 R4.out
      go_wp2_with fail
      refine Calls.mono (Hny.out _ B1.out) ?_
      rintro e W2 ⟨rfl,hb⟩
      have B2:=Lib.hid (B1.out.trans (hb.mono B1.out.size))
      have R5:=Lib.hid (heap_kept R3.out hb nr_)
      have R6:=Lib.hid (heap_kept R4.out hb nr_)
      clear hb B1 R3 R4 Hny k0 k1 k2 m0 m1 m2
      obtain ⟨k0,k1,k2,-⟩:=obj_cells3 R5.out
      go_wp2_with fail
      refine Calls.mono (Hsd.out _ B2.out) ?_
      rintro e W3 ⟨rfl,hb⟩
      have B3:=Lib.hid (B2.out.trans (hb.mono B2.out.size))
      have R8:=Lib.hid (heap_kept R6.out hb nr_)
      clear hb B2 R5 R6 Hsd k0 k1 k2
      obtain ⟨m0,m1,m2,-⟩:=obj_cells3 R8.out
      go_wp2_with fail
      refine Calls.mono (Hsg.out _ B3.out) ?_
      rintro e W4 ⟨rfl,hb⟩
      have B4:=Lib.hid (B3.out.trans (hb.mono B3.out.size))
      clear hb B3 R8 Hsg m0 m1 m2
      go_wp2_with fail
      go_ret2
      exact ⟨0,false,rfl,fun h=>(by cases h),B4.out⟩
     by_cases hG2:(10000:Int) < G
     ·clear hDd hGg hXx hYy HX HY HD HG
      go_enter Tryz.func130,Tryz.ntmps130
      go_wp2_with fail
      generalize (w.alloc (.cells (tcells x1 e1 x2 e2 n d) 168)).alloc (.cells (tcells y1 g1 y2 g2 m g) 168)=W0 at *
      refine Calls.mono (Hnx.out _ B0.out) ?_
      rintro e W1 ⟨rfl,hb⟩
      have B1:=Lib.hid (B0.out.trans (hb.mono B0.out.size))
      have R3:=Lib.hid (heap_kept R1.out hb nr_)
      have R4:=Lib.hid (heap_kept R2.out hb nr_)
      clear hb B0 R1 R2 Hnx
      obtain ⟨k0,k1,k2,-⟩:=obj_cells3 R3.out
      obtain ⟨m0,m1,m2,-⟩:=obj_cells3 R4.out
      go_wp2_with fail
      refine Calls.mono (Hny.out _ B1.out) ?_
      rintro e W2 ⟨rfl,hb⟩
      have B2:=Lib.hid (B1.out.trans (hb.mono B1.out.size))
      have R5:=Lib.hid (heap_kept R3.out hb nr_)
      have R6:=Lib.hid (heap_kept R4.out hb nr_)
      clear hb B1 R3 R4 Hny k0 k1 k2 m0 m1 m2
      obtain ⟨k0,k1,k2,-⟩:=obj_cells3 R5.out
      go_wp2_with fail
      refine Calls.mono (Hsd.out _ B2.out) ?_
      rintro e W3 ⟨rfl,hb⟩
      have B3:=Lib.hid (B2.out.trans (hb.mono B2.out.size))
      have R8:=Lib.hid (heap_kept R6.out hb nr_)
      clear hb B2 R5 R6 Hsd k0 k1 k2
      obtain ⟨m0,m1,m2,-⟩:=obj_cells3 R8.out
      go_wp2_with fail
      refine Calls.mono (Hsg.out _ B3.out) ?_
      rintro e W4 ⟨rfl,hb⟩
      have B4:=Lib.hid (B3.out.trans (hb.mono B3.out.size))
      clear hb B3 R8 Hsg m0 m1 m2
      go_wp2_with fail
      go_ret2
      exact ⟨0,false,rfl,fun h=>(by cases h),B4.out⟩
     have HXx:=Lib.hid hXx
     have HYy:=Lib.hid hYy
     have HDd:=Lib.hid hDd
     have HGg:=Lib.hid hGg
     have hD3:0 < D:=by omega
     have hG3:0 < G:=by omega
     clear hXx hYy hDd hGg HX HY HD HG hd0 hg0
     by_cases hy:Y2≤0
     ·have wn1:IntKind.i64.wrap (-X1) = -X1:=IntWalk.i64_in _ (by omega)
      have wn2:IntKind.i64.wrap (-X2) = -X2:=IntWalk.i64_in _ (by omega)
      have wn3:IntKind.i64.wrap (-Y1) = -Y1:=IntWalk.i64_in _ (by omega)
      have wn4:IntKind.i64.wrap (-Y2) = -Y2:=IntWalk.i64_in _ (by omega)
      by_cases hy2 : -Y2≤0
      ·clear HXx HYy HDd HGg
       go_enter Tryz.func130,Tryz.ntmps130
       go_wp2_with fail
       generalize (w.alloc (.cells (tcells x1 e1 x2 e2 n d) 168)).alloc (.cells (tcells y1 g1 y2 g2 m g) 168)=W0 at *
       refine Calls.mono (Hnx.out _ B0.out) ?_
       rintro e W1 ⟨rfl,hb⟩
       have B1:=Lib.hid (B0.out.trans (hb.mono B0.out.size))
       have R3:=Lib.hid (heap_kept R1.out hb nr_)
       have R4:=Lib.hid (heap_kept R2.out hb nr_)
       clear hb B0 R1 R2 Hnx
       obtain ⟨k0,k1,k2,-⟩:=obj_cells3 R3.out
       obtain ⟨m0,m1,m2,-⟩:=obj_cells3 R4.out
       go_wp2_with fail
       refine Calls.mono (Hny.out _ B1.out) ?_
       rintro e W2 ⟨rfl,hb⟩
       have B2:=Lib.hid (B1.out.trans (hb.mono B1.out.size))
       have R5:=Lib.hid (heap_kept R3.out hb nr_)
       have R6:=Lib.hid (heap_kept R4.out hb nr_)
       clear hb B1 R3 R4 Hny k0 k1 k2 m0 m1 m2
       obtain ⟨k0,k1,k2,-⟩:=obj_cells3 R5.out
       go_wp2_with fail
       refine Calls.mono (Hsd.out _ B2.out) ?_
       rintro e W3 ⟨rfl,hb⟩
       have B3:=Lib.hid (B2.out.trans (hb.mono B2.out.size))
       have R8:=Lib.hid (heap_kept R6.out hb nr_)
       clear hb B2 R5 R6 Hsd k0 k1 k2
       obtain ⟨m0,m1,m2,-⟩:=obj_cells3 R8.out
       go_wp2_with fail
       refine Calls.mono (Hsg.out _ B3.out) ?_
       rintro e W4 ⟨rfl,hb⟩
       have B4:=Lib.hid (B3.out.trans (hb.mono B3.out.size))
       clear hb B3 R8 Hsg m0 m1 m2
       go_wp2_with fail
       go_ret2
       exact ⟨0,false,rfl,fun h=>(by cases h),B4.out⟩
      ·have hle : -Y2 ≤ -Y1:=by
        obtain ⟨u1,u2,u3⟩:=HYy.out
        rw [u2,u3]
        have:=lowT_le ty
        omega
       by_cases hx1:(-X2) < 0
       ·by_cases hx2:(-X1) < 0
        ·skip
         have r1:((-X2) * G).natAbs≤300000000000000 * 10000:=by rw [Int.natAbs_mul]; exact Nat.mul_le_mul (by omega) (by omega)
         have r2:((-X1) * G).natAbs≤300000000000000 * 10000:=by rw [Int.natAbs_mul]; exact Nat.mul_le_mul (by omega) (by omega)
         have r3:((-Y2) * D).natAbs≤300000000000000 * 10000:=by rw [Int.natAbs_mul]; exact Nat.mul_le_mul (by omega) (by omega)
         have r4:((-Y1) * D).natAbs≤300000000000000 * 10000:=by rw [Int.natAbs_mul]; exact Nat.mul_le_mul (by omega) (by omega)
         have p3:0 < (-Y2) * D:=Int.mul_pos (by omega) hD3
         have p4:0 < (-Y1) * D:=Int.mul_pos (by omega) hD3
         have w1:IntKind.i64.wrap ((-X2) * G)=(-X2) * G:=IntWalk.i64_in _ (by omega)
         have w2:IntKind.i64.wrap ((-X1) * G)=(-X1) * G:=IntWalk.i64_in _ (by omega)
         have w3:IntKind.i64.wrap ((-Y2) * D)=(-Y2) * D:=IntWalk.i64_in _ (by omega)
         have w4:IntKind.i64.wrap ((-Y1) * D)=(-Y1) * D:=IntWalk.i64_in _ (by omega)
         have D1:Hid (∀ W,Gives Tryz.prog 166 #[.int .i64 ((-X2) * G),.int .i64 ((-Y2) * D)] W (.int .i64 ((-X2) * G / ((-Y2) * D)))):=fun W=>downward_any W _ _ (by omega) p3 (by omega)
         have D2:Hid (∀ W,Gives Tryz.prog 166 #[.int .i64 ((-X1) * G),.int .i64 ((-Y1) * D)] W (.int .i64 ((-X1) * G / ((-Y1) * D)))):=fun W=>downward_any W _ _ (by omega) p4 (by omega)
         have q5:(((-X2) * G / ((-Y2) * D)).natAbs:Int)≤4000000000000000000:=by
          have:=Int.natAbs_ediv_le_natAbs ((-X2) * G) ((-Y2) * D)
          omega
         have Hq:Hid ((-X2) * G / ((-Y2) * D)=(-X1) * G / ((-Y1) * D)→QuoT tx ty d g ((-X2) * G / ((-Y2) * D))):=fun h=>by
          obtain ⟨o1,o2,o3⟩:=HXx.out
          obtain ⟨u1,u2,u3⟩:=HYy.out
          refine ⟨o1,u1,?_,by omega,by omega⟩
          rw [← o2,← o3,← u2,← u3,← HDd.out,← HGg.out]
          refine .inr ⟨by omega,?_,?_⟩
          ·unfold LN.quoL
           rw [if_pos (by omega)]
          ·unfold LN.quoH
           rw [if_pos (by omega)]
           exact h.symm
         clear r1 r2 r3 r4 p3 p4 q5 HXx HYy HDd HGg
         obtain ⟨q1,hq1⟩:∃ q,(-X2) * G / ((-Y2) * D)=q:=⟨_,rfl⟩
         obtain ⟨q2,hq2⟩:∃ q,(-X1) * G / ((-Y1) * D)=q:=⟨_,rfl⟩
         rw [hq1] at D1 Hq
         rw [hq2] at D2 Hq
         clear hq1 hq2
         go_enter Tryz.func130,Tryz.ntmps130
         go_wp2_with fail
         generalize (w.alloc (.cells (tcells x1 e1 x2 e2 n d) 168)).alloc (.cells (tcells y1 g1 y2 g2 m g) 168)=W0 at *
         refine Calls.mono (Hnx.out _ B0.out) ?_
         rintro e W1 ⟨rfl,hb⟩
         have B1:=Lib.hid (B0.out.trans (hb.mono B0.out.size))
         have R3:=Lib.hid (heap_kept R1.out hb nr_)
         have R4:=Lib.hid (heap_kept R2.out hb nr_)
         clear hb B0 R1 R2 Hnx
         obtain ⟨k0,k1,k2,-⟩:=obj_cells3 R3.out
         obtain ⟨m0,m1,m2,-⟩:=obj_cells3 R4.out
         go_wp2_with fail
         refine Calls.mono (Hny.out _ B1.out) ?_
         rintro e W2 ⟨rfl,hb⟩
         have B2:=Lib.hid (B1.out.trans (hb.mono B1.out.size))
         have R5:=Lib.hid (heap_kept R3.out hb nr_)
         have R6:=Lib.hid (heap_kept R4.out hb nr_)
         clear hb B1 R3 R4 Hny k0 k1 k2 m0 m1 m2
         obtain ⟨k0,k1,k2,-⟩:=obj_cells3 R5.out
         go_wp2_with fail
         refine Calls.mono (Hsd.out _ B2.out) ?_
         rintro e W3 ⟨rfl,hb⟩
         have B3:=Lib.hid (B2.out.trans (hb.mono B2.out.size))
         have R8:=Lib.hid (heap_kept R6.out hb nr_)
         clear hb B2 R5 R6 Hsd k0 k1 k2
         obtain ⟨m0,m1,m2,-⟩:=obj_cells3 R8.out
         go_wp2_with fail
         refine Calls.mono (Hsg.out _ B3.out) ?_
         rintro e W4 ⟨rfl,hb⟩
         have B4:=Lib.hid (B3.out.trans (hb.mono B3.out.size))
         clear hb B3 R8 Hsg m0 m1 m2
         go_wp2_with fail
         refine Calls.mono (D1.out _) ?_
         rintro e W5 ⟨rfl,hb⟩
         have B5:=Lib.hid (B4.out.trans (hb.mono B4.out.size))
         clear hb B4
         go_wp2_with fail
         refine Calls.mono (D2.out _) ?_
         rintro e W6 ⟨rfl,hb⟩
         have B6:=Lib.hid (B5.out.trans (hb.mono B5.out.size))
         clear hb B5
         go_wp2_with fail
         go_ret2
         exact ⟨q1,q1 == q2,rfl,fun h=>Hq.out (by simpa using h),B6.out⟩
        ·skip
         have r1:((-X2) * G).natAbs≤300000000000000 * 10000:=by rw [Int.natAbs_mul]; exact Nat.mul_le_mul (by omega) (by omega)
         have r2:((-X1) * G).natAbs≤300000000000000 * 10000:=by rw [Int.natAbs_mul]; exact Nat.mul_le_mul (by omega) (by omega)
         have r3:((-Y2) * D).natAbs≤300000000000000 * 10000:=by rw [Int.natAbs_mul]; exact Nat.mul_le_mul (by omega) (by omega)
         have r4:((-Y2) * D).natAbs≤300000000000000 * 10000:=by rw [Int.natAbs_mul]; exact Nat.mul_le_mul (by omega) (by omega)
         have p3:0 < (-Y2) * D:=Int.mul_pos (by omega) hD3
         have p4:0 < (-Y2) * D:=Int.mul_pos (by omega) hD3
         have w1:IntKind.i64.wrap ((-X2) * G)=(-X2) * G:=IntWalk.i64_in _ (by omega)
         have w2:IntKind.i64.wrap ((-X1) * G)=(-X1) * G:=IntWalk.i64_in _ (by omega)
         have w3:IntKind.i64.wrap ((-Y2) * D)=(-Y2) * D:=IntWalk.i64_in _ (by omega)
         have w4:IntKind.i64.wrap ((-Y2) * D)=(-Y2) * D:=IntWalk.i64_in _ (by omega)
         have D1:Hid (∀ W,Gives Tryz.prog 166 #[.int .i64 ((-X2) * G),.int .i64 ((-Y2) * D)] W (.int .i64 ((-X2) * G / ((-Y2) * D)))):=fun W=>downward_any W _ _ (by omega) p3 (by omega)
         have D2:Hid (∀ W,Gives Tryz.prog 166 #[.int .i64 ((-X1) * G),.int .i64 ((-Y2) * D)] W (.int .i64 ((-X1) * G / ((-Y2) * D)))):=fun W=>downward_any W _ _ (by omega) p4 (by omega)
         have q5:(((-X2) * G / ((-Y2) * D)).natAbs:Int)≤4000000000000000000:=by
          have:=Int.natAbs_ediv_le_natAbs ((-X2) * G) ((-Y2) * D)
          omega
         have Hq:Hid ((-X2) * G / ((-Y2) * D)=(-X1) * G / ((-Y2) * D)→QuoT tx ty d g ((-X2) * G / ((-Y2) * D))):=fun h=>by
          obtain ⟨o1,o2,o3⟩:=HXx.out
          obtain ⟨u1,u2,u3⟩:=HYy.out
          refine ⟨o1,u1,?_,by omega,by omega⟩
          rw [← o2,← o3,← u2,← u3,← HDd.out,← HGg.out]
          refine .inr ⟨by omega,?_,?_⟩
          ·unfold LN.quoL
           rw [if_pos (by omega)]
          ·unfold LN.quoH
           rw [if_neg (by omega)]
           exact h.symm
         clear r1 r2 r3 r4 p3 p4 q5 HXx HYy HDd HGg
         obtain ⟨q1,hq1⟩:∃ q,(-X2) * G / ((-Y2) * D)=q:=⟨_,rfl⟩
         obtain ⟨q2,hq2⟩:∃ q,(-X1) * G / ((-Y2) * D)=q:=⟨_,rfl⟩
         rw [hq1] at D1 Hq
         rw [hq2] at D2 Hq
         clear hq1 hq2
         go_enter Tryz.func130,Tryz.ntmps130
         go_wp2_with fail
         generalize (w.alloc (.cells (tcells x1 e1 x2 e2 n d) 168)).alloc (.cells (tcells y1 g1 y2 g2 m g) 168)=W0 at *
         refine Calls.mono (Hnx.out _ B0.out) ?_
         rintro e W1 ⟨rfl,hb⟩
         have B1:=Lib.hid (B0.out.trans (hb.mono B0.out.size))
         have R3:=Lib.hid (heap_kept R1.out hb nr_)
         have R4:=Lib.hid (heap_kept R2.out hb nr_)
         clear hb B0 R1 R2 Hnx
         obtain ⟨k0,k1,k2,-⟩:=obj_cells3 R3.out
         obtain ⟨m0,m1,m2,-⟩:=obj_cells3 R4.out
         go_wp2_with fail
         refine Calls.mono (Hny.out _ B1.out) ?_
         rintro e W2 ⟨rfl,hb⟩
         have B2:=Lib.hid (B1.out.trans (hb.mono B1.out.size))
         have R5:=Lib.hid (heap_kept R3.out hb nr_)
         have R6:=Lib.hid (heap_kept R4.out hb nr_)
         clear hb B1 R3 R4 Hny k0 k1 k2 m0 m1 m2
         obtain ⟨k0,k1,k2,-⟩:=obj_cells3 R5.out
         go_wp2_with fail
         refine Calls.mono (Hsd.out _ B2.out) ?_
         rintro e W3 ⟨rfl,hb⟩
         have B3:=Lib.hid (B2.out.trans (hb.mono B2.out.size))
         have R8:=Lib.hid (heap_kept R6.out hb nr_)
         clear hb B2 R5 R6 Hsd k0 k1 k2
         obtain ⟨m0,m1,m2,-⟩:=obj_cells3 R8.out
         go_wp2_with fail
         refine Calls.mono (Hsg.out _ B3.out) ?_
         rintro e W4 ⟨rfl,hb⟩
         have B4:=Lib.hid (B3.out.trans (hb.mono B3.out.size))
         clear hb B3 R8 Hsg m0 m1 m2
         go_wp2_with fail
         refine Calls.mono (D1.out _) ?_
         rintro e W5 ⟨rfl,hb⟩
         have B5:=Lib.hid (B4.out.trans (hb.mono B4.out.size))
         clear hb B4
         go_wp2_with fail
         refine Calls.mono (D2.out _) ?_
         rintro e W6 ⟨rfl,hb⟩
         have B6:=Lib.hid (B5.out.trans (hb.mono B5.out.size))
         clear hb B5
         go_wp2_with fail
         go_ret2
         exact ⟨q1,q1 == q2,rfl,fun h=>Hq.out (by simpa using h),B6.out⟩
       ·by_cases hx2:(-X1) < 0
        ·skip
         have r1:((-X2) * G).natAbs≤300000000000000 * 10000:=by rw [Int.natAbs_mul]; exact Nat.mul_le_mul (by omega) (by omega)
         have r2:((-X1) * G).natAbs≤300000000000000 * 10000:=by rw [Int.natAbs_mul]; exact Nat.mul_le_mul (by omega) (by omega)
         have r3:((-Y1) * D).natAbs≤300000000000000 * 10000:=by rw [Int.natAbs_mul]; exact Nat.mul_le_mul (by omega) (by omega)
         have r4:((-Y1) * D).natAbs≤300000000000000 * 10000:=by rw [Int.natAbs_mul]; exact Nat.mul_le_mul (by omega) (by omega)
         have p3:0 < (-Y1) * D:=Int.mul_pos (by omega) hD3
         have p4:0 < (-Y1) * D:=Int.mul_pos (by omega) hD3
         have w1:IntKind.i64.wrap ((-X2) * G)=(-X2) * G:=IntWalk.i64_in _ (by omega)
         have w2:IntKind.i64.wrap ((-X1) * G)=(-X1) * G:=IntWalk.i64_in _ (by omega)
         have w3:IntKind.i64.wrap ((-Y1) * D)=(-Y1) * D:=IntWalk.i64_in _ (by omega)
         have w4:IntKind.i64.wrap ((-Y1) * D)=(-Y1) * D:=IntWalk.i64_in _ (by omega)
         have D1:Hid (∀ W,Gives Tryz.prog 166 #[.int .i64 ((-X2) * G),.int .i64 ((-Y1) * D)] W (.int .i64 ((-X2) * G / ((-Y1) * D)))):=fun W=>downward_any W _ _ (by omega) p3 (by omega)
         have D2:Hid (∀ W,Gives Tryz.prog 166 #[.int .i64 ((-X1) * G),.int .i64 ((-Y1) * D)] W (.int .i64 ((-X1) * G / ((-Y1) * D)))):=fun W=>downward_any W _ _ (by omega) p4 (by omega)
         have q5:(((-X2) * G / ((-Y1) * D)).natAbs:Int)≤4000000000000000000:=by
          have:=Int.natAbs_ediv_le_natAbs ((-X2) * G) ((-Y1) * D)
          omega
         have Hq:Hid ((-X2) * G / ((-Y1) * D)=(-X1) * G / ((-Y1) * D)→QuoT tx ty d g ((-X2) * G / ((-Y1) * D))):=fun h=>by
          obtain ⟨o1,o2,o3⟩:=HXx.out
          obtain ⟨u1,u2,u3⟩:=HYy.out
          refine ⟨o1,u1,?_,by omega,by omega⟩
          rw [← o2,← o3,← u2,← u3,← HDd.out,← HGg.out]
          refine .inr ⟨by omega,?_,?_⟩
          ·unfold LN.quoL
           rw [if_neg (by omega)]
          ·unfold LN.quoH
           rw [if_pos (by omega)]
           exact h.symm
         clear r1 r2 r3 r4 p3 p4 q5 HXx HYy HDd HGg
         obtain ⟨q1,hq1⟩:∃ q,(-X2) * G / ((-Y1) * D)=q:=⟨_,rfl⟩
         obtain ⟨q2,hq2⟩:∃ q,(-X1) * G / ((-Y1) * D)=q:=⟨_,rfl⟩
         rw [hq1] at D1 Hq
         rw [hq2] at D2 Hq
         clear hq1 hq2
         go_enter Tryz.func130,Tryz.ntmps130
         go_wp2_with fail
         generalize (w.alloc (.cells (tcells x1 e1 x2 e2 n d) 168)).alloc (.cells (tcells y1 g1 y2 g2 m g) 168)=W0 at *
         refine Calls.mono (Hnx.out _ B0.out) ?_
         rintro e W1 ⟨rfl,hb⟩
         have B1:=Lib.hid (B0.out.trans (hb.mono B0.out.size))
         have R3:=Lib.hid (heap_kept R1.out hb nr_)
         have R4:=Lib.hid (heap_kept R2.out hb nr_)
         clear hb B0 R1 R2 Hnx
         obtain ⟨k0,k1,k2,-⟩:=obj_cells3 R3.out
         obtain ⟨m0,m1,m2,-⟩:=obj_cells3 R4.out
         go_wp2_with fail
         refine Calls.mono (Hny.out _ B1.out) ?_
         rintro e W2 ⟨rfl,hb⟩
         have B2:=Lib.hid (B1.out.trans (hb.mono B1.out.size))
         have R5:=Lib.hid (heap_kept R3.out hb nr_)
         have R6:=Lib.hid (heap_kept R4.out hb nr_)
         clear hb B1 R3 R4 Hny k0 k1 k2 m0 m1 m2
         obtain ⟨k0,k1,k2,-⟩:=obj_cells3 R5.out
         go_wp2_with fail
         refine Calls.mono (Hsd.out _ B2.out) ?_
         rintro e W3 ⟨rfl,hb⟩
         have B3:=Lib.hid (B2.out.trans (hb.mono B2.out.size))
         have R8:=Lib.hid (heap_kept R6.out hb nr_)
         clear hb B2 R5 R6 Hsd k0 k1 k2
         obtain ⟨m0,m1,m2,-⟩:=obj_cells3 R8.out
         go_wp2_with fail
         refine Calls.mono (Hsg.out _ B3.out) ?_
         rintro e W4 ⟨rfl,hb⟩
         have B4:=Lib.hid (B3.out.trans (hb.mono B3.out.size))
         clear hb B3 R8 Hsg m0 m1 m2
         go_wp2_with fail
         refine Calls.mono (D1.out _) ?_
         rintro e W5 ⟨rfl,hb⟩
         have B5:=Lib.hid (B4.out.trans (hb.mono B4.out.size))
         clear hb B4
         go_wp2_with fail
         refine Calls.mono (D2.out _) ?_
         rintro e W6 ⟨rfl,hb⟩
         have B6:=Lib.hid (B5.out.trans (hb.mono B5.out.size))
         clear hb B5
         go_wp2_with fail
         go_ret2
         exact ⟨q1,q1 == q2,rfl,fun h=>Hq.out (by simpa using h),B6.out⟩
        ·skip
         have r1:((-X2) * G).natAbs≤300000000000000 * 10000:=by rw [Int.natAbs_mul]; exact Nat.mul_le_mul (by omega) (by omega)
         have r2:((-X1) * G).natAbs≤300000000000000 * 10000:=by rw [Int.natAbs_mul]; exact Nat.mul_le_mul (by omega) (by omega)
         have r3:((-Y1) * D).natAbs≤300000000000000 * 10000:=by rw [Int.natAbs_mul]; exact Nat.mul_le_mul (by omega) (by omega)
         have r4:((-Y2) * D).natAbs≤300000000000000 * 10000:=by rw [Int.natAbs_mul]; exact Nat.mul_le_mul (by omega) (by omega)
         have p3:0 < (-Y1) * D:=Int.mul_pos (by omega) hD3
         have p4:0 < (-Y2) * D:=Int.mul_pos (by omega) hD3
         have w1:IntKind.i64.wrap ((-X2) * G)=(-X2) * G:=IntWalk.i64_in _ (by omega)
         have w2:IntKind.i64.wrap ((-X1) * G)=(-X1) * G:=IntWalk.i64_in _ (by omega)
         have w3:IntKind.i64.wrap ((-Y1) * D)=(-Y1) * D:=IntWalk.i64_in _ (by omega)
         have w4:IntKind.i64.wrap ((-Y2) * D)=(-Y2) * D:=IntWalk.i64_in _ (by omega)
         have D1:Hid (∀ W,Gives Tryz.prog 166 #[.int .i64 ((-X2) * G),.int .i64 ((-Y1) * D)] W (.int .i64 ((-X2) * G / ((-Y1) * D)))):=fun W=>downward_any W _ _ (by omega) p3 (by omega)
         have D2:Hid (∀ W,Gives Tryz.prog 166 #[.int .i64 ((-X1) * G),.int .i64 ((-Y2) * D)] W (.int .i64 ((-X1) * G / ((-Y2) * D)))):=fun W=>downward_any W _ _ (by omega) p4 (by omega)
         have q5:(((-X2) * G / ((-Y1) * D)).natAbs:Int)≤4000000000000000000:=by
          have:=Int.natAbs_ediv_le_natAbs ((-X2) * G) ((-Y1) * D)
          omega
         have Hq:Hid ((-X2) * G / ((-Y1) * D)=(-X1) * G / ((-Y2) * D)→QuoT tx ty d g ((-X2) * G / ((-Y1) * D))):=fun h=>by
          obtain ⟨o1,o2,o3⟩:=HXx.out
          obtain ⟨u1,u2,u3⟩:=HYy.out
          refine ⟨o1,u1,?_,by omega,by omega⟩
          rw [← o2,← o3,← u2,← u3,← HDd.out,← HGg.out]
          refine .inr ⟨by omega,?_,?_⟩
          ·unfold LN.quoL
           rw [if_neg (by omega)]
          ·unfold LN.quoH
           rw [if_neg (by omega)]
           exact h.symm
         clear r1 r2 r3 r4 p3 p4 q5 HXx HYy HDd HGg
         obtain ⟨q1,hq1⟩:∃ q,(-X2) * G / ((-Y1) * D)=q:=⟨_,rfl⟩
         obtain ⟨q2,hq2⟩:∃ q,(-X1) * G / ((-Y2) * D)=q:=⟨_,rfl⟩
         rw [hq1] at D1 Hq
         rw [hq2] at D2 Hq
         clear hq1 hq2
         go_enter Tryz.func130,Tryz.ntmps130
         go_wp2_with fail
         generalize (w.alloc (.cells (tcells x1 e1 x2 e2 n d) 168)).alloc (.cells (tcells y1 g1 y2 g2 m g) 168)=W0 at *
         refine Calls.mono (Hnx.out _ B0.out) ?_
         rintro e W1 ⟨rfl,hb⟩
         have B1:=Lib.hid (B0.out.trans (hb.mono B0.out.size))
         have R3:=Lib.hid (heap_kept R1.out hb nr_)
         have R4:=Lib.hid (heap_kept R2.out hb nr_)
         clear hb B0 R1 R2 Hnx
         obtain ⟨k0,k1,k2,-⟩:=obj_cells3 R3.out
         obtain ⟨m0,m1,m2,-⟩:=obj_cells3 R4.out
         go_wp2_with fail
         refine Calls.mono (Hny.out _ B1.out) ?_
         rintro e W2 ⟨rfl,hb⟩
         have B2:=Lib.hid (B1.out.trans (hb.mono B1.out.size))
         have R5:=Lib.hid (heap_kept R3.out hb nr_)
         have R6:=Lib.hid (heap_kept R4.out hb nr_)
         clear hb B1 R3 R4 Hny k0 k1 k2 m0 m1 m2
         obtain ⟨k0,k1,k2,-⟩:=obj_cells3 R5.out
         go_wp2_with fail
         refine Calls.mono (Hsd.out _ B2.out) ?_
         rintro e W3 ⟨rfl,hb⟩
         have B3:=Lib.hid (B2.out.trans (hb.mono B2.out.size))
         have R8:=Lib.hid (heap_kept R6.out hb nr_)
         clear hb B2 R5 R6 Hsd k0 k1 k2
         obtain ⟨m0,m1,m2,-⟩:=obj_cells3 R8.out
         go_wp2_with fail
         refine Calls.mono (Hsg.out _ B3.out) ?_
         rintro e W4 ⟨rfl,hb⟩
         have B4:=Lib.hid (B3.out.trans (hb.mono B3.out.size))
         clear hb B3 R8 Hsg m0 m1 m2
         go_wp2_with fail
         refine Calls.mono (D1.out _) ?_
         rintro e W5 ⟨rfl,hb⟩
         have B5:=Lib.hid (B4.out.trans (hb.mono B4.out.size))
         clear hb B4
         go_wp2_with fail
         refine Calls.mono (D2.out _) ?_
         rintro e W6 ⟨rfl,hb⟩
         have B6:=Lib.hid (B5.out.trans (hb.mono B5.out.size))
         clear hb B5
         go_wp2_with fail
         go_ret2
         exact ⟨q1,q1 == q2,rfl,fun h=>Hq.out (by simpa using h),B6.out⟩
     ·by_cases hy2:Y1≤0
      ·clear HXx HYy HDd HGg
       go_enter Tryz.func130,Tryz.ntmps130
       go_wp2_with fail
       generalize (w.alloc (.cells (tcells x1 e1 x2 e2 n d) 168)).alloc (.cells (tcells y1 g1 y2 g2 m g) 168)=W0 at *
       refine Calls.mono (Hnx.out _ B0.out) ?_
       rintro e W1 ⟨rfl,hb⟩
       have B1:=Lib.hid (B0.out.trans (hb.mono B0.out.size))
       have R3:=Lib.hid (heap_kept R1.out hb nr_)
       have R4:=Lib.hid (heap_kept R2.out hb nr_)
       clear hb B0 R1 R2 Hnx
       obtain ⟨k0,k1,k2,-⟩:=obj_cells3 R3.out
       obtain ⟨m0,m1,m2,-⟩:=obj_cells3 R4.out
       go_wp2_with fail
       refine Calls.mono (Hny.out _ B1.out) ?_
       rintro e W2 ⟨rfl,hb⟩
       have B2:=Lib.hid (B1.out.trans (hb.mono B1.out.size))
       have R5:=Lib.hid (heap_kept R3.out hb nr_)
       have R6:=Lib.hid (heap_kept R4.out hb nr_)
       clear hb B1 R3 R4 Hny k0 k1 k2 m0 m1 m2
       obtain ⟨k0,k1,k2,-⟩:=obj_cells3 R5.out
       go_wp2_with fail
       refine Calls.mono (Hsd.out _ B2.out) ?_
       rintro e W3 ⟨rfl,hb⟩
       have B3:=Lib.hid (B2.out.trans (hb.mono B2.out.size))
       have R8:=Lib.hid (heap_kept R6.out hb nr_)
       clear hb B2 R5 R6 Hsd k0 k1 k2
       obtain ⟨m0,m1,m2,-⟩:=obj_cells3 R8.out
       go_wp2_with fail
       refine Calls.mono (Hsg.out _ B3.out) ?_
       rintro e W4 ⟨rfl,hb⟩
       have B4:=Lib.hid (B3.out.trans (hb.mono B3.out.size))
       clear hb B3 R8 Hsg m0 m1 m2
       go_wp2_with fail
       go_ret2
       exact ⟨0,false,rfl,fun h=>(by cases h),B4.out⟩
      ·skip
       by_cases hx1:X1 < 0
       ·by_cases hx2:X2 < 0
        ·skip
         have r1:(X1 * G).natAbs≤300000000000000 * 10000:=by rw [Int.natAbs_mul]; exact Nat.mul_le_mul (by omega) (by omega)
         have r2:(X2 * G).natAbs≤300000000000000 * 10000:=by rw [Int.natAbs_mul]; exact Nat.mul_le_mul (by omega) (by omega)
         have r3:(Y1 * D).natAbs≤300000000000000 * 10000:=by rw [Int.natAbs_mul]; exact Nat.mul_le_mul (by omega) (by omega)
         have r4:(Y2 * D).natAbs≤300000000000000 * 10000:=by rw [Int.natAbs_mul]; exact Nat.mul_le_mul (by omega) (by omega)
         have p3:0 < Y1 * D:=Int.mul_pos (by omega) hD3
         have p4:0 < Y2 * D:=Int.mul_pos (by omega) hD3
         have w1:IntKind.i64.wrap (X1 * G)=X1 * G:=IntWalk.i64_in _ (by omega)
         have w2:IntKind.i64.wrap (X2 * G)=X2 * G:=IntWalk.i64_in _ (by omega)
         have w3:IntKind.i64.wrap (Y1 * D)=Y1 * D:=IntWalk.i64_in _ (by omega)
         have w4:IntKind.i64.wrap (Y2 * D)=Y2 * D:=IntWalk.i64_in _ (by omega)
         have D1:Hid (∀ W,Gives Tryz.prog 166 #[.int .i64 (X1 * G),.int .i64 (Y1 * D)] W (.int .i64 (X1 * G / (Y1 * D)))):=fun W=>downward_any W _ _ (by omega) p3 (by omega)
         have D2:Hid (∀ W,Gives Tryz.prog 166 #[.int .i64 (X2 * G),.int .i64 (Y2 * D)] W (.int .i64 (X2 * G / (Y2 * D)))):=fun W=>downward_any W _ _ (by omega) p4 (by omega)
         have q5:((X1 * G / (Y1 * D)).natAbs:Int)≤4000000000000000000:=by
          have:=Int.natAbs_ediv_le_natAbs (X1 * G) (Y1 * D)
          omega
         have Hq:Hid (X1 * G / (Y1 * D)=X2 * G / (Y2 * D)→QuoT tx ty d g (X1 * G / (Y1 * D))):=fun h=>by
          obtain ⟨o1,o2,o3⟩:=HXx.out
          obtain ⟨u1,u2,u3⟩:=HYy.out
          refine ⟨o1,u1,?_,by omega,by omega⟩
          rw [← o2,← o3,← u2,← u3,← HDd.out,← HGg.out]
          refine .inl ⟨by omega,?_,?_⟩
          ·unfold LN.quoL
           rw [if_pos (by omega)]
          ·unfold LN.quoH
           rw [if_pos (by omega)]
           exact h.symm
         clear r1 r2 r3 r4 p3 p4 q5 HXx HYy HDd HGg
         obtain ⟨q1,hq1⟩:∃ q,X1 * G / (Y1 * D)=q:=⟨_,rfl⟩
         obtain ⟨q2,hq2⟩:∃ q,X2 * G / (Y2 * D)=q:=⟨_,rfl⟩
         rw [hq1] at D1 Hq
         rw [hq2] at D2 Hq
         clear hq1 hq2
         go_enter Tryz.func130,Tryz.ntmps130
         go_wp2_with fail
         generalize (w.alloc (.cells (tcells x1 e1 x2 e2 n d) 168)).alloc (.cells (tcells y1 g1 y2 g2 m g) 168)=W0 at *
         refine Calls.mono (Hnx.out _ B0.out) ?_
         rintro e W1 ⟨rfl,hb⟩
         have B1:=Lib.hid (B0.out.trans (hb.mono B0.out.size))
         have R3:=Lib.hid (heap_kept R1.out hb nr_)
         have R4:=Lib.hid (heap_kept R2.out hb nr_)
         clear hb B0 R1 R2 Hnx
         obtain ⟨k0,k1,k2,-⟩:=obj_cells3 R3.out
         obtain ⟨m0,m1,m2,-⟩:=obj_cells3 R4.out
         go_wp2_with fail
         refine Calls.mono (Hny.out _ B1.out) ?_
         rintro e W2 ⟨rfl,hb⟩
         have B2:=Lib.hid (B1.out.trans (hb.mono B1.out.size))
         have R5:=Lib.hid (heap_kept R3.out hb nr_)
         have R6:=Lib.hid (heap_kept R4.out hb nr_)
         clear hb B1 R3 R4 Hny k0 k1 k2 m0 m1 m2
         obtain ⟨k0,k1,k2,-⟩:=obj_cells3 R5.out
         go_wp2_with fail
         refine Calls.mono (Hsd.out _ B2.out) ?_
         rintro e W3 ⟨rfl,hb⟩
         have B3:=Lib.hid (B2.out.trans (hb.mono B2.out.size))
         have R8:=Lib.hid (heap_kept R6.out hb nr_)
         clear hb B2 R5 R6 Hsd k0 k1 k2
         obtain ⟨m0,m1,m2,-⟩:=obj_cells3 R8.out
         go_wp2_with fail
         refine Calls.mono (Hsg.out _ B3.out) ?_
         rintro e W4 ⟨rfl,hb⟩
         have B4:=Lib.hid (B3.out.trans (hb.mono B3.out.size))
         clear hb B3 R8 Hsg m0 m1 m2
         go_wp2_with fail
         refine Calls.mono (D1.out _) ?_
         rintro e W5 ⟨rfl,hb⟩
         have B5:=Lib.hid (B4.out.trans (hb.mono B4.out.size))
         clear hb B4
         go_wp2_with fail
         refine Calls.mono (D2.out _) ?_
         rintro e W6 ⟨rfl,hb⟩
         have B6:=Lib.hid (B5.out.trans (hb.mono B5.out.size))
         clear hb B5
         go_wp2_with fail
         go_ret2
         exact ⟨q1,q1 == q2,rfl,fun h=>Hq.out (by simpa using h),B6.out⟩
        ·skip
         have r1:(X1 * G).natAbs≤300000000000000 * 10000:=by rw [Int.natAbs_mul]; exact Nat.mul_le_mul (by omega) (by omega)
         have r2:(X2 * G).natAbs≤300000000000000 * 10000:=by rw [Int.natAbs_mul]; exact Nat.mul_le_mul (by omega) (by omega)
         have r3:(Y1 * D).natAbs≤300000000000000 * 10000:=by rw [Int.natAbs_mul]; exact Nat.mul_le_mul (by omega) (by omega)
         have r4:(Y1 * D).natAbs≤300000000000000 * 10000:=by rw [Int.natAbs_mul]; exact Nat.mul_le_mul (by omega) (by omega)
         have p3:0 < Y1 * D:=Int.mul_pos (by omega) hD3
         have p4:0 < Y1 * D:=Int.mul_pos (by omega) hD3
         have w1:IntKind.i64.wrap (X1 * G)=X1 * G:=IntWalk.i64_in _ (by omega)
         have w2:IntKind.i64.wrap (X2 * G)=X2 * G:=IntWalk.i64_in _ (by omega)
         have w3:IntKind.i64.wrap (Y1 * D)=Y1 * D:=IntWalk.i64_in _ (by omega)
         have w4:IntKind.i64.wrap (Y1 * D)=Y1 * D:=IntWalk.i64_in _ (by omega)
         have D1:Hid (∀ W,Gives Tryz.prog 166 #[.int .i64 (X1 * G),.int .i64 (Y1 * D)] W (.int .i64 (X1 * G / (Y1 * D)))):=fun W=>downward_any W _ _ (by omega) p3 (by omega)
         have D2:Hid (∀ W,Gives Tryz.prog 166 #[.int .i64 (X2 * G),.int .i64 (Y1 * D)] W (.int .i64 (X2 * G / (Y1 * D)))):=fun W=>downward_any W _ _ (by omega) p4 (by omega)
         have q5:((X1 * G / (Y1 * D)).natAbs:Int)≤4000000000000000000:=by
          have:=Int.natAbs_ediv_le_natAbs (X1 * G) (Y1 * D)
          omega
         have Hq:Hid (X1 * G / (Y1 * D)=X2 * G / (Y1 * D)→QuoT tx ty d g (X1 * G / (Y1 * D))):=fun h=>by
          obtain ⟨o1,o2,o3⟩:=HXx.out
          obtain ⟨u1,u2,u3⟩:=HYy.out
          refine ⟨o1,u1,?_,by omega,by omega⟩
          rw [← o2,← o3,← u2,← u3,← HDd.out,← HGg.out]
          refine .inl ⟨by omega,?_,?_⟩
          ·unfold LN.quoL
           rw [if_pos (by omega)]
          ·unfold LN.quoH
           rw [if_neg (by omega)]
           exact h.symm
         clear r1 r2 r3 r4 p3 p4 q5 HXx HYy HDd HGg
         obtain ⟨q1,hq1⟩:∃ q,X1 * G / (Y1 * D)=q:=⟨_,rfl⟩
         obtain ⟨q2,hq2⟩:∃ q,X2 * G / (Y1 * D)=q:=⟨_,rfl⟩
         rw [hq1] at D1 Hq
         rw [hq2] at D2 Hq
         clear hq1 hq2
         go_enter Tryz.func130,Tryz.ntmps130
         go_wp2_with fail
         generalize (w.alloc (.cells (tcells x1 e1 x2 e2 n d) 168)).alloc (.cells (tcells y1 g1 y2 g2 m g) 168)=W0 at *
         refine Calls.mono (Hnx.out _ B0.out) ?_
         rintro e W1 ⟨rfl,hb⟩
         have B1:=Lib.hid (B0.out.trans (hb.mono B0.out.size))
         have R3:=Lib.hid (heap_kept R1.out hb nr_)
         have R4:=Lib.hid (heap_kept R2.out hb nr_)
         clear hb B0 R1 R2 Hnx
         obtain ⟨k0,k1,k2,-⟩:=obj_cells3 R3.out
         obtain ⟨m0,m1,m2,-⟩:=obj_cells3 R4.out
         go_wp2_with fail
         refine Calls.mono (Hny.out _ B1.out) ?_
         rintro e W2 ⟨rfl,hb⟩
         have B2:=Lib.hid (B1.out.trans (hb.mono B1.out.size))
         have R5:=Lib.hid (heap_kept R3.out hb nr_)
         have R6:=Lib.hid (heap_kept R4.out hb nr_)
         clear hb B1 R3 R4 Hny k0 k1 k2 m0 m1 m2
         obtain ⟨k0,k1,k2,-⟩:=obj_cells3 R5.out
         go_wp2_with fail
         refine Calls.mono (Hsd.out _ B2.out) ?_
         rintro e W3 ⟨rfl,hb⟩
         have B3:=Lib.hid (B2.out.trans (hb.mono B2.out.size))
         have R8:=Lib.hid (heap_kept R6.out hb nr_)
         clear hb B2 R5 R6 Hsd k0 k1 k2
         obtain ⟨m0,m1,m2,-⟩:=obj_cells3 R8.out
         go_wp2_with fail
         refine Calls.mono (Hsg.out _ B3.out) ?_
         rintro e W4 ⟨rfl,hb⟩
         have B4:=Lib.hid (B3.out.trans (hb.mono B3.out.size))
         clear hb B3 R8 Hsg m0 m1 m2
         go_wp2_with fail
         refine Calls.mono (D1.out _) ?_
         rintro e W5 ⟨rfl,hb⟩
         have B5:=Lib.hid (B4.out.trans (hb.mono B4.out.size))
         clear hb B4
         go_wp2_with fail
         refine Calls.mono (D2.out _) ?_
         rintro e W6 ⟨rfl,hb⟩
         have B6:=Lib.hid (B5.out.trans (hb.mono B5.out.size))
         clear hb B5
         go_wp2_with fail
         go_ret2
         exact ⟨q1,q1 == q2,rfl,fun h=>Hq.out (by simpa using h),B6.out⟩
       ·by_cases hx2:X2 < 0
        ·skip
         have r1:(X1 * G).natAbs≤300000000000000 * 10000:=by rw [Int.natAbs_mul]; exact Nat.mul_le_mul (by omega) (by omega)
         have r2:(X2 * G).natAbs≤300000000000000 * 10000:=by rw [Int.natAbs_mul]; exact Nat.mul_le_mul (by omega) (by omega)
         have r3:(Y2 * D).natAbs≤300000000000000 * 10000:=by rw [Int.natAbs_mul]; exact Nat.mul_le_mul (by omega) (by omega)
         have r4:(Y2 * D).natAbs≤300000000000000 * 10000:=by rw [Int.natAbs_mul]; exact Nat.mul_le_mul (by omega) (by omega)
         have p3:0 < Y2 * D:=Int.mul_pos (by omega) hD3
         have p4:0 < Y2 * D:=Int.mul_pos (by omega) hD3
         have w1:IntKind.i64.wrap (X1 * G)=X1 * G:=IntWalk.i64_in _ (by omega)
         have w2:IntKind.i64.wrap (X2 * G)=X2 * G:=IntWalk.i64_in _ (by omega)
         have w3:IntKind.i64.wrap (Y2 * D)=Y2 * D:=IntWalk.i64_in _ (by omega)
         have w4:IntKind.i64.wrap (Y2 * D)=Y2 * D:=IntWalk.i64_in _ (by omega)
         have D1:Hid (∀ W,Gives Tryz.prog 166 #[.int .i64 (X1 * G),.int .i64 (Y2 * D)] W (.int .i64 (X1 * G / (Y2 * D)))):=fun W=>downward_any W _ _ (by omega) p3 (by omega)
         have D2:Hid (∀ W,Gives Tryz.prog 166 #[.int .i64 (X2 * G),.int .i64 (Y2 * D)] W (.int .i64 (X2 * G / (Y2 * D)))):=fun W=>downward_any W _ _ (by omega) p4 (by omega)
         have q5:((X1 * G / (Y2 * D)).natAbs:Int)≤4000000000000000000:=by
          have:=Int.natAbs_ediv_le_natAbs (X1 * G) (Y2 * D)
          omega
         have Hq:Hid (X1 * G / (Y2 * D)=X2 * G / (Y2 * D)→QuoT tx ty d g (X1 * G / (Y2 * D))):=fun h=>by
          obtain ⟨o1,o2,o3⟩:=HXx.out
          obtain ⟨u1,u2,u3⟩:=HYy.out
          refine ⟨o1,u1,?_,by omega,by omega⟩
          rw [← o2,← o3,← u2,← u3,← HDd.out,← HGg.out]
          refine .inl ⟨by omega,?_,?_⟩
          ·unfold LN.quoL
           rw [if_neg (by omega)]
          ·unfold LN.quoH
           rw [if_pos (by omega)]
           exact h.symm
         clear r1 r2 r3 r4 p3 p4 q5 HXx HYy HDd HGg
         obtain ⟨q1,hq1⟩:∃ q,X1 * G / (Y2 * D)=q:=⟨_,rfl⟩
         obtain ⟨q2,hq2⟩:∃ q,X2 * G / (Y2 * D)=q:=⟨_,rfl⟩
         rw [hq1] at D1 Hq
         rw [hq2] at D2 Hq
         clear hq1 hq2
         go_enter Tryz.func130,Tryz.ntmps130
         go_wp2_with fail
         generalize (w.alloc (.cells (tcells x1 e1 x2 e2 n d) 168)).alloc (.cells (tcells y1 g1 y2 g2 m g) 168)=W0 at *
         refine Calls.mono (Hnx.out _ B0.out) ?_
         rintro e W1 ⟨rfl,hb⟩
         have B1:=Lib.hid (B0.out.trans (hb.mono B0.out.size))
         have R3:=Lib.hid (heap_kept R1.out hb nr_)
         have R4:=Lib.hid (heap_kept R2.out hb nr_)
         clear hb B0 R1 R2 Hnx
         obtain ⟨k0,k1,k2,-⟩:=obj_cells3 R3.out
         obtain ⟨m0,m1,m2,-⟩:=obj_cells3 R4.out
         go_wp2_with fail
         refine Calls.mono (Hny.out _ B1.out) ?_
         rintro e W2 ⟨rfl,hb⟩
         have B2:=Lib.hid (B1.out.trans (hb.mono B1.out.size))
         have R5:=Lib.hid (heap_kept R3.out hb nr_)
         have R6:=Lib.hid (heap_kept R4.out hb nr_)
         clear hb B1 R3 R4 Hny k0 k1 k2 m0 m1 m2
         obtain ⟨k0,k1,k2,-⟩:=obj_cells3 R5.out
         go_wp2_with fail
         refine Calls.mono (Hsd.out _ B2.out) ?_
         rintro e W3 ⟨rfl,hb⟩
         have B3:=Lib.hid (B2.out.trans (hb.mono B2.out.size))
         have R8:=Lib.hid (heap_kept R6.out hb nr_)
         clear hb B2 R5 R6 Hsd k0 k1 k2
         obtain ⟨m0,m1,m2,-⟩:=obj_cells3 R8.out
         go_wp2_with fail
         refine Calls.mono (Hsg.out _ B3.out) ?_
         rintro e W4 ⟨rfl,hb⟩
         have B4:=Lib.hid (B3.out.trans (hb.mono B3.out.size))
         clear hb B3 R8 Hsg m0 m1 m2
         go_wp2_with fail
         refine Calls.mono (D1.out _) ?_
         rintro e W5 ⟨rfl,hb⟩
         have B5:=Lib.hid (B4.out.trans (hb.mono B4.out.size))
         clear hb B4
         go_wp2_with fail
         refine Calls.mono (D2.out _) ?_
         rintro e W6 ⟨rfl,hb⟩
         have B6:=Lib.hid (B5.out.trans (hb.mono B5.out.size))
         clear hb B5
         go_wp2_with fail
         go_ret2
         exact ⟨q1,q1 == q2,rfl,fun h=>Hq.out (by simpa using h),B6.out⟩
        ·skip
         have r1:(X1 * G).natAbs≤300000000000000 * 10000:=by rw [Int.natAbs_mul]; exact Nat.mul_le_mul (by omega) (by omega)
         have r2:(X2 * G).natAbs≤300000000000000 * 10000:=by rw [Int.natAbs_mul]; exact Nat.mul_le_mul (by omega) (by omega)
         have r3:(Y2 * D).natAbs≤300000000000000 * 10000:=by rw [Int.natAbs_mul]; exact Nat.mul_le_mul (by omega) (by omega)
         have r4:(Y1 * D).natAbs≤300000000000000 * 10000:=by rw [Int.natAbs_mul]; exact Nat.mul_le_mul (by omega) (by omega)
         have p3:0 < Y2 * D:=Int.mul_pos (by omega) hD3
         have p4:0 < Y1 * D:=Int.mul_pos (by omega) hD3
         have w1:IntKind.i64.wrap (X1 * G)=X1 * G:=IntWalk.i64_in _ (by omega)
         have w2:IntKind.i64.wrap (X2 * G)=X2 * G:=IntWalk.i64_in _ (by omega)
         have w3:IntKind.i64.wrap (Y2 * D)=Y2 * D:=IntWalk.i64_in _ (by omega)
         have w4:IntKind.i64.wrap (Y1 * D)=Y1 * D:=IntWalk.i64_in _ (by omega)
         have D1:Hid (∀ W,Gives Tryz.prog 166 #[.int .i64 (X1 * G),.int .i64 (Y2 * D)] W (.int .i64 (X1 * G / (Y2 * D)))):=fun W=>downward_any W _ _ (by omega) p3 (by omega)
         have D2:Hid (∀ W,Gives Tryz.prog 166 #[.int .i64 (X2 * G),.int .i64 (Y1 * D)] W (.int .i64 (X2 * G / (Y1 * D)))):=fun W=>downward_any W _ _ (by omega) p4 (by omega)
         have q5:((X1 * G / (Y2 * D)).natAbs:Int)≤4000000000000000000:=by
          have:=Int.natAbs_ediv_le_natAbs (X1 * G) (Y2 * D)
          omega
         have Hq:Hid (X1 * G / (Y2 * D)=X2 * G / (Y1 * D)→QuoT tx ty d g (X1 * G / (Y2 * D))):=fun h=>by
          obtain ⟨o1,o2,o3⟩:=HXx.out
          obtain ⟨u1,u2,u3⟩:=HYy.out
          refine ⟨o1,u1,?_,by omega,by omega⟩
          rw [← o2,← o3,← u2,← u3,← HDd.out,← HGg.out]
          refine .inl ⟨by omega,?_,?_⟩
          ·unfold LN.quoL
           rw [if_neg (by omega)]
          ·unfold LN.quoH
           rw [if_neg (by omega)]
           exact h.symm
         clear r1 r2 r3 r4 p3 p4 q5 HXx HYy HDd HGg
         obtain ⟨q1,hq1⟩:∃ q,X1 * G / (Y2 * D)=q:=⟨_,rfl⟩
         obtain ⟨q2,hq2⟩:∃ q,X2 * G / (Y1 * D)=q:=⟨_,rfl⟩
         rw [hq1] at D1 Hq
         rw [hq2] at D2 Hq
         clear hq1 hq2
         go_enter Tryz.func130,Tryz.ntmps130
         go_wp2_with fail
         generalize (w.alloc (.cells (tcells x1 e1 x2 e2 n d) 168)).alloc (.cells (tcells y1 g1 y2 g2 m g) 168)=W0 at *
         refine Calls.mono (Hnx.out _ B0.out) ?_
         rintro e W1 ⟨rfl,hb⟩
         have B1:=Lib.hid (B0.out.trans (hb.mono B0.out.size))
         have R3:=Lib.hid (heap_kept R1.out hb nr_)
         have R4:=Lib.hid (heap_kept R2.out hb nr_)
         clear hb B0 R1 R2 Hnx
         obtain ⟨k0,k1,k2,-⟩:=obj_cells3 R3.out
         obtain ⟨m0,m1,m2,-⟩:=obj_cells3 R4.out
         go_wp2_with fail
         refine Calls.mono (Hny.out _ B1.out) ?_
         rintro e W2 ⟨rfl,hb⟩
         have B2:=Lib.hid (B1.out.trans (hb.mono B1.out.size))
         have R5:=Lib.hid (heap_kept R3.out hb nr_)
         have R6:=Lib.hid (heap_kept R4.out hb nr_)
         clear hb B1 R3 R4 Hny k0 k1 k2 m0 m1 m2
         obtain ⟨k0,k1,k2,-⟩:=obj_cells3 R5.out
         go_wp2_with fail
         refine Calls.mono (Hsd.out _ B2.out) ?_
         rintro e W3 ⟨rfl,hb⟩
         have B3:=Lib.hid (B2.out.trans (hb.mono B2.out.size))
         have R8:=Lib.hid (heap_kept R6.out hb nr_)
         clear hb B2 R5 R6 Hsd k0 k1 k2
         obtain ⟨m0,m1,m2,-⟩:=obj_cells3 R8.out
         go_wp2_with fail
         refine Calls.mono (Hsg.out _ B3.out) ?_
         rintro e W4 ⟨rfl,hb⟩
         have B4:=Lib.hid (B3.out.trans (hb.mono B3.out.size))
         clear hb B3 R8 Hsg m0 m1 m2
         go_wp2_with fail
         refine Calls.mono (D1.out _) ?_
         rintro e W5 ⟨rfl,hb⟩
         have B5:=Lib.hid (B4.out.trans (hb.mono B4.out.size))
         clear hb B4
         go_wp2_with fail
         refine Calls.mono (D2.out _) ?_
         rintro e W6 ⟨rfl,hb⟩
         have B6:=Lib.hid (B5.out.trans (hb.mono B5.out.size))
         clear hb B5
         go_wp2_with fail
         go_ret2
         exact ⟨q1,q1 == q2,rfl,fun h=>Hq.out (by simpa using h),B6.out⟩
end Go.Proofs.YtpbapojnbmbdlaaGreatDoor

namespace Go.Proofs.YtpbapojnbmbdlaaGreatDoor
open Go.RowKit
def flE (xl xh yl yh g d:Int):Option Int:=if yl≤0 then none else if LN.quoL xl yl yh g d=LN.quoH xh yl yh g d then some (LN.quoL xl yl yh g d) else none
def flS (xl xh yl yh g d:Int):Option Int:=if yh≤0 then flE (-xh) (-xl) (-yh) (-yl) g d else flE xl xh yl yh g d
def flAt (n:Nat) (tx ty:List (Int×Int)) (d g:Nat):Option Int:=flS (LN.eLo (lf n) tx) (LN.eHi (lf n) tx) (LN.eLo (lf n) ty) (LN.eHi (lf n) ty) g d
theorem eLo_le (f:Int→Nat):∀ l:List (Int×Int),LN.eLo f l≤LN.eHi f l
 | []=>Int.le_refl _
 | x :: l=>by
  have ih:=eLo_le f l
  have e1:LN.eLo f (x :: l)=(if x.2 < 0 then x.2 * (LN.hiL f x.1:Int) else x.2 * (f x.1:Int)) + LN.eLo f l:=by simp [LN.eLo]
  have e2:LN.eHi f (x :: l)=(if x.2 < 0 then x.2 * (f x.1:Int) else x.2 * (LN.hiL f x.1:Int)) + LN.eHi f l:=by simp [LN.eHi]
  have hle:f x.1≤LN.hiL f x.1:=by unfold LN.hiL; split <;> omega
  rw [e1,e2]
  by_cases hk:x.2 < 0
  ·have h1:x.2 * (LN.hiL f x.1:Int)≤x.2 * (f x.1:Int):=Int.mul_le_mul_of_nonpos_left (by omega) (by omega)
   rw [if_pos hk,if_pos hk]; omega
  ·have h1:x.2 * (f x.1:Int)≤x.2 * (LN.hiL f x.1:Int):=Int.mul_le_mul_of_nonneg_left (by omega) (by omega)
   rw [if_neg hk,if_neg hk]; omega
theorem flE_some {xl xh yl yh g d q:Int} (h:flE xl xh yl yh g d=some q):0 < yl∧LN.quoL xl yl yh g d=q∧LN.quoH xh yl yh g d=q:=by
 unfold flE at h
 split at h
 ·cases h
 ·rename_i h1
  split at h
  ·rename_i h2
   have h3:LN.quoL xl yl yh g d=q:=by simpa using h
   exact ⟨by omega,h3,by rw [← h2]; exact h3⟩
  ·cases h
theorem smallP_log {ps:List Int} (h:∀ p∈ps,p∈smallP) {n:Nat} (hn:n≤1056):∀ p∈ps,LN.LogAt n p (lf n p):=fun p hp=>by
 obtain ⟨q,rfl,hq⟩:=smallP_pr (h p hp)
 exact lgN_at hq hn
theorem smallP_pos' {ps:List Int} (h:∀ p∈ps,p∈smallP):∀ p∈ps,0 < p:=fun p hp=>by
 have key:∀ q∈smallP,0 < q:=by decide
 exact key p (h p hp)
theorem flAt_floor {ps:List Int} {la lb:List Rat} (h:∀ p∈ps,p∈smallP) (hl:la.length=lb.length) {n:Nat} (hn:n≤1056) {q:Int} (hq:flAt n (tlQ ps la) (tlQ ps lb) (tden la) (tden lb)=some q):LN.FloorOf ps la lb q:=by
 unfold flAt flS at hq
 have hy:=eLo_le (lf n) (tlQ ps lb)
 split at hq
 ·obtain ⟨h1,h2,h3⟩:=flE_some hq
  exact LN.floor_neg (smallP_pos' h) hl (smallP_log h hn) rfl rfl rfl rfl (by show LN.eHi (lf n) (tlQ ps lb) < 0; omega) hy h2 h3
 ·obtain ⟨h1,h2,h3⟩:=flE_some hq
  exact LN.floor_pos (smallP_pos' h) hl (smallP_log h hn) rfl rfl rfl rfl h1 hy h2 h3
theorem quoT_floor {ps:List Int} {la lb:List Rat} (h:∀ p∈ps,p∈smallP) (hl:la.length=lb.length) {q:Int} (hq:QuoT (tlQ ps la) (tlQ ps lb) (tden la) (tden lb) q):LN.FloorOf ps la lb q:=by
 have pa:PrT (tlQ ps la):=fun x hx=>smallP_pr (h _ (tlist_mem hx).1)
 have pb:PrT (tlQ ps lb):=fun x hx=>smallP_pr (h _ (tlist_mem hx).1)
 obtain ⟨a1,a2⟩:=lowT_eq _ pa hq.okx
 obtain ⟨b1,b2⟩:=lowT_eq _ pb hq.oky
 have hr:=hq.r
 rw [a1,a2,b1,b2] at hr
 have hy:=eLo_le (lf 26) (tlQ ps lb)
 rcases hr with ⟨h1,h2,h3⟩ | ⟨h1,h2,h3⟩
 ·exact LN.floor_pos (smallP_pos' h) hl (smallP_log h (by decide)) rfl rfl rfl rfl h1 hy h2 h3
 ·exact LN.floor_neg (smallP_pos' h) hl (smallP_log h (by decide)) rfl rfl rfl rfl h1 hy h2 h3
theorem ratio_floor {ps:List Int} {la lb:List Rat} (h:∀ p∈ps,p∈smallP) (h1:la.length=ps.length) (h2:lb.length=ps.length) {k:Rat} (hr:ratioB la lb ps.length k=true) (h0:LN.sz ps lb≠0):LN.FloorOf ps la lb k.floor:=by
 refine LN.floor_mult (smallP_pos' h) (k:=k) ?_ h0
 have hr':=of_decide_eq_true hr
 refine List.ext_getElem (by simp; omega) fun i i1 i2=>?_
 have:=hr' i (by omega)
 rw [List.getElem_map]
 rw [List.getD_eq_getElem?_getD,List.getD_eq_getElem?_getD,List.getElem?_eq_getElem (by omega),List.getElem?_eq_getElem i1] at this
 exact this.symm
theorem divZ (w:World) (a b:Int) (K:Nat) (hK:K < 90000) (ha:a.natAbs < 2 ^ K) (hb:b.natAbs < 2 ^ K) (h0:0 < b) (L:Laid w):Gives Tryz.prog 133 #[.string (itx a),.string (itx b)] w (.tuple #[.string (itx (a / b)),.string (itx (a % b)),.int .i64 0]):=by
 obtain ⟨n,rfl⟩:=Int.eq_ofNat_of_zero_le (Int.le_of_lt h0)
 have hs:Num (a.natAbs + 1):=num_two (K:=K + 1) (by rw [Nat.pow_succ]; omega) (by omega)
 have:=divmodz_any w a n (num_two ha (by omega)) (num_two hb (by omega)) (by omega) hs L
 rw [itx_nat]
 exact this
theorem same_itx (a b:Int):((itx a).toList == (itx b).toList)=decide (a=b):=by
 by_cases h:a=b
 ·subst h; simp
 ·rw [decide_eq_false h,beq_eq_false_iff_ne]
  intro e
  rw [toList_lb,toList_lb] at e
  exact h (itx_inj (by
   have h1:(itx a).data.toList=(itx b).data.toList:=e
   exact ByteArray.ext (Array.toList_inj.1 h1)))
def FlrPost (ps:List Int) (la lb:List Rat) (e:Ending):Prop:=∃ q,e = .returned (.string (itx q))∧LN.FloorOf ps la lb q
structure FlrOk (ps:List Int) (la lb:List Rat) (E:Nat):Prop where
 pr:∀ p∈ps,p∈smallP
 n6:ps.length≤6
 kx:∀ x∈tlQ ps la,x.2.natAbs < 2 ^ E
 ky:∀ x∈tlQ ps lb,x.2.natAbs < 2 ^ E
 d:tden la < 2 ^ E
 g:tden lb < 2 ^ E
 e:E≤3000
 nz:LN.sz ps lb≠0
 dec:ratioB la lb ps.length (ratioK la lb ps.length)=false→flAt 1024 (tlQ ps la) (tlQ ps lb) (tden la) (tden lb)≠none
set_option maxRecDepth 100000 in
set_option maxHeartbeats 64000000 in
theorem floor_any (w:World) (ps:List Int) (a0 a1 a2:Option Addr) (c0 c1 c2 D E:Nat) (la lb:List Rat) (A:SizeOk w ps a0 a1 la D) (B:SizeOk w ps a0 a2 lb D) (hD0:0 < D) (F:FlrOk ps la lb E) (L:Laid w) :
  Calls Tryz.prog 92 #[.slice a0 ps.length c0,.slice a1 la.length c1,.slice a2 lb.length c2] w fun e w'=>FlrPost ps la lb e∧Below w.heap.size w w':=by
 cases hr:ratioB la lb ps.length (ratioK la lb ps.length) with
 | true =>
  refine Calls.mono (floor_ratio w ps a0 a1 a2 c0 c1 c2 D la lb A B hD0 L hr) ?_
  rintro e w' ⟨rfl,hb⟩
  exact ⟨⟨_,rfl,ratio_floor F.pr A.len B.len hr F.nz⟩,hb⟩
 | false =>
  have hn:=A.n
  have hdd:=A.d
  have HL:=Lib.hid L
  have HF:=Lib.hid F
  have Hdec:=Lib.hid (F.dec hr)
  have Hra:=Lib.hid (ratio_any w a1 a2 c1 c2 ps.length D la lb A.rl B.rl A.len B.len A.sm B.sm (by omega) hD0 hdd L)
  rw [hr] at Hra
  have Ht1:Hid (∀ W,Below w.heap.size w W→Calls Tryz.prog 111 #[.slice a0 ps.length c0,.slice a1 ps.length c1] W fun e w'=>∃ b1 d1 b2 d2,e = .returned (.agg (tcells b1 d1 b2 d2 (tlQ ps la).length (tden la)))∧TermsAt w' (tlQ ps la) b1 b2∧Below W.heap.size W w'):=fun W hW=>by
   have:=terms_ok (c0:=c0) (c:=c1) (A.below hW) (L.below hW)
   rw [A.len] at this
   exact this
  have Ht2:Hid (∀ W,Below w.heap.size w W→Calls Tryz.prog 111 #[.slice a0 ps.length c0,.slice a2 ps.length c2] W fun e w'=>∃ b1 d1 b2 d2,e = .returned (.agg (tcells b1 d1 b2 d2 (tlQ ps lb).length (tden lb)))∧TermsAt w' (tlQ ps lb) b1 b2∧Below W.heap.size W w'):=fun W hW=>by
   have:=terms_ok (c0:=c0) (c:=c2) (B.below hW) (L.below hW)
   rw [B.len] at this
   exact this
  have hE:=F.e
  have lx:(tlQ ps la).length≤6:=Nat.le_trans (by have:=(tlist_fst (tden la) ps la).length_le; rw [List.length_map] at this; exact this) F.n6
  have ly:(tlQ ps lb).length≤6:=Nat.le_trans (by have:=(tlist_fst (tden lb) ps lb).length_le; rw [List.length_map] at this; exact this) F.n6
  have hd0:=LN.tden_pos' la
  have hg0:=LN.tden_pos' lb
  have px:PrT (tlQ ps la):=fun x hx=>smallP_pr (F.pr _ (tlist_mem hx).1)
  have py:PrT (tlQ ps lb):=fun x hx=>smallP_pr (F.pr _ (tlist_mem hx).1)
  have hll:la.length=lb.length:=A.len.trans B.len.symm
  have Hqu:Hid (∀ W x1 x2 y1 y2 e1 e2 g1 g2,TermsAt W (tlQ ps la) x1 x2→TermsAt W (tlQ ps lb) y1 y2→Laid W→Calls Tryz.prog 130 #[.agg (tcells x1 e1 x2 e2 (tlQ ps la).length (tden la)),.agg (tcells y1 g1 y2 g2 (tlQ ps lb).length (tden lb))] W fun e w'=>∃ q b,e = .returned (.tuple #[.int .i64 q,.bool b])∧(b=true→QuoT (tlQ ps la) (tlQ ps lb) (tden la) (tden lb) q)∧Below W.heap.size W w'):=fun W x1 x2 y1 y2 e1 e2 g1 g2 X Y LW =>
   quotient_any W x1 x2 y1 y2 e1 e2 g1 g2 _ _ _ _ X Y lx ly (num_two F.d (by omega)) (num_two F.g (by omega)) hd0 hg0 LW
  have Hof:Hid (∀ W q,-9223372036854775808≤q→q≤9223372036854775807→Below w.heap.size w W→Gives Tryz.prog 113 #[.int .i64 q] W (.string (itx q))):=fun W q h1 h2 hW=>ofz_any W q h1 h2 (L.below hW)
  have HqF:Hid (∀ q,QuoT (tlQ ps la) (tlQ ps lb) (tden la) (tden lb) q→LN.FloorOf ps la lb q):=fun q h=>quoT_floor F.pr hll h
  have HfF:Hid (∀ n q,n≤1056→flAt n (tlQ ps la) (tlQ ps lb) (tden la) (tden lb)=some q→LN.FloorOf ps la lb q):=fun n q hn h=>flAt_floor F.pr hll hn h
  have Hen1:Hid (∀ (n:Nat) W x1 x2 e1 e2,n≤1056→TermsAt W (tlQ ps la) x1 x2→Laid W→Gives Tryz.prog 131 #[.agg (tcells x1 e1 x2 e2 (tlQ ps la).length (tden la)),.int .i64 n] W (.tuple #[.string (itx (LN.eLo (lf n) (tlQ ps la))),.string (itx (LN.eHi (lf n) (tlQ ps la)))])):=fun n W x1 x2 e1 e2 hn T LW =>
   ends_any W x1 x2 e1 e2 _ n E _ T px (by omega) F.kx hn LW
  have Hen2:Hid (∀ (n:Nat) W x1 x2 e1 e2,n≤1056→TermsAt W (tlQ ps lb) x1 x2→Laid W→Gives Tryz.prog 131 #[.agg (tcells x1 e1 x2 e2 (tlQ ps lb).length (tden lb)),.int .i64 n] W (.tuple #[.string (itx (LN.eLo (lf n) (tlQ ps lb))),.string (itx (LN.eHi (lf n) (tlQ ps lb)))])):=fun n W x1 x2 e1 e2 hn T LW =>
   ends_any W x1 x2 e1 e2 _ n E _ T py (by omega) F.ky hn LW
  obtain ⟨K,hK⟩:∃ K:Nat,K=E + 1060 + 10:=⟨_,rfl⟩
  have Hbx:Hid (∀ n:Nat,n≤1024→(LN.eLo (lf n) (tlQ ps la)).natAbs < 2 ^ K∧(LN.eHi (lf n) (tlQ ps la)).natAbs < 2 ^ K):=fun n hn=>by
   obtain ⟨h1,h2⟩:=eSum_num (n:=n) (E:=E) (by omega) (tlQ ps la) (by omega) px F.kx
   exact ⟨Nat.lt_of_lt_of_le h1 (Nat.pow_le_pow_right (by decide) (by omega)),Nat.lt_of_lt_of_le h2 (Nat.pow_le_pow_right (by decide) (by omega))⟩
  have Hby:Hid (∀ n:Nat,n≤1024→(LN.eLo (lf n) (tlQ ps lb)).natAbs < 2 ^ K∧(LN.eHi (lf n) (tlQ ps lb)).natAbs < 2 ^ K):=fun n hn=>by
   obtain ⟨h1,h2⟩:=eSum_num (n:=n) (E:=E) (by omega) (tlQ ps lb) (by omega) py F.ky
   exact ⟨Nat.lt_of_lt_of_le h1 (Nat.pow_le_pow_right (by decide) (by omega)),Nat.lt_of_lt_of_le h2 (Nat.pow_le_pow_right (by decide) (by omega))⟩
  have hKK:K + K < 90000:=by omega
  have hdK:tden la < 2 ^ K:=Nat.lt_of_lt_of_le F.d (Nat.pow_le_pow_right (by decide) (by omega))
  have hgK:tden lb < 2 ^ K:=Nat.lt_of_lt_of_le F.g (Nat.pow_le_pow_right (by decide) (by omega))
  have HS:Hid (∀ (z:Int) W,Gives Tryz.prog 93 #[.string (itx z)] W (.int .i64 z.sign)):=fun z W=>sign_any W z
  have HN:Hid (∀ (z:Int) W,z.natAbs < 2 ^ K→Gives Tryz.prog 132 #[.string (itx z)] W (.string (itx (-z)))):=fun z W hz=>neg_any W z (num_two hz (by omega))
  have HMd:Hid (∀ (a:Int) W,a.natAbs < 2 ^ K→Below w.heap.size w W→Gives Tryz.prog 134 #[.string (itx a),.string (dec (tden la))] W (.string (itx (a * (tden la:Int))))):=fun a W ha hW=>by
   have:=mulZ W a (tden la:Int) K K hKK ha (by rw [Int.natAbs_natCast]; exact hdK) (L.below hW)
   rw [itx_nat] at this; exact this
  have HMg:Hid (∀ (a:Int) W,a.natAbs < 2 ^ K→Below w.heap.size w W→Gives Tryz.prog 134 #[.string (itx a),.string (dec (tden lb))] W (.string (itx (a * (tden lb:Int))))):=fun a W ha hW=>by
   have:=mulZ W a (tden lb:Int) K K hKK ha (by rw [Int.natAbs_natCast]; exact hgK) (L.below hW)
   rw [itx_nat] at this; exact this
  have HDv:Hid (∀ (a b:Int) W,a.natAbs < 2 ^ K→b.natAbs < 2 ^ K→0 < b→Below w.heap.size w W→Gives Tryz.prog 133 #[.string (itx (a * (tden lb:Int))),.string (itx (b * (tden la:Int)))] W (.tuple #[.string (itx (a * (tden lb:Int) / (b * (tden la:Int)))),.string (itx (a * (tden lb:Int) % (b * (tden la:Int)))),.int .i64 0])):=fun a b W ha hb hb0 hW =>
   divZ W _ _ (K + K) hKK (abs_mul_lt ha hgK) (abs_mul_lt hb hdK) (Int.mul_pos hb0 (by omega)) (L.below hW)
  have Hfl:Hid (∀ n,flAt n (tlQ ps la) (tlQ ps lb) (tden la) (tden lb)=flS (LN.eLo (lf n) (tlQ ps la)) (LN.eHi (lf n) (tlQ ps la)) (LN.eLo (lf n) (tlQ ps lb)) (LN.eHi (lf n) (tlQ ps lb)) (tden lb) (tden la)):=fun n=>rfl
  unfold fr fv at Hra
  rw [A.len,B.len]
  clear A B L hr F hn hdd hE lx ly hd0 hg0 px py hll hK hKK hdK hgK hD0
  generalize ratioK la lb ps.length=k at *
  generalize tlQ ps la=tx at *
  generalize tlQ ps lb=ty at *
  generalize tden la=dx at *
  generalize tden lb=dy at *
  go_enter Tryz.func92,Tryz.ntmps92
  go_wp2_with fail
  refine Calls.mono Hra.out ?_
  rintro e w1 ⟨rfl,hb⟩
  have B2:=Lib.hid (hb.alloc hb.size (.cells #[.string (itx k.num),.string (dec k.den)] 92))
  clear hb Hra
  go_wp2_with fail
  generalize w1.alloc (.cells #[.string (itx k.num),.string (dec k.den)] 92)=w2 at *
  refine Calls.mono (Ht1.out _ B2.out) ?_
  rintro e w3 ⟨b1,d1,b2,d2,rfl,X,hb⟩
  have B3:=Lib.hid (B2.out.trans (hb.mono B2.out.size))
  have HX:=Lib.hid X
  clear hb Ht1 X B2
  go_wp2_with fail
  refine Calls.mono (Ht2.out _ B3.out) ?_
  rintro e w4 ⟨b3,d3,b4,d4,rfl,Y,hb⟩
  have B4:=Lib.hid (B3.out.trans (hb.mono B3.out.size))
  have HX4:=Lib.hid (HX.out.below hb)
  have HY:=Lib.hid Y
  clear hb Ht2 Y B3 HX
  go_wp2_with fail
  have Bx:=Lib.hid (((Below.refl w4.heap.size w4).alloc nr_ (.cells #[.slice b1 tx.length d1,.slice b2 tx.length d2,.string (dec dx)] 168)).alloc ((Below.refl w4.heap.size w4).alloc nr_ (.cells #[.slice b1 tx.length d1,.slice b2 tx.length d2,.string (dec dx)] 168)).size (.cells #[.slice b3 ty.length d3,.slice b4 ty.length d4,.string (dec dy)] 168))
  have S1:=Lib.hid (heap_old (heap_at w4 #[.slice b1 tx.length d1,.slice b2 tx.length d2,.string (dec dx)] 168 _ rfl) (.cells #[.slice b3 ty.length d3,.slice b4 ty.length d4,.string (dec dy)] 168))
  have S2:=Lib.hid (heap_at (w4.alloc (.cells #[.slice b1 tx.length d1,.slice b2 tx.length d2,.string (dec dx)] 168)) #[.slice b3 ty.length d3,.slice b4 ty.length d4,.string (dec dy)] 168 (w4.heap.size + 1) (by show (w4.heap.push _).size=_; exact Array.size_push ..))
  have HX5:=Lib.hid (HX4.out.below Bx.out)
  have HY5:=Lib.hid (HY.out.below Bx.out)
  have B5:=Lib.hid (B4.out.trans (Bx.out.mono B4.out.size))
  clear HX4 HY Bx
  generalize hN:w4.heap.size=N9 at *
  generalize (w4.alloc (.cells #[.slice b1 tx.length d1,.slice b2 tx.length d2,.string (dec dx)] 168)).alloc (.cells #[.slice b3 ty.length d3,.slice b4 ty.length d4,.string (dec dy)] 168)=w5 at *
  clear hN B4
  refine Calls.mono (Hqu.out _ _ _ _ _ d1 d2 d3 d4 HX5.out HY5.out (HL.out.below B5.out)) ?_
  rintro e w6 ⟨q0,bq,rfl,hq0,hb⟩
  have B6:=Lib.hid (B5.out.trans (hb.mono B5.out.size))
  have T1:=Lib.hid (heap_kept S1.out hb nr_)
  have T2:=Lib.hid (heap_kept S2.out hb nr_)
  have HX6:=Lib.hid (HX5.out.below hb)
  have HY6:=Lib.hid (HY5.out.below hb)
  have Hq0:=Lib.hid hq0
  clear hb Hqu HX5 HY5 S1 S2 B5 hq0
  cases bq with
  | true =>
   have hqt:=Hq0.out rfl
   have Hfo:=Lib.hid (HqF.out q0 hqt)
   have Hoq:=Lib.hid (Hof.out w6 q0 (by have:=hqt.lo; omega) (by have:=hqt.hi; omega) B6.out)
   clear hqt
   go_wp2_with fail
   refine Calls.mono Hoq.out ?_
   rintro e w7 ⟨rfl,hb⟩
   have B7:=Lib.hid (B6.out.trans (hb.mono B6.out.size))
   clear hb Hoq
   go_wp2_with fail
   go_ret
   exact ⟨⟨q0,rfl,Hfo.out⟩,B7.out⟩
  | false =>
   clear Hq0 HqF Hof
   go_wp2_with fail
   go_loopw [13] (fun a wr=>∃ (n:Nat),Hid (Pw n)∧n≤1024∧a = .int .i64 n∧Hid (Below w.heap.size w wr)∧Hid (wr.heap[N9]?=some (.cells #[.slice b1 tx.length d1,.slice b2 tx.length d2,.string (dec dx)] 168 (0,0)))∧Hid (wr.heap[N9 + 1]?=some (.cells #[.slice b3 ty.length d3,.slice b4 ty.length d4,.string (dec dy)] 168 (0,0)))∧Hid (TermsAt wr tx b1 b2)∧Hid (TermsAt wr ty b3 b4)) (fun a _=>1024 - (intOf a).toNat)
   case atStart=>exact ⟨64,.inl rfl,by decide,rfl,B6,T1,T2,HX6,HY6⟩
   case round =>
    clear B6 T1 T2 HX6 HY6
    obtain ⟨n,Hp,hn,rfl,B1,T1,T2,HX,HY⟩:=hrel
    obtain ⟨vx1,vx2⟩:=Hbx.out n hn
    obtain ⟨vy1,vy2⟩:=Hby.out n hn
    have HE1:=Lib.hid (Hen1.out n wr b1 b2 d1 d2 (by omega) HX.out (HL.out.below B1.out))
    have HE2:Hid (∀ W,Below wr.heap.size wr W→Gives Tryz.prog 131 #[.agg (tcells b3 d3 b4 d4 ty.length dy),.int .i64 n] W (.tuple #[.string (itx (LN.eLo (lf n) ty)),.string (itx (LN.eHi (lf n) ty))])):=fun W hW=>Hen2.out n W b3 b4 d3 d4 (by omega) (HY.out.below hW) (HL.out.below (B1.out.trans (hW.mono B1.out.size)))
    have Hf:=Lib.hid (Hfl.out n)
    have Hspec:Hid (∀ q,flAt n tx ty dx dy=some q→LN.FloorOf ps la lb q):=fun q h=>HfF.out n q (by omega) h
    have hn0:0 < n:=by rcases Hp.out with h | h | h | h | h <;> omega
    have Hnx:Hid (flAt n tx ty dx dy=none→n * 2≤1024∧Pw (n * 2)):=fun h=>by
     rcases Hp.out with e | e | e | e | e
     ·subst e; exact ⟨by decide,.inr (.inl rfl)⟩
     ·subst e; exact ⟨by decide,.inr (.inr (.inl rfl))⟩
     ·subst e; exact ⟨by decide,.inr (.inr (.inr (.inl rfl)))⟩
     ·subst e; exact ⟨by decide,.inr (.inr (.inr (.inr rfl)))⟩
     ·subst e; exact absurd h Hdec.out
    clear Hen1 Hen2 Hfl HfF Hdec Hbx Hby
    have hyy:=eLo_le (lf n) ty
    generalize flAt n tx ty dx dy=fl at *
    generalize LN.eLo (lf n) tx=xl at *
    generalize LN.eHi (lf n) tx=xh at *
    generalize LN.eLo (lf n) ty=yl at *
    generalize LN.eHi (lf n) ty=yh at *
    have hwn:IntKind.i64.wrap ((n:Int) * 2)=((n * 2:Nat):Int):=by rw [show (n:Int) * 2=((n * 2:Nat):Int) by omega]; exact IntWalk.i64_in _ (by omega)
    obtain ⟨m0,m1,m2,-⟩:=obj_cells3 T1.out
    go_wp2_with fail
    refine Calls.mono HE1.out ?_
    rintro e_ w2 ⟨rfl,hb⟩
    replace HE2:=Lib.hid (HE2.out w2 hb)
    have B2:=Lib.hid (B1.out.trans (hb.mono B1.out.size))
    replace T1:=Lib.hid (heap_kept T1.out hb nr_)
    replace T2:=Lib.hid (heap_kept T2.out hb nr_)
    replace HX:=Lib.hid (HX.out.below hb)
    replace HY:=Lib.hid (HY.out.below hb)
    clear hb HE1 B1 m0 m1 m2
    obtain ⟨m0,m1,m2,-⟩:=obj_cells3 T2.out
    go_wp2_with fail
    clear m0 m1 m2
    refine Calls.mono (HE2.out) ?_
    rintro e_ w3 ⟨rfl,hb⟩
    have B3:=Lib.hid (B2.out.trans (hb.mono B2.out.size))
    replace T1:=Lib.hid (heap_kept T1.out hb nr_)
    replace T2:=Lib.hid (heap_kept T2.out hb nr_)
    replace HX:=Lib.hid (HX.out.below hb)
    replace HY:=Lib.hid (HY.out.below hb)
    clear hb B2
    clear HE2
    go_wp2_with fail
    refine Calls.mono (HS.out yh _) ?_
    rintro e_ w4 ⟨rfl,hb⟩
    have B4:=Lib.hid (B3.out.trans (hb.mono B3.out.size))
    replace T1:=Lib.hid (heap_kept T1.out hb nr_)
    replace T2:=Lib.hid (heap_kept T2.out hb nr_)
    replace HX:=Lib.hid (HX.out.below hb)
    replace HY:=Lib.hid (HY.out.below hb)
    clear hb B3
    by_cases hyh:yh≤0
    ·have hsg0:yh.sign≤0:=by have:=sign_cases yh; omega
     generalize yh.sign=sg0 at *
     go_wp2_with fail
     refine Calls.mono (HN.out xh _ (by omega)) ?_
     rintro e_ w5 ⟨rfl,hb⟩
     have B5:=Lib.hid (B4.out.trans (hb.mono B4.out.size))
     replace T1:=Lib.hid (heap_kept T1.out hb nr_)
     replace T2:=Lib.hid (heap_kept T2.out hb nr_)
     replace HX:=Lib.hid (HX.out.below hb)
     replace HY:=Lib.hid (HY.out.below hb)
     clear hb B4
     go_wp2_with fail
     refine Calls.mono (HN.out xl _ (by omega)) ?_
     rintro e_ w6 ⟨rfl,hb⟩
     have B6:=Lib.hid (B5.out.trans (hb.mono B5.out.size))
     replace T1:=Lib.hid (heap_kept T1.out hb nr_)
     replace T2:=Lib.hid (heap_kept T2.out hb nr_)
     replace HX:=Lib.hid (HX.out.below hb)
     replace HY:=Lib.hid (HY.out.below hb)
     clear hb B5
     go_wp2_with fail
     refine Calls.mono (HN.out yh _ (by omega)) ?_
     rintro e_ w7 ⟨rfl,hb⟩
     have B7:=Lib.hid (B6.out.trans (hb.mono B6.out.size))
     replace T1:=Lib.hid (heap_kept T1.out hb nr_)
     replace T2:=Lib.hid (heap_kept T2.out hb nr_)
     replace HX:=Lib.hid (HX.out.below hb)
     replace HY:=Lib.hid (HY.out.below hb)
     clear hb B6
     go_wp2_with fail
     refine Calls.mono (HN.out yl _ (by omega)) ?_
     rintro e_ w8 ⟨rfl,hb⟩
     have B8:=Lib.hid (B7.out.trans (hb.mono B7.out.size))
     replace T1:=Lib.hid (heap_kept T1.out hb nr_)
     replace T2:=Lib.hid (heap_kept T2.out hb nr_)
     replace HX:=Lib.hid (HX.out.below hb)
     replace HY:=Lib.hid (HY.out.below hb)
     clear hb B7
     go_wp2_with fail
     refine Calls.mono (HS.out (-yh) _) ?_
     rintro e_ w9 ⟨rfl,hb⟩
     have B9:=Lib.hid (B8.out.trans (hb.mono B8.out.size))
     replace T1:=Lib.hid (heap_kept T1.out hb nr_)
     replace T2:=Lib.hid (heap_kept T2.out hb nr_)
     replace HX:=Lib.hid (HX.out.below hb)
     replace HY:=Lib.hid (HY.out.below hb)
     clear hb B8
     by_cases hyl2:(-yh)≤0
     ·have hsg:(-yh).sign≤0:=by have:=sign_cases (-yh); omega
      have hfl:fl=none:=by
       rw [Hf.out]
       unfold flS
       rw [if_pos (by omega)]
       unfold flE
       rw [if_pos (by omega)]
      obtain ⟨hn2,hp2⟩:=Hnx.out hfl
      have Hp2:=Lib.hid hp2
      clear hfl Hspec Hnx hp2 Hf
      generalize (-yh).sign=sg at *
      go_wp2_with fail
      go_roundw
      case rel=>exact ⟨n * 2,Hp2,hn2,rfl,B9,T1,T2,HX,HY⟩
      case measure=>simp [intOf]; omega
     ·have hsg:0 < (-yh).sign:=by have:=sign_cases (-yh); omega
      generalize (-yh).sign=sg at *
      go_wp2_with fail
      clear hsg
      refine Calls.mono (HS.out (-xh) _) ?_
      rintro e_ w10 ⟨rfl,hb⟩
      have B10:=Lib.hid (B9.out.trans (hb.mono B9.out.size))
      replace T1:=Lib.hid (heap_kept T1.out hb nr_)
      replace T2:=Lib.hid (heap_kept T2.out hb nr_)
      replace HX:=Lib.hid (HX.out.below hb)
      replace HY:=Lib.hid (HY.out.below hb)
      clear hb B9
      by_cases hx1:(-xh) < 0
      ·have hsg:(-xh).sign < 0:=by have:=sign_cases (-xh); omega
       generalize (-xh).sign=sg at *
       go_wp2_with fail
       clear hsg
       refine Calls.mono (HS.out (-xl) _) ?_
       rintro e_ w11 ⟨rfl,hb⟩
       have B11:=Lib.hid (B10.out.trans (hb.mono B10.out.size))
       replace T1:=Lib.hid (heap_kept T1.out hb nr_)
       replace T2:=Lib.hid (heap_kept T2.out hb nr_)
       replace HX:=Lib.hid (HX.out.below hb)
       replace HY:=Lib.hid (HY.out.below hb)
       clear hb B10
       by_cases hx2:(-xl) < 0
       ·have hsg:(-xl).sign < 0:=by have:=sign_cases (-xl); omega
        generalize (-xl).sign=sg at *
        obtain ⟨k0,k1,k2,-⟩:=obj_cells3 T1.out
        obtain ⟨m0,m1,m2,-⟩:=obj_cells3 T2.out
        have s2:=BW.cell k2
        have r2:=BW.cell m2
        have hnon:Nonempty (BW w11):=⟨⟨w11,Below.refl _ _⟩⟩
        have I:Hid (Below w11.heap.size w11 w11.drew):=(Below.refl _ _).drew
        go_wp2_with fail
        clear k0 k1 k2 m0 m1 m2
        refine RX.wp_region_readers 15 [(1,0),(1,1),(1,2),(1,4),(1,5),(1,6),(0,3),(0,7),(0,8),(2,9),(2,10),(2,11),(2,12),(0,13),(0,14),(0,15)] (fun w'=>∃ p:BW w11,w'=p.w) (by kernel_rfl) (by kernel_rfl) ?_ ?_
        ·exact ⟨⟨_,I.out⟩,rfl⟩
        iterate 6 (refine RX.walkR_read ?_; simp only [dsc_,dz_,tsc_,tz_]; go_big_quiet_step (fail); refine wpQuiet_nil ?_)
        clear hnon s2 r2
        refine RX.walkR_move ?_
        simp only [dsc_,dz_,tsc_,tz_]
        go_wp2_with fail
        refine Calls.mono (HMg.out (-xh) _ (by omega) (B11.out.drew)) ?_
        rintro e_ wa ⟨rfl,hb⟩
        have Wa:Hid (Below w11.heap.size w11 wa):=(Below.refl w11.heap.size w11).drew.trans hb
        clear hb I
        go_wp2_with fail
        refine ⟨⟨⟨_,Wa.out⟩,rfl⟩,?_⟩
        refine RX.walkR_move ?_
        simp only [dsc_,dz_,tsc_,tz_]
        go_wp2_with fail
        refine Calls.mono (HMd.out (-yh) _ (by omega) (B11.out.trans (Wa.out.mono B11.out.size))) ?_
        rintro e_ wb ⟨rfl,hb⟩
        have Wb:=Lib.hid (Wa.out.trans (hb.mono Wa.out.size))
        clear hb Wa
        go_wp2_with fail
        refine ⟨⟨⟨_,Wb.out⟩,rfl⟩,?_⟩
        refine RX.walkR_move ?_
        simp only [dsc_,dz_,tsc_,tz_]
        go_wp2_with fail
        refine Calls.mono (HDv.out (-xh) (-yh) _ (by omega) (by omega) (by omega) (B11.out.trans (Wb.out.mono B11.out.size))) ?_
        rintro e_ wc ⟨rfl,hb⟩
        have Wc:=Lib.hid (Wb.out.trans (hb.mono Wb.out.size))
        clear hb Wb
        go_wp2_with fail
        refine ⟨⟨⟨_,Wc.out⟩,rfl⟩,?_⟩
        refine RX.walkR_any ?_
        simp only [dsc_,dz_,tsc_,tz_]
        go_big_quiet_step (fail)
        refine wpQuiet_nil ?_
        refine RX.walkR_any ?_
        simp only [dsc_,dz_,tsc_,tz_]
        go_big_quiet_step (fail)
        refine wpQuiet_nil ?_
        refine RX.walkR_any ?_
        simp only [dsc_,dz_,tsc_,tz_]
        go_big_quiet_step (fail)
        refine wpQuiet_nil ?_
        refine RX.walkR_any ?_
        simp only [dsc_,dz_,tsc_,tz_]
        go_big_quiet_step (fail)
        refine wpQuiet_nil ?_
        refine RX.walkR_move ?_
        simp only [dsc_,dz_,tsc_,tz_]
        go_wp2_with fail
        refine ⟨⟨⟨_,Wc.out⟩,rfl⟩,?_⟩
        refine RX.walkR_move ?_
        simp only [dsc_,dz_,tsc_,tz_]
        go_wp2_with fail
        refine ⟨⟨⟨_,Wc.out⟩,rfl⟩,?_⟩
        refine RX.walkR_move ?_
        simp only [dsc_,dz_,tsc_,tz_]
        go_wp2_with fail
        simp only [RX.walkR]
        have hb:=Wc.out
        have B12:=Lib.hid (B11.out.trans (hb.mono B11.out.size))
        replace T1:=Lib.hid (heap_kept T1.out hb nr_)
        replace T2:=Lib.hid (heap_kept T2.out hb nr_)
        replace HX:=Lib.hid (HX.out.below hb)
        replace HY:=Lib.hid (HY.out.below hb)
        clear hb Wc B11
        generalize wc=w12 at *
        go_wp2_with fail
        obtain ⟨k0,k1,k2,-⟩:=obj_cells3 T1.out
        obtain ⟨m0,m1,m2,-⟩:=obj_cells3 T2.out
        have s2:=BW.cell k2
        have r2:=BW.cell m2
        have hnon:Nonempty (BW w12):=⟨⟨w12,Below.refl _ _⟩⟩
        have I:Hid (Below w12.heap.size w12 w12.drew):=(Below.refl _ _).drew
        go_wp2_with fail
        clear k0 k1 k2 m0 m1 m2
        refine RX.wp_region_readers 15 [(1,0),(1,1),(1,2),(1,4),(1,5),(1,6),(0,3),(0,7),(0,8),(2,9),(2,10),(2,11),(2,12),(0,13),(0,14),(0,15)] (fun w'=>∃ p:BW w12,w'=p.w) (by kernel_rfl) (by kernel_rfl) ?_ ?_
        ·exact ⟨⟨_,I.out⟩,rfl⟩
        iterate 6 (refine RX.walkR_read ?_; simp only [dsc_,dz_,tsc_,tz_]; go_big_quiet_step (fail); refine wpQuiet_nil ?_)
        clear hnon s2 r2
        refine RX.walkR_move ?_
        simp only [dsc_,dz_,tsc_,tz_]
        go_wp2_with fail
        refine Calls.mono (HMg.out (-xl) _ (by omega) (B12.out.drew)) ?_
        rintro e_ wa ⟨rfl,hb⟩
        have Wa:Hid (Below w12.heap.size w12 wa):=(Below.refl w12.heap.size w12).drew.trans hb
        clear hb I
        go_wp2_with fail
        refine ⟨⟨⟨_,Wa.out⟩,rfl⟩,?_⟩
        refine RX.walkR_move ?_
        simp only [dsc_,dz_,tsc_,tz_]
        go_wp2_with fail
        refine Calls.mono (HMd.out (-yl) _ (by omega) (B12.out.trans (Wa.out.mono B12.out.size))) ?_
        rintro e_ wb ⟨rfl,hb⟩
        have Wb:=Lib.hid (Wa.out.trans (hb.mono Wa.out.size))
        clear hb Wa
        go_wp2_with fail
        refine ⟨⟨⟨_,Wb.out⟩,rfl⟩,?_⟩
        refine RX.walkR_move ?_
        simp only [dsc_,dz_,tsc_,tz_]
        go_wp2_with fail
        refine Calls.mono (HDv.out (-xl) (-yl) _ (by omega) (by omega) (by omega) (B12.out.trans (Wb.out.mono B12.out.size))) ?_
        rintro e_ wc ⟨rfl,hb⟩
        have Wc:=Lib.hid (Wb.out.trans (hb.mono Wb.out.size))
        clear hb Wb
        go_wp2_with fail
        refine ⟨⟨⟨_,Wc.out⟩,rfl⟩,?_⟩
        refine RX.walkR_any ?_
        simp only [dsc_,dz_,tsc_,tz_]
        go_big_quiet_step (fail)
        refine wpQuiet_nil ?_
        refine RX.walkR_any ?_
        simp only [dsc_,dz_,tsc_,tz_]
        go_big_quiet_step (fail)
        refine wpQuiet_nil ?_
        refine RX.walkR_any ?_
        simp only [dsc_,dz_,tsc_,tz_]
        go_big_quiet_step (fail)
        refine wpQuiet_nil ?_
        refine RX.walkR_any ?_
        simp only [dsc_,dz_,tsc_,tz_]
        go_big_quiet_step (fail)
        refine wpQuiet_nil ?_
        refine RX.walkR_move ?_
        simp only [dsc_,dz_,tsc_,tz_]
        go_wp2_with fail
        refine ⟨⟨⟨_,Wc.out⟩,rfl⟩,?_⟩
        refine RX.walkR_move ?_
        simp only [dsc_,dz_,tsc_,tz_]
        go_wp2_with fail
        refine ⟨⟨⟨_,Wc.out⟩,rfl⟩,?_⟩
        refine RX.walkR_move ?_
        simp only [dsc_,dz_,tsc_,tz_]
        go_wp2_with fail
        simp only [RX.walkR]
        have hb:=Wc.out
        have B13:=Lib.hid (B12.out.trans (hb.mono B12.out.size))
        replace T1:=Lib.hid (heap_kept T1.out hb nr_)
        replace T2:=Lib.hid (heap_kept T2.out hb nr_)
        replace HX:=Lib.hid (HX.out.below hb)
        replace HY:=Lib.hid (HY.out.below hb)
        clear hb Wc B12
        generalize wc=w13 at *
        have hfl:fl=if (-xh) * (dy:Int) / ((-yh) * (dx:Int))=(-xl) * (dy:Int) / ((-yl) * (dx:Int)) then some ((-xh) * (dy:Int) / ((-yh) * (dx:Int))) else none:=by
         rw [Hf.out]
         unfold flS
         rw [if_pos (show yh≤0 by omega)]
         unfold flE LN.quoL LN.quoH
         rw [if_neg (show ¬ (-yh)≤0 by omega),if_pos (show (-xh) < 0 by omega),if_pos (show (-xl) < 0 by omega)]
        have hsame:=same_itx ((-xh) * (dy:Int) / ((-yh) * (dx:Int))) ((-xl) * (dy:Int) / ((-yl) * (dx:Int)))
        clear Hf
        generalize (-xh) * (dy:Int) / ((-yh) * (dx:Int))=q1 at *
        generalize (-xl) * (dy:Int) / ((-yl) * (dx:Int))=q2 at *
        by_cases hqq:q1=q2
        ·rw [if_pos hqq] at hfl
         rw [decide_eq_true hqq] at hsame
         have Hans:=Lib.hid (Hspec.out _ hfl)
         clear hfl hqq Hspec Hnx
         go_wp2_with fail
         go_ret
         exact ⟨⟨q1,rfl,Hans.out⟩,B13.out⟩
        ·rw [if_neg hqq] at hfl
         rw [decide_eq_false hqq] at hsame
         obtain ⟨hn2,hp2⟩:=Hnx.out hfl
         have Hp2:=Lib.hid hp2
         clear hfl hqq Hspec Hnx hp2
         go_wp2_with fail
         go_roundw
         case rel=>exact ⟨n * 2,Hp2,hn2,rfl,B13,T1,T2,HX,HY⟩
         case measure=>simp [intOf]; omega
       ·have hsg:¬ (-xl).sign < 0:=by have:=sign_cases (-xl); omega
        generalize (-xl).sign=sg at *
        obtain ⟨k0,k1,k2,-⟩:=obj_cells3 T1.out
        obtain ⟨m0,m1,m2,-⟩:=obj_cells3 T2.out
        have s2:=BW.cell k2
        have r2:=BW.cell m2
        have hnon:Nonempty (BW w11):=⟨⟨w11,Below.refl _ _⟩⟩
        have I:Hid (Below w11.heap.size w11 w11.drew):=(Below.refl _ _).drew
        go_wp2_with fail
        clear k0 k1 k2 m0 m1 m2
        refine RX.wp_region_readers 15 [(1,0),(1,1),(1,2),(1,4),(1,5),(1,6),(0,3),(0,7),(0,8),(2,9),(2,10),(2,11),(2,12),(0,13),(0,14),(0,15)] (fun w'=>∃ p:BW w11,w'=p.w) (by kernel_rfl) (by kernel_rfl) ?_ ?_
        ·exact ⟨⟨_,I.out⟩,rfl⟩
        iterate 6 (refine RX.walkR_read ?_; simp only [dsc_,dz_,tsc_,tz_]; go_big_quiet_step (fail); refine wpQuiet_nil ?_)
        clear hnon s2 r2
        refine RX.walkR_move ?_
        simp only [dsc_,dz_,tsc_,tz_]
        go_wp2_with fail
        refine Calls.mono (HMg.out (-xh) _ (by omega) (B11.out.drew)) ?_
        rintro e_ wa ⟨rfl,hb⟩
        have Wa:Hid (Below w11.heap.size w11 wa):=(Below.refl w11.heap.size w11).drew.trans hb
        clear hb I
        go_wp2_with fail
        refine ⟨⟨⟨_,Wa.out⟩,rfl⟩,?_⟩
        refine RX.walkR_move ?_
        simp only [dsc_,dz_,tsc_,tz_]
        go_wp2_with fail
        refine Calls.mono (HMd.out (-yh) _ (by omega) (B11.out.trans (Wa.out.mono B11.out.size))) ?_
        rintro e_ wb ⟨rfl,hb⟩
        have Wb:=Lib.hid (Wa.out.trans (hb.mono Wa.out.size))
        clear hb Wa
        go_wp2_with fail
        refine ⟨⟨⟨_,Wb.out⟩,rfl⟩,?_⟩
        refine RX.walkR_move ?_
        simp only [dsc_,dz_,tsc_,tz_]
        go_wp2_with fail
        refine Calls.mono (HDv.out (-xh) (-yh) _ (by omega) (by omega) (by omega) (B11.out.trans (Wb.out.mono B11.out.size))) ?_
        rintro e_ wc ⟨rfl,hb⟩
        have Wc:=Lib.hid (Wb.out.trans (hb.mono Wb.out.size))
        clear hb Wb
        go_wp2_with fail
        refine ⟨⟨⟨_,Wc.out⟩,rfl⟩,?_⟩
        refine RX.walkR_any ?_
        simp only [dsc_,dz_,tsc_,tz_]
        go_big_quiet_step (fail)
        refine wpQuiet_nil ?_
        refine RX.walkR_any ?_
        simp only [dsc_,dz_,tsc_,tz_]
        go_big_quiet_step (fail)
        refine wpQuiet_nil ?_
        refine RX.walkR_any ?_
        simp only [dsc_,dz_,tsc_,tz_]
        go_big_quiet_step (fail)
        refine wpQuiet_nil ?_
        refine RX.walkR_any ?_
        simp only [dsc_,dz_,tsc_,tz_]
        go_big_quiet_step (fail)
        refine wpQuiet_nil ?_
        refine RX.walkR_move ?_
        simp only [dsc_,dz_,tsc_,tz_]
        go_wp2_with fail
        refine ⟨⟨⟨_,Wc.out⟩,rfl⟩,?_⟩
        refine RX.walkR_move ?_
        simp only [dsc_,dz_,tsc_,tz_]
        go_wp2_with fail
        refine ⟨⟨⟨_,Wc.out⟩,rfl⟩,?_⟩
        refine RX.walkR_move ?_
        simp only [dsc_,dz_,tsc_,tz_]
        go_wp2_with fail
        simp only [RX.walkR]
        have hb:=Wc.out
        have B12:=Lib.hid (B11.out.trans (hb.mono B11.out.size))
        replace T1:=Lib.hid (heap_kept T1.out hb nr_)
        replace T2:=Lib.hid (heap_kept T2.out hb nr_)
        replace HX:=Lib.hid (HX.out.below hb)
        replace HY:=Lib.hid (HY.out.below hb)
        clear hb Wc B11
        generalize wc=w12 at *
        go_wp2_with fail
        obtain ⟨k0,k1,k2,-⟩:=obj_cells3 T1.out
        obtain ⟨m0,m1,m2,-⟩:=obj_cells3 T2.out
        have s2:=BW.cell k2
        have r2:=BW.cell m2
        have hnon:Nonempty (BW w12):=⟨⟨w12,Below.refl _ _⟩⟩
        have I:Hid (Below w12.heap.size w12 w12.drew):=(Below.refl _ _).drew
        go_wp2_with fail
        clear k0 k1 k2 m0 m1 m2
        refine RX.wp_region_readers 15 [(1,0),(1,1),(1,2),(1,4),(1,5),(1,6),(0,3),(0,7),(0,8),(2,9),(2,10),(2,11),(2,12),(0,13),(0,14),(0,15)] (fun w'=>∃ p:BW w12,w'=p.w) (by kernel_rfl) (by kernel_rfl) ?_ ?_
        ·exact ⟨⟨_,I.out⟩,rfl⟩
        iterate 6 (refine RX.walkR_read ?_; simp only [dsc_,dz_,tsc_,tz_]; go_big_quiet_step (fail); refine wpQuiet_nil ?_)
        clear hnon s2 r2
        refine RX.walkR_move ?_
        simp only [dsc_,dz_,tsc_,tz_]
        go_wp2_with fail
        refine Calls.mono (HMg.out (-xl) _ (by omega) (B12.out.drew)) ?_
        rintro e_ wa ⟨rfl,hb⟩
        have Wa:Hid (Below w12.heap.size w12 wa):=(Below.refl w12.heap.size w12).drew.trans hb
        clear hb I
        go_wp2_with fail
        refine ⟨⟨⟨_,Wa.out⟩,rfl⟩,?_⟩
        refine RX.walkR_move ?_
        simp only [dsc_,dz_,tsc_,tz_]
        go_wp2_with fail
        refine Calls.mono (HMd.out (-yh) _ (by omega) (B12.out.trans (Wa.out.mono B12.out.size))) ?_
        rintro e_ wb ⟨rfl,hb⟩
        have Wb:=Lib.hid (Wa.out.trans (hb.mono Wa.out.size))
        clear hb Wa
        go_wp2_with fail
        refine ⟨⟨⟨_,Wb.out⟩,rfl⟩,?_⟩
        refine RX.walkR_move ?_
        simp only [dsc_,dz_,tsc_,tz_]
        go_wp2_with fail
        refine Calls.mono (HDv.out (-xl) (-yh) _ (by omega) (by omega) (by omega) (B12.out.trans (Wb.out.mono B12.out.size))) ?_
        rintro e_ wc ⟨rfl,hb⟩
        have Wc:=Lib.hid (Wb.out.trans (hb.mono Wb.out.size))
        clear hb Wb
        go_wp2_with fail
        refine ⟨⟨⟨_,Wc.out⟩,rfl⟩,?_⟩
        refine RX.walkR_any ?_
        simp only [dsc_,dz_,tsc_,tz_]
        go_big_quiet_step (fail)
        refine wpQuiet_nil ?_
        refine RX.walkR_any ?_
        simp only [dsc_,dz_,tsc_,tz_]
        go_big_quiet_step (fail)
        refine wpQuiet_nil ?_
        refine RX.walkR_any ?_
        simp only [dsc_,dz_,tsc_,tz_]
        go_big_quiet_step (fail)
        refine wpQuiet_nil ?_
        refine RX.walkR_any ?_
        simp only [dsc_,dz_,tsc_,tz_]
        go_big_quiet_step (fail)
        refine wpQuiet_nil ?_
        refine RX.walkR_move ?_
        simp only [dsc_,dz_,tsc_,tz_]
        go_wp2_with fail
        refine ⟨⟨⟨_,Wc.out⟩,rfl⟩,?_⟩
        refine RX.walkR_move ?_
        simp only [dsc_,dz_,tsc_,tz_]
        go_wp2_with fail
        refine ⟨⟨⟨_,Wc.out⟩,rfl⟩,?_⟩
        refine RX.walkR_move ?_
        simp only [dsc_,dz_,tsc_,tz_]
        go_wp2_with fail
        simp only [RX.walkR]
        have hb:=Wc.out
        have B13:=Lib.hid (B12.out.trans (hb.mono B12.out.size))
        replace T1:=Lib.hid (heap_kept T1.out hb nr_)
        replace T2:=Lib.hid (heap_kept T2.out hb nr_)
        replace HX:=Lib.hid (HX.out.below hb)
        replace HY:=Lib.hid (HY.out.below hb)
        clear hb Wc B12
        generalize wc=w13 at *
        have hfl:fl=if (-xh) * (dy:Int) / ((-yh) * (dx:Int))=(-xl) * (dy:Int) / ((-yh) * (dx:Int)) then some ((-xh) * (dy:Int) / ((-yh) * (dx:Int))) else none:=by
         rw [Hf.out]
         unfold flS
         rw [if_pos (show yh≤0 by omega)]
         unfold flE LN.quoL LN.quoH
         rw [if_neg (show ¬ (-yh)≤0 by omega),if_pos (show (-xh) < 0 by omega),if_neg (show ¬ (-xl) < 0 by omega)]
        have hsame:=same_itx ((-xh) * (dy:Int) / ((-yh) * (dx:Int))) ((-xl) * (dy:Int) / ((-yh) * (dx:Int)))
        clear Hf
        generalize (-xh) * (dy:Int) / ((-yh) * (dx:Int))=q1 at *
        generalize (-xl) * (dy:Int) / ((-yh) * (dx:Int))=q2 at *
        by_cases hqq:q1=q2
        ·rw [if_pos hqq] at hfl
         rw [decide_eq_true hqq] at hsame
         have Hans:=Lib.hid (Hspec.out _ hfl)
         clear hfl hqq Hspec Hnx
         go_wp2_with fail
         go_ret
         exact ⟨⟨q1,rfl,Hans.out⟩,B13.out⟩
        ·rw [if_neg hqq] at hfl
         rw [decide_eq_false hqq] at hsame
         obtain ⟨hn2,hp2⟩:=Hnx.out hfl
         have Hp2:=Lib.hid hp2
         clear hfl hqq Hspec Hnx hp2
         go_wp2_with fail
         go_roundw
         case rel=>exact ⟨n * 2,Hp2,hn2,rfl,B13,T1,T2,HX,HY⟩
         case measure=>simp [intOf]; omega
      ·have hsg:¬ (-xh).sign < 0:=by have:=sign_cases (-xh); omega
       generalize (-xh).sign=sg at *
       go_wp2_with fail
       clear hsg
       refine Calls.mono (HS.out (-xl) _) ?_
       rintro e_ w11 ⟨rfl,hb⟩
       have B11:=Lib.hid (B10.out.trans (hb.mono B10.out.size))
       replace T1:=Lib.hid (heap_kept T1.out hb nr_)
       replace T2:=Lib.hid (heap_kept T2.out hb nr_)
       replace HX:=Lib.hid (HX.out.below hb)
       replace HY:=Lib.hid (HY.out.below hb)
       clear hb B10
       by_cases hx2:(-xl) < 0
       ·have hsg:(-xl).sign < 0:=by have:=sign_cases (-xl); omega
        generalize (-xl).sign=sg at *
        obtain ⟨k0,k1,k2,-⟩:=obj_cells3 T1.out
        obtain ⟨m0,m1,m2,-⟩:=obj_cells3 T2.out
        have s2:=BW.cell k2
        have r2:=BW.cell m2
        have hnon:Nonempty (BW w11):=⟨⟨w11,Below.refl _ _⟩⟩
        have I:Hid (Below w11.heap.size w11 w11.drew):=(Below.refl _ _).drew
        go_wp2_with fail
        clear k0 k1 k2 m0 m1 m2
        refine RX.wp_region_readers 15 [(1,0),(1,1),(1,2),(1,4),(1,5),(1,6),(0,3),(0,7),(0,8),(2,9),(2,10),(2,11),(2,12),(0,13),(0,14),(0,15)] (fun w'=>∃ p:BW w11,w'=p.w) (by kernel_rfl) (by kernel_rfl) ?_ ?_
        ·exact ⟨⟨_,I.out⟩,rfl⟩
        iterate 6 (refine RX.walkR_read ?_; simp only [dsc_,dz_,tsc_,tz_]; go_big_quiet_step (fail); refine wpQuiet_nil ?_)
        clear hnon s2 r2
        refine RX.walkR_move ?_
        simp only [dsc_,dz_,tsc_,tz_]
        go_wp2_with fail
        refine Calls.mono (HMg.out (-xh) _ (by omega) (B11.out.drew)) ?_
        rintro e_ wa ⟨rfl,hb⟩
        have Wa:Hid (Below w11.heap.size w11 wa):=(Below.refl w11.heap.size w11).drew.trans hb
        clear hb I
        go_wp2_with fail
        refine ⟨⟨⟨_,Wa.out⟩,rfl⟩,?_⟩
        refine RX.walkR_move ?_
        simp only [dsc_,dz_,tsc_,tz_]
        go_wp2_with fail
        refine Calls.mono (HMd.out (-yl) _ (by omega) (B11.out.trans (Wa.out.mono B11.out.size))) ?_
        rintro e_ wb ⟨rfl,hb⟩
        have Wb:=Lib.hid (Wa.out.trans (hb.mono Wa.out.size))
        clear hb Wa
        go_wp2_with fail
        refine ⟨⟨⟨_,Wb.out⟩,rfl⟩,?_⟩
        refine RX.walkR_move ?_
        simp only [dsc_,dz_,tsc_,tz_]
        go_wp2_with fail
        refine Calls.mono (HDv.out (-xh) (-yl) _ (by omega) (by omega) (by omega) (B11.out.trans (Wb.out.mono B11.out.size))) ?_
        rintro e_ wc ⟨rfl,hb⟩
        have Wc:=Lib.hid (Wb.out.trans (hb.mono Wb.out.size))
        clear hb Wb
        go_wp2_with fail
        refine ⟨⟨⟨_,Wc.out⟩,rfl⟩,?_⟩
        refine RX.walkR_any ?_
        simp only [dsc_,dz_,tsc_,tz_]
        go_big_quiet_step (fail)
        refine wpQuiet_nil ?_
        refine RX.walkR_any ?_
        simp only [dsc_,dz_,tsc_,tz_]
        go_big_quiet_step (fail)
        refine wpQuiet_nil ?_
        refine RX.walkR_any ?_
        simp only [dsc_,dz_,tsc_,tz_]
        go_big_quiet_step (fail)
        refine wpQuiet_nil ?_
        refine RX.walkR_any ?_
        simp only [dsc_,dz_,tsc_,tz_]
        go_big_quiet_step (fail)
        refine wpQuiet_nil ?_
        refine RX.walkR_move ?_
        simp only [dsc_,dz_,tsc_,tz_]
        go_wp2_with fail
        refine ⟨⟨⟨_,Wc.out⟩,rfl⟩,?_⟩
        refine RX.walkR_move ?_
        simp only [dsc_,dz_,tsc_,tz_]
        go_wp2_with fail
        refine ⟨⟨⟨_,Wc.out⟩,rfl⟩,?_⟩
        refine RX.walkR_move ?_
        simp only [dsc_,dz_,tsc_,tz_]
        go_wp2_with fail
        simp only [RX.walkR]
        have hb:=Wc.out
        have B12:=Lib.hid (B11.out.trans (hb.mono B11.out.size))
        replace T1:=Lib.hid (heap_kept T1.out hb nr_)
        replace T2:=Lib.hid (heap_kept T2.out hb nr_)
        replace HX:=Lib.hid (HX.out.below hb)
        replace HY:=Lib.hid (HY.out.below hb)
        clear hb Wc B11
        generalize wc=w12 at *
        go_wp2_with fail
        obtain ⟨k0,k1,k2,-⟩:=obj_cells3 T1.out
        obtain ⟨m0,m1,m2,-⟩:=obj_cells3 T2.out
        have s2:=BW.cell k2
        have r2:=BW.cell m2
        have hnon:Nonempty (BW w12):=⟨⟨w12,Below.refl _ _⟩⟩
        have I:Hid (Below w12.heap.size w12 w12.drew):=(Below.refl _ _).drew
        go_wp2_with fail
        clear k0 k1 k2 m0 m1 m2
        refine RX.wp_region_readers 15 [(1,0),(1,1),(1,2),(1,4),(1,5),(1,6),(0,3),(0,7),(0,8),(2,9),(2,10),(2,11),(2,12),(0,13),(0,14),(0,15)] (fun w'=>∃ p:BW w12,w'=p.w) (by kernel_rfl) (by kernel_rfl) ?_ ?_
        ·exact ⟨⟨_,I.out⟩,rfl⟩
        iterate 6 (refine RX.walkR_read ?_; simp only [dsc_,dz_,tsc_,tz_]; go_big_quiet_step (fail); refine wpQuiet_nil ?_)
        clear hnon s2 r2
        refine RX.walkR_move ?_
        simp only [dsc_,dz_,tsc_,tz_]
        go_wp2_with fail
        refine Calls.mono (HMg.out (-xl) _ (by omega) (B12.out.drew)) ?_
        rintro e_ wa ⟨rfl,hb⟩
        have Wa:Hid (Below w12.heap.size w12 wa):=(Below.refl w12.heap.size w12).drew.trans hb
        clear hb I
        go_wp2_with fail
        refine ⟨⟨⟨_,Wa.out⟩,rfl⟩,?_⟩
        refine RX.walkR_move ?_
        simp only [dsc_,dz_,tsc_,tz_]
        go_wp2_with fail
        refine Calls.mono (HMd.out (-yl) _ (by omega) (B12.out.trans (Wa.out.mono B12.out.size))) ?_
        rintro e_ wb ⟨rfl,hb⟩
        have Wb:=Lib.hid (Wa.out.trans (hb.mono Wa.out.size))
        clear hb Wa
        go_wp2_with fail
        refine ⟨⟨⟨_,Wb.out⟩,rfl⟩,?_⟩
        refine RX.walkR_move ?_
        simp only [dsc_,dz_,tsc_,tz_]
        go_wp2_with fail
        refine Calls.mono (HDv.out (-xl) (-yl) _ (by omega) (by omega) (by omega) (B12.out.trans (Wb.out.mono B12.out.size))) ?_
        rintro e_ wc ⟨rfl,hb⟩
        have Wc:=Lib.hid (Wb.out.trans (hb.mono Wb.out.size))
        clear hb Wb
        go_wp2_with fail
        refine ⟨⟨⟨_,Wc.out⟩,rfl⟩,?_⟩
        refine RX.walkR_any ?_
        simp only [dsc_,dz_,tsc_,tz_]
        go_big_quiet_step (fail)
        refine wpQuiet_nil ?_
        refine RX.walkR_any ?_
        simp only [dsc_,dz_,tsc_,tz_]
        go_big_quiet_step (fail)
        refine wpQuiet_nil ?_
        refine RX.walkR_any ?_
        simp only [dsc_,dz_,tsc_,tz_]
        go_big_quiet_step (fail)
        refine wpQuiet_nil ?_
        refine RX.walkR_any ?_
        simp only [dsc_,dz_,tsc_,tz_]
        go_big_quiet_step (fail)
        refine wpQuiet_nil ?_
        refine RX.walkR_move ?_
        simp only [dsc_,dz_,tsc_,tz_]
        go_wp2_with fail
        refine ⟨⟨⟨_,Wc.out⟩,rfl⟩,?_⟩
        refine RX.walkR_move ?_
        simp only [dsc_,dz_,tsc_,tz_]
        go_wp2_with fail
        refine ⟨⟨⟨_,Wc.out⟩,rfl⟩,?_⟩
        refine RX.walkR_move ?_
        simp only [dsc_,dz_,tsc_,tz_]
        go_wp2_with fail
        simp only [RX.walkR]
        have hb:=Wc.out
        have B13:=Lib.hid (B12.out.trans (hb.mono B12.out.size))
        replace T1:=Lib.hid (heap_kept T1.out hb nr_)
        replace T2:=Lib.hid (heap_kept T2.out hb nr_)
        replace HX:=Lib.hid (HX.out.below hb)
        replace HY:=Lib.hid (HY.out.below hb)
        clear hb Wc B12
        generalize wc=w13 at *
        have hfl:fl=if (-xh) * (dy:Int) / ((-yl) * (dx:Int))=(-xl) * (dy:Int) / ((-yl) * (dx:Int)) then some ((-xh) * (dy:Int) / ((-yl) * (dx:Int))) else none:=by
         rw [Hf.out]
         unfold flS
         rw [if_pos (show yh≤0 by omega)]
         unfold flE LN.quoL LN.quoH
         rw [if_neg (show ¬ (-yh)≤0 by omega),if_neg (show ¬ (-xh) < 0 by omega),if_pos (show (-xl) < 0 by omega)]
        have hsame:=same_itx ((-xh) * (dy:Int) / ((-yl) * (dx:Int))) ((-xl) * (dy:Int) / ((-yl) * (dx:Int)))
        clear Hf
        generalize (-xh) * (dy:Int) / ((-yl) * (dx:Int))=q1 at *
        generalize (-xl) * (dy:Int) / ((-yl) * (dx:Int))=q2 at *
        by_cases hqq:q1=q2
        ·rw [if_pos hqq] at hfl
         rw [decide_eq_true hqq] at hsame
         have Hans:=Lib.hid (Hspec.out _ hfl)
         clear hfl hqq Hspec Hnx
         go_wp2_with fail
         go_ret
         exact ⟨⟨q1,rfl,Hans.out⟩,B13.out⟩
        ·rw [if_neg hqq] at hfl
         rw [decide_eq_false hqq] at hsame
         obtain ⟨hn2,hp2⟩:=Hnx.out hfl
         have Hp2:=Lib.hid hp2
         clear hfl hqq Hspec Hnx hp2
         go_wp2_with fail
         go_roundw
         case rel=>exact ⟨n * 2,Hp2,hn2,rfl,B13,T1,T2,HX,HY⟩
         case measure=>simp [intOf]; omega
       ·have hsg:¬ (-xl).sign < 0:=by have:=sign_cases (-xl); omega
        generalize (-xl).sign=sg at *
        obtain ⟨k0,k1,k2,-⟩:=obj_cells3 T1.out
        obtain ⟨m0,m1,m2,-⟩:=obj_cells3 T2.out
        have s2:=BW.cell k2
        have r2:=BW.cell m2
        have hnon:Nonempty (BW w11):=⟨⟨w11,Below.refl _ _⟩⟩
        have I:Hid (Below w11.heap.size w11 w11.drew):=(Below.refl _ _).drew
        go_wp2_with fail
        clear k0 k1 k2 m0 m1 m2
        refine RX.wp_region_readers 15 [(1,0),(1,1),(1,2),(1,4),(1,5),(1,6),(0,3),(0,7),(0,8),(2,9),(2,10),(2,11),(2,12),(0,13),(0,14),(0,15)] (fun w'=>∃ p:BW w11,w'=p.w) (by kernel_rfl) (by kernel_rfl) ?_ ?_
        ·exact ⟨⟨_,I.out⟩,rfl⟩
        iterate 6 (refine RX.walkR_read ?_; simp only [dsc_,dz_,tsc_,tz_]; go_big_quiet_step (fail); refine wpQuiet_nil ?_)
        clear hnon s2 r2
        refine RX.walkR_move ?_
        simp only [dsc_,dz_,tsc_,tz_]
        go_wp2_with fail
        refine Calls.mono (HMg.out (-xh) _ (by omega) (B11.out.drew)) ?_
        rintro e_ wa ⟨rfl,hb⟩
        have Wa:Hid (Below w11.heap.size w11 wa):=(Below.refl w11.heap.size w11).drew.trans hb
        clear hb I
        go_wp2_with fail
        refine ⟨⟨⟨_,Wa.out⟩,rfl⟩,?_⟩
        refine RX.walkR_move ?_
        simp only [dsc_,dz_,tsc_,tz_]
        go_wp2_with fail
        refine Calls.mono (HMd.out (-yl) _ (by omega) (B11.out.trans (Wa.out.mono B11.out.size))) ?_
        rintro e_ wb ⟨rfl,hb⟩
        have Wb:=Lib.hid (Wa.out.trans (hb.mono Wa.out.size))
        clear hb Wa
        go_wp2_with fail
        refine ⟨⟨⟨_,Wb.out⟩,rfl⟩,?_⟩
        refine RX.walkR_move ?_
        simp only [dsc_,dz_,tsc_,tz_]
        go_wp2_with fail
        refine Calls.mono (HDv.out (-xh) (-yl) _ (by omega) (by omega) (by omega) (B11.out.trans (Wb.out.mono B11.out.size))) ?_
        rintro e_ wc ⟨rfl,hb⟩
        have Wc:=Lib.hid (Wb.out.trans (hb.mono Wb.out.size))
        clear hb Wb
        go_wp2_with fail
        refine ⟨⟨⟨_,Wc.out⟩,rfl⟩,?_⟩
        refine RX.walkR_any ?_
        simp only [dsc_,dz_,tsc_,tz_]
        go_big_quiet_step (fail)
        refine wpQuiet_nil ?_
        refine RX.walkR_any ?_
        simp only [dsc_,dz_,tsc_,tz_]
        go_big_quiet_step (fail)
        refine wpQuiet_nil ?_
        refine RX.walkR_any ?_
        simp only [dsc_,dz_,tsc_,tz_]
        go_big_quiet_step (fail)
        refine wpQuiet_nil ?_
        refine RX.walkR_any ?_
        simp only [dsc_,dz_,tsc_,tz_]
        go_big_quiet_step (fail)
        refine wpQuiet_nil ?_
        refine RX.walkR_move ?_
        simp only [dsc_,dz_,tsc_,tz_]
        go_wp2_with fail
        refine ⟨⟨⟨_,Wc.out⟩,rfl⟩,?_⟩
        refine RX.walkR_move ?_
        simp only [dsc_,dz_,tsc_,tz_]
        go_wp2_with fail
        refine ⟨⟨⟨_,Wc.out⟩,rfl⟩,?_⟩
        refine RX.walkR_move ?_
        simp only [dsc_,dz_,tsc_,tz_]
        go_wp2_with fail
        simp only [RX.walkR]
        have hb:=Wc.out
        have B12:=Lib.hid (B11.out.trans (hb.mono B11.out.size))
        replace T1:=Lib.hid (heap_kept T1.out hb nr_)
        replace T2:=Lib.hid (heap_kept T2.out hb nr_)
        replace HX:=Lib.hid (HX.out.below hb)
        replace HY:=Lib.hid (HY.out.below hb)
        clear hb Wc B11
        generalize wc=w12 at *
        go_wp2_with fail
        obtain ⟨k0,k1,k2,-⟩:=obj_cells3 T1.out
        obtain ⟨m0,m1,m2,-⟩:=obj_cells3 T2.out
        have s2:=BW.cell k2
        have r2:=BW.cell m2
        have hnon:Nonempty (BW w12):=⟨⟨w12,Below.refl _ _⟩⟩
        have I:Hid (Below w12.heap.size w12 w12.drew):=(Below.refl _ _).drew
        go_wp2_with fail
        clear k0 k1 k2 m0 m1 m2
        refine RX.wp_region_readers 15 [(1,0),(1,1),(1,2),(1,4),(1,5),(1,6),(0,3),(0,7),(0,8),(2,9),(2,10),(2,11),(2,12),(0,13),(0,14),(0,15)] (fun w'=>∃ p:BW w12,w'=p.w) (by kernel_rfl) (by kernel_rfl) ?_ ?_
        ·exact ⟨⟨_,I.out⟩,rfl⟩
        iterate 6 (refine RX.walkR_read ?_; simp only [dsc_,dz_,tsc_,tz_]; go_big_quiet_step (fail); refine wpQuiet_nil ?_)
        clear hnon s2 r2
        refine RX.walkR_move ?_
        simp only [dsc_,dz_,tsc_,tz_]
        go_wp2_with fail
        refine Calls.mono (HMg.out (-xl) _ (by omega) (B12.out.drew)) ?_
        rintro e_ wa ⟨rfl,hb⟩
        have Wa:Hid (Below w12.heap.size w12 wa):=(Below.refl w12.heap.size w12).drew.trans hb
        clear hb I
        go_wp2_with fail
        refine ⟨⟨⟨_,Wa.out⟩,rfl⟩,?_⟩
        refine RX.walkR_move ?_
        simp only [dsc_,dz_,tsc_,tz_]
        go_wp2_with fail
        refine Calls.mono (HMd.out (-yh) _ (by omega) (B12.out.trans (Wa.out.mono B12.out.size))) ?_
        rintro e_ wb ⟨rfl,hb⟩
        have Wb:=Lib.hid (Wa.out.trans (hb.mono Wa.out.size))
        clear hb Wa
        go_wp2_with fail
        refine ⟨⟨⟨_,Wb.out⟩,rfl⟩,?_⟩
        refine RX.walkR_move ?_
        simp only [dsc_,dz_,tsc_,tz_]
        go_wp2_with fail
        refine Calls.mono (HDv.out (-xl) (-yh) _ (by omega) (by omega) (by omega) (B12.out.trans (Wb.out.mono B12.out.size))) ?_
        rintro e_ wc ⟨rfl,hb⟩
        have Wc:=Lib.hid (Wb.out.trans (hb.mono Wb.out.size))
        clear hb Wb
        go_wp2_with fail
        refine ⟨⟨⟨_,Wc.out⟩,rfl⟩,?_⟩
        refine RX.walkR_any ?_
        simp only [dsc_,dz_,tsc_,tz_]
        go_big_quiet_step (fail)
        refine wpQuiet_nil ?_
        refine RX.walkR_any ?_
        simp only [dsc_,dz_,tsc_,tz_]
        go_big_quiet_step (fail)
        refine wpQuiet_nil ?_
        refine RX.walkR_any ?_
        simp only [dsc_,dz_,tsc_,tz_]
        go_big_quiet_step (fail)
        refine wpQuiet_nil ?_
        refine RX.walkR_any ?_
        simp only [dsc_,dz_,tsc_,tz_]
        go_big_quiet_step (fail)
        refine wpQuiet_nil ?_
        refine RX.walkR_move ?_
        simp only [dsc_,dz_,tsc_,tz_]
        go_wp2_with fail
        refine ⟨⟨⟨_,Wc.out⟩,rfl⟩,?_⟩
        refine RX.walkR_move ?_
        simp only [dsc_,dz_,tsc_,tz_]
        go_wp2_with fail
        refine ⟨⟨⟨_,Wc.out⟩,rfl⟩,?_⟩
        refine RX.walkR_move ?_
        simp only [dsc_,dz_,tsc_,tz_]
        go_wp2_with fail
        simp only [RX.walkR]
        have hb:=Wc.out
        have B13:=Lib.hid (B12.out.trans (hb.mono B12.out.size))
        replace T1:=Lib.hid (heap_kept T1.out hb nr_)
        replace T2:=Lib.hid (heap_kept T2.out hb nr_)
        replace HX:=Lib.hid (HX.out.below hb)
        replace HY:=Lib.hid (HY.out.below hb)
        clear hb Wc B12
        generalize wc=w13 at *
        have hfl:fl=if (-xh) * (dy:Int) / ((-yl) * (dx:Int))=(-xl) * (dy:Int) / ((-yh) * (dx:Int)) then some ((-xh) * (dy:Int) / ((-yl) * (dx:Int))) else none:=by
         rw [Hf.out]
         unfold flS
         rw [if_pos (show yh≤0 by omega)]
         unfold flE LN.quoL LN.quoH
         rw [if_neg (show ¬ (-yh)≤0 by omega),if_neg (show ¬ (-xh) < 0 by omega),if_neg (show ¬ (-xl) < 0 by omega)]
        have hsame:=same_itx ((-xh) * (dy:Int) / ((-yl) * (dx:Int))) ((-xl) * (dy:Int) / ((-yh) * (dx:Int)))
        clear Hf
        generalize (-xh) * (dy:Int) / ((-yl) * (dx:Int))=q1 at *
        generalize (-xl) * (dy:Int) / ((-yh) * (dx:Int))=q2 at *
        by_cases hqq:q1=q2
        ·rw [if_pos hqq] at hfl
         rw [decide_eq_true hqq] at hsame
         have Hans:=Lib.hid (Hspec.out _ hfl)
         clear hfl hqq Hspec Hnx
         go_wp2_with fail
         go_ret
         exact ⟨⟨q1,rfl,Hans.out⟩,B13.out⟩
        ·rw [if_neg hqq] at hfl
         rw [decide_eq_false hqq] at hsame
         obtain ⟨hn2,hp2⟩:=Hnx.out hfl
         have Hp2:=Lib.hid hp2
         clear hfl hqq Hspec Hnx hp2
         go_wp2_with fail
         go_roundw
         case rel=>exact ⟨n * 2,Hp2,hn2,rfl,B13,T1,T2,HX,HY⟩
         case measure=>simp [intOf]; omega
    ·have hsg0:¬ yh.sign≤0:=by have:=sign_cases yh; omega
     generalize yh.sign=sg0 at *
     go_wp2_with fail
     refine Calls.mono (HS.out yl _) ?_
     rintro e_ w5 ⟨rfl,hb⟩
     have B5:=Lib.hid (B4.out.trans (hb.mono B4.out.size))
     replace T1:=Lib.hid (heap_kept T1.out hb nr_)
     replace T2:=Lib.hid (heap_kept T2.out hb nr_)
     replace HX:=Lib.hid (HX.out.below hb)
     replace HY:=Lib.hid (HY.out.below hb)
     clear hb B4
     by_cases hyl2:yl≤0
     ·have hsg:yl.sign≤0:=by have:=sign_cases yl; omega
      have hfl:fl=none:=by
       rw [Hf.out]
       unfold flS
       rw [if_neg (by omega)]
       unfold flE
       rw [if_pos (by omega)]
      obtain ⟨hn2,hp2⟩:=Hnx.out hfl
      have Hp2:=Lib.hid hp2
      clear hfl Hspec Hnx hp2 Hf
      generalize yl.sign=sg at *
      go_wp2_with fail
      go_roundw
      case rel=>exact ⟨n * 2,Hp2,hn2,rfl,B5,T1,T2,HX,HY⟩
      case measure=>simp [intOf]; omega
     ·have hsg:0 < yl.sign:=by have:=sign_cases yl; omega
      generalize yl.sign=sg at *
      go_wp2_with fail
      clear hsg
      refine Calls.mono (HS.out xl _) ?_
      rintro e_ w6 ⟨rfl,hb⟩
      have B6:=Lib.hid (B5.out.trans (hb.mono B5.out.size))
      replace T1:=Lib.hid (heap_kept T1.out hb nr_)
      replace T2:=Lib.hid (heap_kept T2.out hb nr_)
      replace HX:=Lib.hid (HX.out.below hb)
      replace HY:=Lib.hid (HY.out.below hb)
      clear hb B5
      by_cases hx1:xl < 0
      ·have hsg:xl.sign < 0:=by have:=sign_cases xl; omega
       generalize xl.sign=sg at *
       go_wp2_with fail
       clear hsg
       refine Calls.mono (HS.out xh _) ?_
       rintro e_ w7 ⟨rfl,hb⟩
       have B7:=Lib.hid (B6.out.trans (hb.mono B6.out.size))
       replace T1:=Lib.hid (heap_kept T1.out hb nr_)
       replace T2:=Lib.hid (heap_kept T2.out hb nr_)
       replace HX:=Lib.hid (HX.out.below hb)
       replace HY:=Lib.hid (HY.out.below hb)
       clear hb B6
       by_cases hx2:xh < 0
       ·have hsg:xh.sign < 0:=by have:=sign_cases xh; omega
        generalize xh.sign=sg at *
        obtain ⟨k0,k1,k2,-⟩:=obj_cells3 T1.out
        obtain ⟨m0,m1,m2,-⟩:=obj_cells3 T2.out
        have s2:=BW.cell k2
        have r2:=BW.cell m2
        have hnon:Nonempty (BW w7):=⟨⟨w7,Below.refl _ _⟩⟩
        have I:Hid (Below w7.heap.size w7 w7.drew):=(Below.refl _ _).drew
        go_wp2_with fail
        clear k0 k1 k2 m0 m1 m2
        refine RX.wp_region_readers 15 [(1,0),(1,1),(1,2),(1,4),(1,5),(1,6),(0,3),(0,7),(0,8),(2,9),(2,10),(2,11),(2,12),(0,13),(0,14),(0,15)] (fun w'=>∃ p:BW w7,w'=p.w) (by kernel_rfl) (by kernel_rfl) ?_ ?_
        ·exact ⟨⟨_,I.out⟩,rfl⟩
        iterate 6 (refine RX.walkR_read ?_; simp only [dsc_,dz_,tsc_,tz_]; go_big_quiet_step (fail); refine wpQuiet_nil ?_)
        clear hnon s2 r2
        refine RX.walkR_move ?_
        simp only [dsc_,dz_,tsc_,tz_]
        go_wp2_with fail
        refine Calls.mono (HMg.out xl _ (by omega) (B7.out.drew)) ?_
        rintro e_ wa ⟨rfl,hb⟩
        have Wa:Hid (Below w7.heap.size w7 wa):=(Below.refl w7.heap.size w7).drew.trans hb
        clear hb I
        go_wp2_with fail
        refine ⟨⟨⟨_,Wa.out⟩,rfl⟩,?_⟩
        refine RX.walkR_move ?_
        simp only [dsc_,dz_,tsc_,tz_]
        go_wp2_with fail
        refine Calls.mono (HMd.out yl _ (by omega) (B7.out.trans (Wa.out.mono B7.out.size))) ?_
        rintro e_ wb ⟨rfl,hb⟩
        have Wb:=Lib.hid (Wa.out.trans (hb.mono Wa.out.size))
        clear hb Wa
        go_wp2_with fail
        refine ⟨⟨⟨_,Wb.out⟩,rfl⟩,?_⟩
        refine RX.walkR_move ?_
        simp only [dsc_,dz_,tsc_,tz_]
        go_wp2_with fail
        refine Calls.mono (HDv.out xl yl _ (by omega) (by omega) (by omega) (B7.out.trans (Wb.out.mono B7.out.size))) ?_
        rintro e_ wc ⟨rfl,hb⟩
        have Wc:=Lib.hid (Wb.out.trans (hb.mono Wb.out.size))
        clear hb Wb
        go_wp2_with fail
        refine ⟨⟨⟨_,Wc.out⟩,rfl⟩,?_⟩
        refine RX.walkR_any ?_
        simp only [dsc_,dz_,tsc_,tz_]
        go_big_quiet_step (fail)
        refine wpQuiet_nil ?_
        refine RX.walkR_any ?_
        simp only [dsc_,dz_,tsc_,tz_]
        go_big_quiet_step (fail)
        refine wpQuiet_nil ?_
        refine RX.walkR_any ?_
        simp only [dsc_,dz_,tsc_,tz_]
        go_big_quiet_step (fail)
        refine wpQuiet_nil ?_
        refine RX.walkR_any ?_
        simp only [dsc_,dz_,tsc_,tz_]
        go_big_quiet_step (fail)
        refine wpQuiet_nil ?_
        refine RX.walkR_move ?_
        simp only [dsc_,dz_,tsc_,tz_]
        go_wp2_with fail
        refine ⟨⟨⟨_,Wc.out⟩,rfl⟩,?_⟩
        refine RX.walkR_move ?_
        simp only [dsc_,dz_,tsc_,tz_]
        go_wp2_with fail
        refine ⟨⟨⟨_,Wc.out⟩,rfl⟩,?_⟩
        refine RX.walkR_move ?_
        simp only [dsc_,dz_,tsc_,tz_]
        go_wp2_with fail
        simp only [RX.walkR]
        have hb:=Wc.out
        have B8:=Lib.hid (B7.out.trans (hb.mono B7.out.size))
        replace T1:=Lib.hid (heap_kept T1.out hb nr_)
        replace T2:=Lib.hid (heap_kept T2.out hb nr_)
        replace HX:=Lib.hid (HX.out.below hb)
        replace HY:=Lib.hid (HY.out.below hb)
        clear hb Wc B7
        generalize wc=w8 at *
        go_wp2_with fail
        obtain ⟨k0,k1,k2,-⟩:=obj_cells3 T1.out
        obtain ⟨m0,m1,m2,-⟩:=obj_cells3 T2.out
        have s2:=BW.cell k2
        have r2:=BW.cell m2
        have hnon:Nonempty (BW w8):=⟨⟨w8,Below.refl _ _⟩⟩
        have I:Hid (Below w8.heap.size w8 w8.drew):=(Below.refl _ _).drew
        go_wp2_with fail
        clear k0 k1 k2 m0 m1 m2
        refine RX.wp_region_readers 15 [(1,0),(1,1),(1,2),(1,4),(1,5),(1,6),(0,3),(0,7),(0,8),(2,9),(2,10),(2,11),(2,12),(0,13),(0,14),(0,15)] (fun w'=>∃ p:BW w8,w'=p.w) (by kernel_rfl) (by kernel_rfl) ?_ ?_
        ·exact ⟨⟨_,I.out⟩,rfl⟩
        iterate 6 (refine RX.walkR_read ?_; simp only [dsc_,dz_,tsc_,tz_]; go_big_quiet_step (fail); refine wpQuiet_nil ?_)
        clear hnon s2 r2
        refine RX.walkR_move ?_
        simp only [dsc_,dz_,tsc_,tz_]
        go_wp2_with fail
        refine Calls.mono (HMg.out xh _ (by omega) (B8.out.drew)) ?_
        rintro e_ wa ⟨rfl,hb⟩
        have Wa:Hid (Below w8.heap.size w8 wa):=(Below.refl w8.heap.size w8).drew.trans hb
        clear hb I
        go_wp2_with fail
        refine ⟨⟨⟨_,Wa.out⟩,rfl⟩,?_⟩
        refine RX.walkR_move ?_
        simp only [dsc_,dz_,tsc_,tz_]
        go_wp2_with fail
        refine Calls.mono (HMd.out yh _ (by omega) (B8.out.trans (Wa.out.mono B8.out.size))) ?_
        rintro e_ wb ⟨rfl,hb⟩
        have Wb:=Lib.hid (Wa.out.trans (hb.mono Wa.out.size))
        clear hb Wa
        go_wp2_with fail
        refine ⟨⟨⟨_,Wb.out⟩,rfl⟩,?_⟩
        refine RX.walkR_move ?_
        simp only [dsc_,dz_,tsc_,tz_]
        go_wp2_with fail
        refine Calls.mono (HDv.out xh yh _ (by omega) (by omega) (by omega) (B8.out.trans (Wb.out.mono B8.out.size))) ?_
        rintro e_ wc ⟨rfl,hb⟩
        have Wc:=Lib.hid (Wb.out.trans (hb.mono Wb.out.size))
        clear hb Wb
        go_wp2_with fail
        refine ⟨⟨⟨_,Wc.out⟩,rfl⟩,?_⟩
        refine RX.walkR_any ?_
        simp only [dsc_,dz_,tsc_,tz_]
        go_big_quiet_step (fail)
        refine wpQuiet_nil ?_
        refine RX.walkR_any ?_
        simp only [dsc_,dz_,tsc_,tz_]
        go_big_quiet_step (fail)
        refine wpQuiet_nil ?_
        refine RX.walkR_any ?_
        simp only [dsc_,dz_,tsc_,tz_]
        go_big_quiet_step (fail)
        refine wpQuiet_nil ?_
        refine RX.walkR_any ?_
        simp only [dsc_,dz_,tsc_,tz_]
        go_big_quiet_step (fail)
        refine wpQuiet_nil ?_
        refine RX.walkR_move ?_
        simp only [dsc_,dz_,tsc_,tz_]
        go_wp2_with fail
        refine ⟨⟨⟨_,Wc.out⟩,rfl⟩,?_⟩
        refine RX.walkR_move ?_
        simp only [dsc_,dz_,tsc_,tz_]
        go_wp2_with fail
        refine ⟨⟨⟨_,Wc.out⟩,rfl⟩,?_⟩
        refine RX.walkR_move ?_
        simp only [dsc_,dz_,tsc_,tz_]
        go_wp2_with fail
        simp only [RX.walkR]
        have hb:=Wc.out
        have B9:=Lib.hid (B8.out.trans (hb.mono B8.out.size))
        replace T1:=Lib.hid (heap_kept T1.out hb nr_)
        replace T2:=Lib.hid (heap_kept T2.out hb nr_)
        replace HX:=Lib.hid (HX.out.below hb)
        replace HY:=Lib.hid (HY.out.below hb)
        clear hb Wc B8
        generalize wc=w9 at *
        have hfl:fl=if xl * (dy:Int) / (yl * (dx:Int))=xh * (dy:Int) / (yh * (dx:Int)) then some (xl * (dy:Int) / (yl * (dx:Int))) else none:=by
         rw [Hf.out]
         unfold flS
         rw [if_neg (show ¬ yh≤0 by omega)]
         unfold flE LN.quoL LN.quoH
         rw [if_neg (show ¬ yl≤0 by omega),if_pos (show xl < 0 by omega),if_pos (show xh < 0 by omega)]
        have hsame:=same_itx (xl * (dy:Int) / (yl * (dx:Int))) (xh * (dy:Int) / (yh * (dx:Int)))
        clear Hf
        generalize xl * (dy:Int) / (yl * (dx:Int))=q1 at *
        generalize xh * (dy:Int) / (yh * (dx:Int))=q2 at *
        by_cases hqq:q1=q2
        ·rw [if_pos hqq] at hfl
         rw [decide_eq_true hqq] at hsame
         have Hans:=Lib.hid (Hspec.out _ hfl)
         clear hfl hqq Hspec Hnx
         go_wp2_with fail
         go_ret
         exact ⟨⟨q1,rfl,Hans.out⟩,B9.out⟩
        ·rw [if_neg hqq] at hfl
         rw [decide_eq_false hqq] at hsame
         obtain ⟨hn2,hp2⟩:=Hnx.out hfl
         have Hp2:=Lib.hid hp2
         clear hfl hqq Hspec Hnx hp2
         go_wp2_with fail
         go_roundw
         case rel=>exact ⟨n * 2,Hp2,hn2,rfl,B9,T1,T2,HX,HY⟩
         case measure=>simp [intOf]; omega
       ·have hsg:¬ xh.sign < 0:=by have:=sign_cases xh; omega
        generalize xh.sign=sg at *
        obtain ⟨k0,k1,k2,-⟩:=obj_cells3 T1.out
        obtain ⟨m0,m1,m2,-⟩:=obj_cells3 T2.out
        have s2:=BW.cell k2
        have r2:=BW.cell m2
        have hnon:Nonempty (BW w7):=⟨⟨w7,Below.refl _ _⟩⟩
        have I:Hid (Below w7.heap.size w7 w7.drew):=(Below.refl _ _).drew
        go_wp2_with fail
        clear k0 k1 k2 m0 m1 m2
        refine RX.wp_region_readers 15 [(1,0),(1,1),(1,2),(1,4),(1,5),(1,6),(0,3),(0,7),(0,8),(2,9),(2,10),(2,11),(2,12),(0,13),(0,14),(0,15)] (fun w'=>∃ p:BW w7,w'=p.w) (by kernel_rfl) (by kernel_rfl) ?_ ?_
        ·exact ⟨⟨_,I.out⟩,rfl⟩
        iterate 6 (refine RX.walkR_read ?_; simp only [dsc_,dz_,tsc_,tz_]; go_big_quiet_step (fail); refine wpQuiet_nil ?_)
        clear hnon s2 r2
        refine RX.walkR_move ?_
        simp only [dsc_,dz_,tsc_,tz_]
        go_wp2_with fail
        refine Calls.mono (HMg.out xl _ (by omega) (B7.out.drew)) ?_
        rintro e_ wa ⟨rfl,hb⟩
        have Wa:Hid (Below w7.heap.size w7 wa):=(Below.refl w7.heap.size w7).drew.trans hb
        clear hb I
        go_wp2_with fail
        refine ⟨⟨⟨_,Wa.out⟩,rfl⟩,?_⟩
        refine RX.walkR_move ?_
        simp only [dsc_,dz_,tsc_,tz_]
        go_wp2_with fail
        refine Calls.mono (HMd.out yl _ (by omega) (B7.out.trans (Wa.out.mono B7.out.size))) ?_
        rintro e_ wb ⟨rfl,hb⟩
        have Wb:=Lib.hid (Wa.out.trans (hb.mono Wa.out.size))
        clear hb Wa
        go_wp2_with fail
        refine ⟨⟨⟨_,Wb.out⟩,rfl⟩,?_⟩
        refine RX.walkR_move ?_
        simp only [dsc_,dz_,tsc_,tz_]
        go_wp2_with fail
        refine Calls.mono (HDv.out xl yl _ (by omega) (by omega) (by omega) (B7.out.trans (Wb.out.mono B7.out.size))) ?_
        rintro e_ wc ⟨rfl,hb⟩
        have Wc:=Lib.hid (Wb.out.trans (hb.mono Wb.out.size))
        clear hb Wb
        go_wp2_with fail
        refine ⟨⟨⟨_,Wc.out⟩,rfl⟩,?_⟩
        refine RX.walkR_any ?_
        simp only [dsc_,dz_,tsc_,tz_]
        go_big_quiet_step (fail)
        refine wpQuiet_nil ?_
        refine RX.walkR_any ?_
        simp only [dsc_,dz_,tsc_,tz_]
        go_big_quiet_step (fail)
        refine wpQuiet_nil ?_
        refine RX.walkR_any ?_
        simp only [dsc_,dz_,tsc_,tz_]
        go_big_quiet_step (fail)
        refine wpQuiet_nil ?_
        refine RX.walkR_any ?_
        simp only [dsc_,dz_,tsc_,tz_]
        go_big_quiet_step (fail)
        refine wpQuiet_nil ?_
        refine RX.walkR_move ?_
        simp only [dsc_,dz_,tsc_,tz_]
        go_wp2_with fail
        refine ⟨⟨⟨_,Wc.out⟩,rfl⟩,?_⟩
        refine RX.walkR_move ?_
        simp only [dsc_,dz_,tsc_,tz_]
        go_wp2_with fail
        refine ⟨⟨⟨_,Wc.out⟩,rfl⟩,?_⟩
        refine RX.walkR_move ?_
        simp only [dsc_,dz_,tsc_,tz_]
        go_wp2_with fail
        simp only [RX.walkR]
        have hb:=Wc.out
        have B8:=Lib.hid (B7.out.trans (hb.mono B7.out.size))
        replace T1:=Lib.hid (heap_kept T1.out hb nr_)
        replace T2:=Lib.hid (heap_kept T2.out hb nr_)
        replace HX:=Lib.hid (HX.out.below hb)
        replace HY:=Lib.hid (HY.out.below hb)
        clear hb Wc B7
        generalize wc=w8 at *
        go_wp2_with fail
        obtain ⟨k0,k1,k2,-⟩:=obj_cells3 T1.out
        obtain ⟨m0,m1,m2,-⟩:=obj_cells3 T2.out
        have s2:=BW.cell k2
        have r2:=BW.cell m2
        have hnon:Nonempty (BW w8):=⟨⟨w8,Below.refl _ _⟩⟩
        have I:Hid (Below w8.heap.size w8 w8.drew):=(Below.refl _ _).drew
        go_wp2_with fail
        clear k0 k1 k2 m0 m1 m2
        refine RX.wp_region_readers 15 [(1,0),(1,1),(1,2),(1,4),(1,5),(1,6),(0,3),(0,7),(0,8),(2,9),(2,10),(2,11),(2,12),(0,13),(0,14),(0,15)] (fun w'=>∃ p:BW w8,w'=p.w) (by kernel_rfl) (by kernel_rfl) ?_ ?_
        ·exact ⟨⟨_,I.out⟩,rfl⟩
        iterate 6 (refine RX.walkR_read ?_; simp only [dsc_,dz_,tsc_,tz_]; go_big_quiet_step (fail); refine wpQuiet_nil ?_)
        clear hnon s2 r2
        refine RX.walkR_move ?_
        simp only [dsc_,dz_,tsc_,tz_]
        go_wp2_with fail
        refine Calls.mono (HMg.out xh _ (by omega) (B8.out.drew)) ?_
        rintro e_ wa ⟨rfl,hb⟩
        have Wa:Hid (Below w8.heap.size w8 wa):=(Below.refl w8.heap.size w8).drew.trans hb
        clear hb I
        go_wp2_with fail
        refine ⟨⟨⟨_,Wa.out⟩,rfl⟩,?_⟩
        refine RX.walkR_move ?_
        simp only [dsc_,dz_,tsc_,tz_]
        go_wp2_with fail
        refine Calls.mono (HMd.out yl _ (by omega) (B8.out.trans (Wa.out.mono B8.out.size))) ?_
        rintro e_ wb ⟨rfl,hb⟩
        have Wb:=Lib.hid (Wa.out.trans (hb.mono Wa.out.size))
        clear hb Wa
        go_wp2_with fail
        refine ⟨⟨⟨_,Wb.out⟩,rfl⟩,?_⟩
        refine RX.walkR_move ?_
        simp only [dsc_,dz_,tsc_,tz_]
        go_wp2_with fail
        refine Calls.mono (HDv.out xh yl _ (by omega) (by omega) (by omega) (B8.out.trans (Wb.out.mono B8.out.size))) ?_
        rintro e_ wc ⟨rfl,hb⟩
        have Wc:=Lib.hid (Wb.out.trans (hb.mono Wb.out.size))
        clear hb Wb
        go_wp2_with fail
        refine ⟨⟨⟨_,Wc.out⟩,rfl⟩,?_⟩
        refine RX.walkR_any ?_
        simp only [dsc_,dz_,tsc_,tz_]
        go_big_quiet_step (fail)
        refine wpQuiet_nil ?_
        refine RX.walkR_any ?_
        simp only [dsc_,dz_,tsc_,tz_]
        go_big_quiet_step (fail)
        refine wpQuiet_nil ?_
        refine RX.walkR_any ?_
        simp only [dsc_,dz_,tsc_,tz_]
        go_big_quiet_step (fail)
        refine wpQuiet_nil ?_
        refine RX.walkR_any ?_
        simp only [dsc_,dz_,tsc_,tz_]
        go_big_quiet_step (fail)
        refine wpQuiet_nil ?_
        refine RX.walkR_move ?_
        simp only [dsc_,dz_,tsc_,tz_]
        go_wp2_with fail
        refine ⟨⟨⟨_,Wc.out⟩,rfl⟩,?_⟩
        refine RX.walkR_move ?_
        simp only [dsc_,dz_,tsc_,tz_]
        go_wp2_with fail
        refine ⟨⟨⟨_,Wc.out⟩,rfl⟩,?_⟩
        refine RX.walkR_move ?_
        simp only [dsc_,dz_,tsc_,tz_]
        go_wp2_with fail
        simp only [RX.walkR]
        have hb:=Wc.out
        have B9:=Lib.hid (B8.out.trans (hb.mono B8.out.size))
        replace T1:=Lib.hid (heap_kept T1.out hb nr_)
        replace T2:=Lib.hid (heap_kept T2.out hb nr_)
        replace HX:=Lib.hid (HX.out.below hb)
        replace HY:=Lib.hid (HY.out.below hb)
        clear hb Wc B8
        generalize wc=w9 at *
        have hfl:fl=if xl * (dy:Int) / (yl * (dx:Int))=xh * (dy:Int) / (yl * (dx:Int)) then some (xl * (dy:Int) / (yl * (dx:Int))) else none:=by
         rw [Hf.out]
         unfold flS
         rw [if_neg (show ¬ yh≤0 by omega)]
         unfold flE LN.quoL LN.quoH
         rw [if_neg (show ¬ yl≤0 by omega),if_pos (show xl < 0 by omega),if_neg (show ¬ xh < 0 by omega)]
        have hsame:=same_itx (xl * (dy:Int) / (yl * (dx:Int))) (xh * (dy:Int) / (yl * (dx:Int)))
        clear Hf
        generalize xl * (dy:Int) / (yl * (dx:Int))=q1 at *
        generalize xh * (dy:Int) / (yl * (dx:Int))=q2 at *
        by_cases hqq:q1=q2
        ·rw [if_pos hqq] at hfl
         rw [decide_eq_true hqq] at hsame
         have Hans:=Lib.hid (Hspec.out _ hfl)
         clear hfl hqq Hspec Hnx
         go_wp2_with fail
         go_ret
         exact ⟨⟨q1,rfl,Hans.out⟩,B9.out⟩
        ·rw [if_neg hqq] at hfl
         rw [decide_eq_false hqq] at hsame
         obtain ⟨hn2,hp2⟩:=Hnx.out hfl
         have Hp2:=Lib.hid hp2
         clear hfl hqq Hspec Hnx hp2
         go_wp2_with fail
         go_roundw
         case rel=>exact ⟨n * 2,Hp2,hn2,rfl,B9,T1,T2,HX,HY⟩
         case measure=>simp [intOf]; omega
      ·have hsg:¬ xl.sign < 0:=by have:=sign_cases xl; omega
       generalize xl.sign=sg at *
       go_wp2_with fail
       clear hsg
       refine Calls.mono (HS.out xh _) ?_
       rintro e_ w7 ⟨rfl,hb⟩
       have B7:=Lib.hid (B6.out.trans (hb.mono B6.out.size))
       replace T1:=Lib.hid (heap_kept T1.out hb nr_)
       replace T2:=Lib.hid (heap_kept T2.out hb nr_)
       replace HX:=Lib.hid (HX.out.below hb)
       replace HY:=Lib.hid (HY.out.below hb)
       clear hb B6
       by_cases hx2:xh < 0
       ·have hsg:xh.sign < 0:=by have:=sign_cases xh; omega
        generalize xh.sign=sg at *
        obtain ⟨k0,k1,k2,-⟩:=obj_cells3 T1.out
        obtain ⟨m0,m1,m2,-⟩:=obj_cells3 T2.out
        have s2:=BW.cell k2
        have r2:=BW.cell m2
        have hnon:Nonempty (BW w7):=⟨⟨w7,Below.refl _ _⟩⟩
        have I:Hid (Below w7.heap.size w7 w7.drew):=(Below.refl _ _).drew
        go_wp2_with fail
        clear k0 k1 k2 m0 m1 m2
        refine RX.wp_region_readers 15 [(1,0),(1,1),(1,2),(1,4),(1,5),(1,6),(0,3),(0,7),(0,8),(2,9),(2,10),(2,11),(2,12),(0,13),(0,14),(0,15)] (fun w'=>∃ p:BW w7,w'=p.w) (by kernel_rfl) (by kernel_rfl) ?_ ?_
        ·exact ⟨⟨_,I.out⟩,rfl⟩
        iterate 6 (refine RX.walkR_read ?_; simp only [dsc_,dz_,tsc_,tz_]; go_big_quiet_step (fail); refine wpQuiet_nil ?_)
        clear hnon s2 r2
        refine RX.walkR_move ?_
        simp only [dsc_,dz_,tsc_,tz_]
        go_wp2_with fail
        refine Calls.mono (HMg.out xl _ (by omega) (B7.out.drew)) ?_
        rintro e_ wa ⟨rfl,hb⟩
        have Wa:Hid (Below w7.heap.size w7 wa):=(Below.refl w7.heap.size w7).drew.trans hb
        clear hb I
        go_wp2_with fail
        refine ⟨⟨⟨_,Wa.out⟩,rfl⟩,?_⟩
        refine RX.walkR_move ?_
        simp only [dsc_,dz_,tsc_,tz_]
        go_wp2_with fail
        refine Calls.mono (HMd.out yh _ (by omega) (B7.out.trans (Wa.out.mono B7.out.size))) ?_
        rintro e_ wb ⟨rfl,hb⟩
        have Wb:=Lib.hid (Wa.out.trans (hb.mono Wa.out.size))
        clear hb Wa
        go_wp2_with fail
        refine ⟨⟨⟨_,Wb.out⟩,rfl⟩,?_⟩
        refine RX.walkR_move ?_
        simp only [dsc_,dz_,tsc_,tz_]
        go_wp2_with fail
        refine Calls.mono (HDv.out xl yh _ (by omega) (by omega) (by omega) (B7.out.trans (Wb.out.mono B7.out.size))) ?_
        rintro e_ wc ⟨rfl,hb⟩
        have Wc:=Lib.hid (Wb.out.trans (hb.mono Wb.out.size))
        clear hb Wb
        go_wp2_with fail
        refine ⟨⟨⟨_,Wc.out⟩,rfl⟩,?_⟩
        refine RX.walkR_any ?_
        simp only [dsc_,dz_,tsc_,tz_]
        go_big_quiet_step (fail)
        refine wpQuiet_nil ?_
        refine RX.walkR_any ?_
        simp only [dsc_,dz_,tsc_,tz_]
        go_big_quiet_step (fail)
        refine wpQuiet_nil ?_
        refine RX.walkR_any ?_
        simp only [dsc_,dz_,tsc_,tz_]
        go_big_quiet_step (fail)
        refine wpQuiet_nil ?_
        refine RX.walkR_any ?_
        simp only [dsc_,dz_,tsc_,tz_]
        go_big_quiet_step (fail)
        refine wpQuiet_nil ?_
        refine RX.walkR_move ?_
        simp only [dsc_,dz_,tsc_,tz_]
        go_wp2_with fail
        refine ⟨⟨⟨_,Wc.out⟩,rfl⟩,?_⟩
        refine RX.walkR_move ?_
        simp only [dsc_,dz_,tsc_,tz_]
        go_wp2_with fail
        refine ⟨⟨⟨_,Wc.out⟩,rfl⟩,?_⟩
        refine RX.walkR_move ?_
        simp only [dsc_,dz_,tsc_,tz_]
        go_wp2_with fail
        simp only [RX.walkR]
        have hb:=Wc.out
        have B8:=Lib.hid (B7.out.trans (hb.mono B7.out.size))
        replace T1:=Lib.hid (heap_kept T1.out hb nr_)
        replace T2:=Lib.hid (heap_kept T2.out hb nr_)
        replace HX:=Lib.hid (HX.out.below hb)
        replace HY:=Lib.hid (HY.out.below hb)
        clear hb Wc B7
        generalize wc=w8 at *
        go_wp2_with fail
        obtain ⟨k0,k1,k2,-⟩:=obj_cells3 T1.out
        obtain ⟨m0,m1,m2,-⟩:=obj_cells3 T2.out
        have s2:=BW.cell k2
        have r2:=BW.cell m2
        have hnon:Nonempty (BW w8):=⟨⟨w8,Below.refl _ _⟩⟩
        have I:Hid (Below w8.heap.size w8 w8.drew):=(Below.refl _ _).drew
        go_wp2_with fail
        clear k0 k1 k2 m0 m1 m2
        refine RX.wp_region_readers 15 [(1,0),(1,1),(1,2),(1,4),(1,5),(1,6),(0,3),(0,7),(0,8),(2,9),(2,10),(2,11),(2,12),(0,13),(0,14),(0,15)] (fun w'=>∃ p:BW w8,w'=p.w) (by kernel_rfl) (by kernel_rfl) ?_ ?_
        ·exact ⟨⟨_,I.out⟩,rfl⟩
        iterate 6 (refine RX.walkR_read ?_; simp only [dsc_,dz_,tsc_,tz_]; go_big_quiet_step (fail); refine wpQuiet_nil ?_)
        clear hnon s2 r2
        refine RX.walkR_move ?_
        simp only [dsc_,dz_,tsc_,tz_]
        go_wp2_with fail
        refine Calls.mono (HMg.out xh _ (by omega) (B8.out.drew)) ?_
        rintro e_ wa ⟨rfl,hb⟩
        have Wa:Hid (Below w8.heap.size w8 wa):=(Below.refl w8.heap.size w8).drew.trans hb
        clear hb I
        go_wp2_with fail
        refine ⟨⟨⟨_,Wa.out⟩,rfl⟩,?_⟩
        refine RX.walkR_move ?_
        simp only [dsc_,dz_,tsc_,tz_]
        go_wp2_with fail
        refine Calls.mono (HMd.out yh _ (by omega) (B8.out.trans (Wa.out.mono B8.out.size))) ?_
        rintro e_ wb ⟨rfl,hb⟩
        have Wb:=Lib.hid (Wa.out.trans (hb.mono Wa.out.size))
        clear hb Wa
        go_wp2_with fail
        refine ⟨⟨⟨_,Wb.out⟩,rfl⟩,?_⟩
        refine RX.walkR_move ?_
        simp only [dsc_,dz_,tsc_,tz_]
        go_wp2_with fail
        refine Calls.mono (HDv.out xh yh _ (by omega) (by omega) (by omega) (B8.out.trans (Wb.out.mono B8.out.size))) ?_
        rintro e_ wc ⟨rfl,hb⟩
        have Wc:=Lib.hid (Wb.out.trans (hb.mono Wb.out.size))
        clear hb Wb
        go_wp2_with fail
        refine ⟨⟨⟨_,Wc.out⟩,rfl⟩,?_⟩
        refine RX.walkR_any ?_
        simp only [dsc_,dz_,tsc_,tz_]
        go_big_quiet_step (fail)
        refine wpQuiet_nil ?_
        refine RX.walkR_any ?_
        simp only [dsc_,dz_,tsc_,tz_]
        go_big_quiet_step (fail)
        refine wpQuiet_nil ?_
        refine RX.walkR_any ?_
        simp only [dsc_,dz_,tsc_,tz_]
        go_big_quiet_step (fail)
        refine wpQuiet_nil ?_
        refine RX.walkR_any ?_
        simp only [dsc_,dz_,tsc_,tz_]
        go_big_quiet_step (fail)
        refine wpQuiet_nil ?_
        refine RX.walkR_move ?_
        simp only [dsc_,dz_,tsc_,tz_]
        go_wp2_with fail
        refine ⟨⟨⟨_,Wc.out⟩,rfl⟩,?_⟩
        refine RX.walkR_move ?_
        simp only [dsc_,dz_,tsc_,tz_]
        go_wp2_with fail
        refine ⟨⟨⟨_,Wc.out⟩,rfl⟩,?_⟩
        refine RX.walkR_move ?_
        simp only [dsc_,dz_,tsc_,tz_]
        go_wp2_with fail
        simp only [RX.walkR]
        have hb:=Wc.out
        have B9:=Lib.hid (B8.out.trans (hb.mono B8.out.size))
        replace T1:=Lib.hid (heap_kept T1.out hb nr_)
        replace T2:=Lib.hid (heap_kept T2.out hb nr_)
        replace HX:=Lib.hid (HX.out.below hb)
        replace HY:=Lib.hid (HY.out.below hb)
        clear hb Wc B8
        generalize wc=w9 at *
        have hfl:fl=if xl * (dy:Int) / (yh * (dx:Int))=xh * (dy:Int) / (yh * (dx:Int)) then some (xl * (dy:Int) / (yh * (dx:Int))) else none:=by
         rw [Hf.out]
         unfold flS
         rw [if_neg (show ¬ yh≤0 by omega)]
         unfold flE LN.quoL LN.quoH
         rw [if_neg (show ¬ yl≤0 by omega),if_neg (show ¬ xl < 0 by omega),if_pos (show xh < 0 by omega)]
        have hsame:=same_itx (xl * (dy:Int) / (yh * (dx:Int))) (xh * (dy:Int) / (yh * (dx:Int)))
        clear Hf
        generalize xl * (dy:Int) / (yh * (dx:Int))=q1 at *
        generalize xh * (dy:Int) / (yh * (dx:Int))=q2 at *
        by_cases hqq:q1=q2
        ·rw [if_pos hqq] at hfl
         rw [decide_eq_true hqq] at hsame
         have Hans:=Lib.hid (Hspec.out _ hfl)
         clear hfl hqq Hspec Hnx
         go_wp2_with fail
         go_ret
         exact ⟨⟨q1,rfl,Hans.out⟩,B9.out⟩
        ·rw [if_neg hqq] at hfl
         rw [decide_eq_false hqq] at hsame
         obtain ⟨hn2,hp2⟩:=Hnx.out hfl
         have Hp2:=Lib.hid hp2
         clear hfl hqq Hspec Hnx hp2
         go_wp2_with fail
         go_roundw
         case rel=>exact ⟨n * 2,Hp2,hn2,rfl,B9,T1,T2,HX,HY⟩
         case measure=>simp [intOf]; omega
       ·have hsg:¬ xh.sign < 0:=by have:=sign_cases xh; omega
        generalize xh.sign=sg at *
        obtain ⟨k0,k1,k2,-⟩:=obj_cells3 T1.out
        obtain ⟨m0,m1,m2,-⟩:=obj_cells3 T2.out
        have s2:=BW.cell k2
        have r2:=BW.cell m2
        have hnon:Nonempty (BW w7):=⟨⟨w7,Below.refl _ _⟩⟩
        have I:Hid (Below w7.heap.size w7 w7.drew):=(Below.refl _ _).drew
        go_wp2_with fail
        clear k0 k1 k2 m0 m1 m2
        refine RX.wp_region_readers 15 [(1,0),(1,1),(1,2),(1,4),(1,5),(1,6),(0,3),(0,7),(0,8),(2,9),(2,10),(2,11),(2,12),(0,13),(0,14),(0,15)] (fun w'=>∃ p:BW w7,w'=p.w) (by kernel_rfl) (by kernel_rfl) ?_ ?_
        ·exact ⟨⟨_,I.out⟩,rfl⟩
        iterate 6 (refine RX.walkR_read ?_; simp only [dsc_,dz_,tsc_,tz_]; go_big_quiet_step (fail); refine wpQuiet_nil ?_)
        clear hnon s2 r2
        refine RX.walkR_move ?_
        simp only [dsc_,dz_,tsc_,tz_]
        go_wp2_with fail
        refine Calls.mono (HMg.out xl _ (by omega) (B7.out.drew)) ?_
        rintro e_ wa ⟨rfl,hb⟩
        have Wa:Hid (Below w7.heap.size w7 wa):=(Below.refl w7.heap.size w7).drew.trans hb
        clear hb I
        go_wp2_with fail
        refine ⟨⟨⟨_,Wa.out⟩,rfl⟩,?_⟩
        refine RX.walkR_move ?_
        simp only [dsc_,dz_,tsc_,tz_]
        go_wp2_with fail
        refine Calls.mono (HMd.out yh _ (by omega) (B7.out.trans (Wa.out.mono B7.out.size))) ?_
        rintro e_ wb ⟨rfl,hb⟩
        have Wb:=Lib.hid (Wa.out.trans (hb.mono Wa.out.size))
        clear hb Wa
        go_wp2_with fail
        refine ⟨⟨⟨_,Wb.out⟩,rfl⟩,?_⟩
        refine RX.walkR_move ?_
        simp only [dsc_,dz_,tsc_,tz_]
        go_wp2_with fail
        refine Calls.mono (HDv.out xl yh _ (by omega) (by omega) (by omega) (B7.out.trans (Wb.out.mono B7.out.size))) ?_
        rintro e_ wc ⟨rfl,hb⟩
        have Wc:=Lib.hid (Wb.out.trans (hb.mono Wb.out.size))
        clear hb Wb
        go_wp2_with fail
        refine ⟨⟨⟨_,Wc.out⟩,rfl⟩,?_⟩
        refine RX.walkR_any ?_
        simp only [dsc_,dz_,tsc_,tz_]
        go_big_quiet_step (fail)
        refine wpQuiet_nil ?_
        refine RX.walkR_any ?_
        simp only [dsc_,dz_,tsc_,tz_]
        go_big_quiet_step (fail)
        refine wpQuiet_nil ?_
        refine RX.walkR_any ?_
        simp only [dsc_,dz_,tsc_,tz_]
        go_big_quiet_step (fail)
        refine wpQuiet_nil ?_
        refine RX.walkR_any ?_
        simp only [dsc_,dz_,tsc_,tz_]
        go_big_quiet_step (fail)
        refine wpQuiet_nil ?_
        refine RX.walkR_move ?_
        simp only [dsc_,dz_,tsc_,tz_]
        go_wp2_with fail
        refine ⟨⟨⟨_,Wc.out⟩,rfl⟩,?_⟩
        refine RX.walkR_move ?_
        simp only [dsc_,dz_,tsc_,tz_]
        go_wp2_with fail
        refine ⟨⟨⟨_,Wc.out⟩,rfl⟩,?_⟩
        refine RX.walkR_move ?_
        simp only [dsc_,dz_,tsc_,tz_]
        go_wp2_with fail
        simp only [RX.walkR]
        have hb:=Wc.out
        have B8:=Lib.hid (B7.out.trans (hb.mono B7.out.size))
        replace T1:=Lib.hid (heap_kept T1.out hb nr_)
        replace T2:=Lib.hid (heap_kept T2.out hb nr_)
        replace HX:=Lib.hid (HX.out.below hb)
        replace HY:=Lib.hid (HY.out.below hb)
        clear hb Wc B7
        generalize wc=w8 at *
        go_wp2_with fail
        obtain ⟨k0,k1,k2,-⟩:=obj_cells3 T1.out
        obtain ⟨m0,m1,m2,-⟩:=obj_cells3 T2.out
        have s2:=BW.cell k2
        have r2:=BW.cell m2
        have hnon:Nonempty (BW w8):=⟨⟨w8,Below.refl _ _⟩⟩
        have I:Hid (Below w8.heap.size w8 w8.drew):=(Below.refl _ _).drew
        go_wp2_with fail
        clear k0 k1 k2 m0 m1 m2
        refine RX.wp_region_readers 15 [(1,0),(1,1),(1,2),(1,4),(1,5),(1,6),(0,3),(0,7),(0,8),(2,9),(2,10),(2,11),(2,12),(0,13),(0,14),(0,15)] (fun w'=>∃ p:BW w8,w'=p.w) (by kernel_rfl) (by kernel_rfl) ?_ ?_
        ·exact ⟨⟨_,I.out⟩,rfl⟩
        iterate 6 (refine RX.walkR_read ?_; simp only [dsc_,dz_,tsc_,tz_]; go_big_quiet_step (fail); refine wpQuiet_nil ?_)
        clear hnon s2 r2
        refine RX.walkR_move ?_
        simp only [dsc_,dz_,tsc_,tz_]
        go_wp2_with fail
        refine Calls.mono (HMg.out xh _ (by omega) (B8.out.drew)) ?_
        rintro e_ wa ⟨rfl,hb⟩
        have Wa:Hid (Below w8.heap.size w8 wa):=(Below.refl w8.heap.size w8).drew.trans hb
        clear hb I
        go_wp2_with fail
        refine ⟨⟨⟨_,Wa.out⟩,rfl⟩,?_⟩
        refine RX.walkR_move ?_
        simp only [dsc_,dz_,tsc_,tz_]
        go_wp2_with fail
        refine Calls.mono (HMd.out yl _ (by omega) (B8.out.trans (Wa.out.mono B8.out.size))) ?_
        rintro e_ wb ⟨rfl,hb⟩
        have Wb:=Lib.hid (Wa.out.trans (hb.mono Wa.out.size))
        clear hb Wa
        go_wp2_with fail
        refine ⟨⟨⟨_,Wb.out⟩,rfl⟩,?_⟩
        refine RX.walkR_move ?_
        simp only [dsc_,dz_,tsc_,tz_]
        go_wp2_with fail
        refine Calls.mono (HDv.out xh yl _ (by omega) (by omega) (by omega) (B8.out.trans (Wb.out.mono B8.out.size))) ?_
        rintro e_ wc ⟨rfl,hb⟩
        have Wc:=Lib.hid (Wb.out.trans (hb.mono Wb.out.size))
        clear hb Wb
        go_wp2_with fail
        refine ⟨⟨⟨_,Wc.out⟩,rfl⟩,?_⟩
        refine RX.walkR_any ?_
        simp only [dsc_,dz_,tsc_,tz_]
        go_big_quiet_step (fail)
        refine wpQuiet_nil ?_
        refine RX.walkR_any ?_
        simp only [dsc_,dz_,tsc_,tz_]
        go_big_quiet_step (fail)
        refine wpQuiet_nil ?_
        refine RX.walkR_any ?_
        simp only [dsc_,dz_,tsc_,tz_]
        go_big_quiet_step (fail)
        refine wpQuiet_nil ?_
        refine RX.walkR_any ?_
        simp only [dsc_,dz_,tsc_,tz_]
        go_big_quiet_step (fail)
        refine wpQuiet_nil ?_
        refine RX.walkR_move ?_
        simp only [dsc_,dz_,tsc_,tz_]
        go_wp2_with fail
        refine ⟨⟨⟨_,Wc.out⟩,rfl⟩,?_⟩
        refine RX.walkR_move ?_
        simp only [dsc_,dz_,tsc_,tz_]
        go_wp2_with fail
        refine ⟨⟨⟨_,Wc.out⟩,rfl⟩,?_⟩
        refine RX.walkR_move ?_
        simp only [dsc_,dz_,tsc_,tz_]
        go_wp2_with fail
        simp only [RX.walkR]
        have hb:=Wc.out
        have B9:=Lib.hid (B8.out.trans (hb.mono B8.out.size))
        replace T1:=Lib.hid (heap_kept T1.out hb nr_)
        replace T2:=Lib.hid (heap_kept T2.out hb nr_)
        replace HX:=Lib.hid (HX.out.below hb)
        replace HY:=Lib.hid (HY.out.below hb)
        clear hb Wc B8
        generalize wc=w9 at *
        have hfl:fl=if xl * (dy:Int) / (yh * (dx:Int))=xh * (dy:Int) / (yl * (dx:Int)) then some (xl * (dy:Int) / (yh * (dx:Int))) else none:=by
         rw [Hf.out]
         unfold flS
         rw [if_neg (show ¬ yh≤0 by omega)]
         unfold flE LN.quoL LN.quoH
         rw [if_neg (show ¬ yl≤0 by omega),if_neg (show ¬ xl < 0 by omega),if_neg (show ¬ xh < 0 by omega)]
        have hsame:=same_itx (xl * (dy:Int) / (yh * (dx:Int))) (xh * (dy:Int) / (yl * (dx:Int)))
        clear Hf
        generalize xl * (dy:Int) / (yh * (dx:Int))=q1 at *
        generalize xh * (dy:Int) / (yl * (dx:Int))=q2 at *
        by_cases hqq:q1=q2
        ·rw [if_pos hqq] at hfl
         rw [decide_eq_true hqq] at hsame
         have Hans:=Lib.hid (Hspec.out _ hfl)
         clear hfl hqq Hspec Hnx
         go_wp2_with fail
         go_ret
         exact ⟨⟨q1,rfl,Hans.out⟩,B9.out⟩
        ·rw [if_neg hqq] at hfl
         rw [decide_eq_false hqq] at hsame
         obtain ⟨hn2,hp2⟩:=Hnx.out hfl
         have Hp2:=Lib.hid hp2
         clear hfl hqq Hspec Hnx hp2
         go_wp2_with fail
         go_roundw
         case rel=>exact ⟨n * 2,Hp2,hn2,rfl,B9,T1,T2,HX,HY⟩
         case measure=>simp [intOf]; omega
end Go.Proofs.YtpbapojnbmbdlaaGreatDoor

namespace Go.Proofs.YtpbapojnbmbdlaaGreatDoor
open Go.RowKit
theorem eLo_neg (f:Int→Nat) (l:List (Int×Int)):LN.eLo f (LN.negT l) = - LN.eHi f l∧LN.eHi f (LN.negT l) = - LN.eLo f l:=by
 rw [LN.eLo_eq,LN.eHi_eq,LN.eLo_eq,LN.eHi_eq,LN.negT_negT]
 omega
theorem sumT_neg (f:Int→Nat) (l:List (Int×Int)):LN.sumT f (LN.negT l) = - LN.sumT f l:=by
 rw [LN.sumT_eq,LN.sumT_eq,LN.negT_negT]
 omega
theorem ends_near (f:Int→Nat) (K:Nat) (l:List (Int×Int)) (h:∀ x∈l,x.2.natAbs≤K) :
  LN.eLo f l≤LN.sumT f l∧LN.sumT f l≤LN.eHi f l∧LN.eHi f l≤LN.sumT f l + (l.length * K:Nat)∧LN.sumT f l≤LN.eLo f l + (l.length * K:Nat):=by
 have h1:=LN.hiS_le f K l h
 have h2:=LN.hiS_le f K (LN.negT l) (by
  intro x hx
  obtain ⟨y,hy,rfl⟩:=List.mem_map.1 hx
  have:=h y hy
  show (-y.2).natAbs≤K
  omega)
 have e:(LN.negT l).length=l.length:=by simp [LN.negT]
 rw [e] at h2
 have h3:∀ l:List (Int×Int),LN.loS f l≤LN.hiS f l:=by
  intro l
  induction l with
  | nil=>exact Nat.le_refl _
  | cons x l ih =>
   rw [LN.loS,LN.hiS]
   refine Nat.add_le_add (Nat.mul_le_mul_left _ ?_) ih
   unfold LN.hiL; split <;> omega
 have h4:=h3 l
 have h5:=h3 (LN.negT l)
 rw [LN.eLo_eq,LN.eHi_eq,LN.sumT_eq]
 omega
theorem dotI_lin (a b:Int):∀ (u:List Int) (pr:List Int) (g h:Int→Int),LN.dotI u (pr.map fun p=>a * g p - b * h p)=a * LN.dotI u (pr.map g) - b * LN.dotI u (pr.map h)
 | [],_,_,_=>by simp [LN.dotI]
 | _ :: _,[],_,_=>by simp [LN.dotI]
 | c :: u,p :: pr,g,h=>by
  have ih:=dotI_lin a b u pr g h
  simp only [List.map_cons,LN.dotI]
  rw [ih]
  grind
theorem mul_abs_le {a b x y:Int} {W:Nat} (h1:x≤y + W) (h2:y≤x + W) (_:a=b):(a * x - b * y).natAbs≤a.natAbs * W:=by
 subst a
 rw [← Int.mul_sub,Int.natAbs_mul]
 exact Nat.mul_le_mul_left _ (by omega)
structure FNum (Kx Ky d g S R Wx Wy:Nat) (X:Nat):Prop where
 s:Wy < S
 r:X * g < R * (S - Wy)
 k:g * Kx + R * d * Ky≤LN.KA
 t:g * Wx + R * d * Wy < LN.SA
theorem quo_near {xl low Tx Ty:Int} {d g Wx Wy:Nat} (j:Int) (h1:Tx≤xl + Wx) (h2:xl≤Tx + Wx) (h3:Ty≤low + Wy) (h4:low≤Ty + Wy) (s:Bool) :
  (if s then j * (low * d)≤xl * g else xl * g < j * (low * d))→(if s then j * d * Ty≤g * Tx + (g * Wx + j.natAbs * d * Wy:Nat) else g * Tx - (g * Wx + j.natAbs * d * Wy:Nat)≤j * d * Ty):=by
 intro h
 have a1:=mul_abs_le (a:=(g:Int)) (b:=g) h1 h2 rfl
 have a2:=mul_abs_le (a:=j * (d:Int)) (b:=j * d) h3 h4 rfl
 rw [Int.natAbs_natCast] at a1
 rw [Int.natAbs_mul,Int.natAbs_natCast] at a2
 have e1:j * (low * (d:Int))=j * (d:Int) * low:=by grind
 have e2:xl * (g:Int)=(g:Int) * xl:=Int.mul_comm _ _
 rw [e1,e2] at h
 cases s with
 | true=>simp only [if_true] at h ⊢; omega
 | false =>
  rw [if_neg Bool.false_ne_true] at h ⊢
  omega
theorem flE_none {tx ty:List (Int×Int)} {f:Int→Nat} {Kx Ky d g S R X:Nat} (hd:0 < d) (hkx:∀ x∈tx,x.2.natAbs≤Kx) (hky:∀ x∈ty,x.2.natAbs≤Ky)
  (N:FNum Kx Ky d g S R (tx.length * Kx) (ty.length * Ky) X) (hS:(S:Int)≤LN.sumT f ty) (hX:(LN.eLo f tx).natAbs≤X∧(LN.eHi f tx).natAbs≤X)
  (hnone:flE (LN.eLo f tx) (LN.eHi f tx) (LN.eLo f ty) (LN.eHi f ty) g d=none):∃ j:Int,j.natAbs≤R∧(g * LN.sumT f tx - j * d * LN.sumT f ty).natAbs < LN.SA:=by
 obtain ⟨x1,x2,x3,x4⟩:=ends_near f Kx tx hkx
 obtain ⟨y1,y2,y3,y4⟩:=ends_near f Ky ty hky
 have hs:=N.s
 have ht:=N.t
 generalize tx.length * Kx=Wx at *
 generalize ty.length * Ky=Wy at *
 generalize LN.eLo f tx=xl at *
 generalize LN.eHi f tx=xh at *
 generalize LN.eLo f ty=yl at *
 generalize LN.eHi f ty=yh at *
 generalize LN.sumT f tx=Tx at *
 generalize LN.sumT f ty=Ty at *
 have hyl:0 < yl:=by omega
 unfold flE at hnone
 rw [if_neg (by omega)] at hnone
 -- a quotient is not too great
 have hR:∀ (x low:Int),x.natAbs≤X→((S - Wy:Nat):Int)≤low→(x * g / (low * d)).natAbs≤R:=by
  intro x low hx hl
  have hr:=N.r
  have hp:0 < low * (d:Int):=Int.mul_pos (by omega) (by omega)
  have h1:=Int.ediv_mul_le (x * (g:Int)) (show low * (d:Int)≠0 by omega)
  have h2:=Int.lt_ediv_add_one_mul_self (x * (g:Int)) hp
  have h3:(x * (g:Int)).natAbs≤X * g:=by rw [Int.natAbs_mul,Int.natAbs_natCast]; exact Nat.mul_le_mul_right _ hx
  have h4:((S - Wy:Nat):Int)≤low * (d:Int):=by
   have:low * 1≤low * (d:Int):=Int.mul_le_mul_of_nonneg_left (by omega) (by omega)
   omega
  generalize x * (g:Int) / (low * (d:Int))=q at *
  generalize low * (d:Int)=m at *
  generalize x * (g:Int)=v at *
  generalize X * g=V at *
  have hr2:(V:Int) < (R:Int) * ((S - Wy:Nat):Int):=by rw [← Int.natCast_mul]; exact Int.ofNat_lt.2 hr
  have hr3:(R:Int) * ((S - Wy:Nat):Int)≤(R:Int) * m:=Int.mul_le_mul_of_nonneg_left h4 (by omega)
  refine Nat.le_of_not_lt fun hc=>?_
  rcases Int.lt_or_le q 0 with hq | hq
  ·have h5:(q + 1) * m≤(-(R:Int)) * m:=Int.mul_le_mul_of_nonneg_right (by omega) (by omega)
   rw [Int.neg_mul] at h5
   omega
  ·have h5:(R:Int) * m≤q * m:=Int.mul_le_mul_of_nonneg_right (by omega) (by omega)
   omega
 have fin:∀ j:Int,j.natAbs≤R→j * d * Ty≤g * Tx + (g * Wx + j.natAbs * d * Wy:Nat)→g * Tx - (g * Wx + j.natAbs * d * Wy:Nat)≤j * d * Ty→(g * Tx - j * d * Ty).natAbs < LN.SA:=by
  intro j hj h1 h2
  have h3:j.natAbs * d * Wy≤R * d * Wy:=Nat.mul_le_mul_right _ (Nat.mul_le_mul_right _ hj)
  omega
 -- what low and high are
 obtain ⟨low,hlow,hl1,hl2,hl3⟩:∃ low,(if xl < 0 then yl else yh)=low∧Ty≤low + Wy∧low≤Ty + Wy∧((S - Wy:Nat):Int)≤low:=by
  by_cases h:xl < 0
  ·exact ⟨yl,if_pos h,by omega,by omega,by omega⟩
  ·exact ⟨yh,if_neg h,by omega,by omega,by omega⟩
 obtain ⟨high,hhigh,hh1,hh2,hh3⟩:∃ high,(if xh < 0 then yh else yl)=high∧Ty≤high + Wy∧high≤Ty + Wy∧((S - Wy:Nat):Int)≤high:=by
  by_cases h:xh < 0
  ·exact ⟨yh,if_pos h,by omega,by omega,by omega⟩
  ·exact ⟨yl,if_neg h,by omega,by omega,by omega⟩
 have hq:=hR xl low hX.1 hl3
 have hr:=hR xh high hX.2 hh3
 have p1:0 < low * (d:Int):=Int.mul_pos (by omega) (by omega)
 have p2:0 < high * (d:Int):=Int.mul_pos (by omega) (by omega)
 have q1:=Int.ediv_mul_le (xl * (g:Int)) (show low * (d:Int)≠0 by omega)
 have q2:=Int.lt_ediv_add_one_mul_self (xl * (g:Int)) p1
 have r1:=Int.ediv_mul_le (xh * (g:Int)) (show high * (d:Int)≠0 by omega)
 have r2:=Int.lt_ediv_add_one_mul_self (xh * (g:Int)) p2
 unfold LN.quoL LN.quoH at hnone
 rw [hlow,hhigh] at hnone
 generalize xl * (g:Int) / (low * (d:Int))=q at *
 generalize xh * (g:Int) / (high * (d:Int))=r at *
 have hne:q≠r:=fun e=>by rw [if_pos e] at hnone; cases hnone
 rcases Int.lt_or_gt_of_ne hne with h | h
 ·refine ⟨r,hr,fin r hr ?_ ?_⟩
  ·have:=quo_near (xl:=xh) (low:=high) (Tx:=Tx) (Ty:=Ty) (d:=d) (g:=g) (Wx:=Wx) (Wy:=Wy) r (by omega) (by omega) hh1 hh2 true (by simpa using r1)
   simpa using this
  ·have h5:(q + 1) * (low * (d:Int))≤r * (low * (d:Int)):=Int.mul_le_mul_of_nonneg_right (by omega) (by omega)
   have:=quo_near (xl:=xl) (low:=low) (Tx:=Tx) (Ty:=Ty) (d:=d) (g:=g) (Wx:=Wx) (Wy:=Wy) r (by omega) (by omega) hl1 hl2 false (by rw [if_neg Bool.false_ne_true]; omega)
   rw [if_neg Bool.false_ne_true] at this
   exact this
 ·refine ⟨q,hq,fin q hq ?_ ?_⟩
  ·have:=quo_near (xl:=xl) (low:=low) (Tx:=Tx) (Ty:=Ty) (d:=d) (g:=g) (Wx:=Wx) (Wy:=Wy) q (by omega) (by omega) hl1 hl2 true (by simpa using q1)
   simpa using this
  ·have h5:(r + 1) * (high * (d:Int))≤q * (high * (d:Int)):=Int.mul_le_mul_of_nonneg_right (by omega) (by omega)
   have:=quo_near (xl:=xh) (low:=high) (Tx:=Tx) (Ty:=Ty) (d:=d) (g:=g) (Wx:=Wx) (Wy:=Wy) q (by omega) (by omega) hh1 hh2 false (by rw [if_neg Bool.false_ne_true]; omega)
   rw [if_neg Bool.false_ne_true] at this
   exact this
end Go.Proofs.YtpbapojnbmbdlaaGreatDoor

namespace Go.Proofs.YtpbapojnbmbdlaaGreatDoor
open Go.RowKit
def Sml (N M:Nat) (l:List Rat):Prop:=∀ q∈l,q.den ∣ M∧(LN.ex M q).natAbs≤N
theorem Sml.le {N K M:Nat} {l:List Rat} (h:Sml N M l) (hK:N≤K):Sml K M l:=fun q hq=>⟨(h q hq).1,Nat.le_trans (h q hq).2 hK⟩
theorem ex_den {M:Nat} {q:Rat} (z:Int) (hM:0 < M) (h:q * (M:Rat)=(z:Rat)):q.den ∣ M∧LN.ex M q=z:=by
 have hM':(M:Rat)≠0:=by have:=Rat.natCast_pos.2 hM; grind
 have e:q=mkRat z M:=by
  rw [Rat.mkRat_eq_div]
  have:=Rat.mul_div_cancel (a:=q) hM'
  rw [← h]; exact this.symm
 have hd:q.den ∣ M:=by
  rw [e,LN.mkRat_den' _ _ (by omega)]
  exact Nat.div_dvd_of_dvd (Nat.gcd_dvd_right _ _)
 refine ⟨hd,?_⟩
 rw [← Rat.intCast_inj,LN.ex_eq hd,h]
theorem Sml.comb {N K M:Nat} {la lb:List Rat} (hM:0 < M) (ha:Sml N M la) (hb:Sml K M lb) (f g:Int):Sml (N * f.natAbs + K * g.natAbs) M (combineQ la lb (f:Rat) (g:Rat)):=by
 intro q hq
 obtain ⟨i,hi,rfl⟩:=List.mem_iff_getElem.1 hq
 have hi':i < la.length∧i < lb.length:=by simp [combineQ] at hi; omega
 simp only [combineQ,List.getElem_zipWith]
 obtain ⟨d1,n1⟩:=ha _ (List.getElem_mem hi'.1)
 obtain ⟨d2,n2⟩:=hb _ (List.getElem_mem hi'.2)
 have h:(la[i]'hi'.1 * (f:Rat) + lb[i]'hi'.2 * (g:Rat)) * (M:Rat)=((LN.ex M (la[i]'hi'.1) * f + LN.ex M (lb[i]'hi'.2) * g:Int):Rat):=by
  rw [Rat.intCast_add,Rat.intCast_mul,Rat.intCast_mul,LN.ex_eq d1,LN.ex_eq d2]
  grind
 obtain ⟨r1,r2⟩:=ex_den _ hM h
 refine ⟨r1,?_⟩
 rw [r2]
 refine Nat.le_trans (Int.natAbs_add_le _ _) ?_
 rw [Int.natAbs_mul,Int.natAbs_mul]
 exact Nat.add_le_add (Nat.mul_le_mul_right _ n1) (Nat.mul_le_mul_right _ n2)
theorem Sml.good {N M:Nat} {ps:List Int} {l:List Rat} (hM:0 < M) (h:Sml N M l) (hN:N≤Kb) (h1:∀ p∈ps,p∈smallP) (h2:ps.Nodup):Good ps l:=by
 refine ⟨h1,h2,fun x hx=>?_⟩
 obtain ⟨_,q,hq,_,he⟩:=tlist_mem hx
 have e:x.2=LN.ex (tden l) q:=he
 obtain ⟨m,hm⟩:=LN.tden_min (fun q hq=>(h q hq).1)
 have h3:=(h q hq).2
 rw [hm,Nat.mul_comm,LN.ex_mul (LN.tden_dvd hq),Int.natAbs_mul,Int.natAbs_natCast] at h3
 have hm0:0 < m:=by
  rcases Nat.eq_zero_or_pos m with h0 | h0
  ·rw [h0,Nat.mul_zero] at hm; omega
  ·exact h0
 rw [e]
 have h4:1 * (LN.ex (tden l) q).natAbs≤m * (LN.ex (tden l) q).natAbs:=Nat.mul_le_mul_right _ hm0
 omega
def difQ (la lb:List Rat):List Rat:=combineQ la lb ((1:Int):Rat) ((-1:Int):Rat)
theorem difQ_get (la lb:List Rat) (i:Nat) (h1:i < la.length) (h2:i < lb.length) (h:i < (difQ la lb).length):(difQ la lb)[i]=la[i] - lb[i]:=by
 simp only [difQ,combineQ,List.getElem_zipWith]
 grind
theorem difQ_length (la lb:List Rat) (h:la.length=lb.length):(difQ la lb).length=la.length:=combineQ_length _ _ _ _ h
theorem sz_ne {ps:List Int} {l:List Rat} (g:Good ps l) (hn:ps.length≤100) (hl:l.length=ps.length) (h:∃ q∈l,q≠0):LN.sz ps l≠0:=by
 have hne:tlQ ps l≠[]:=by
  obtain ⟨q,hq,h0⟩:=h
  obtain ⟨i,hi,rfl⟩:=List.mem_iff_getElem.1 hq
  intro e
  have hm:(ps[i]'(by omega),l[i].num * ((tden l / l[i].den:Nat):Int))∈tlQ ps l:=by
   unfold tlQ tlist
   refine List.mem_filterMap.2 ⟨(ps[i]'(by omega),l[i]),?_,?_⟩
   ·exact List.mem_iff_getElem.2 ⟨i,by simp; omega,by simp⟩
   ·rw [if_neg]
    intro hz
    exact h0 (Rat.num_eq_zero.1 hz)
  rw [e] at hm
  cases hm
 show LN.signT (tlQ ps l)≠0
 rcases g.dec hn hne with h | h
 ·rw [sign_of_lo g.trt (by decide) hne h]; decide
 ·rw [sign_of_hi g.trt (by decide) hne h]; decide
end Go.Proofs.YtpbapojnbmbdlaaGreatDoor

namespace Go.Proofs.YtpbapojnbmbdlaaGreatDoor
open Go.RowKit
theorem smallP_nd:smallP.Nodup:=by decide
theorem coefs_small {tx ty:List (Int×Int)} {d g Kx Ky R:Nat} {j:Int} (mx:∀ x∈tx,x.1∈smallP) (my:∀ x∈ty,x.1∈smallP) (nx:(tx.map Prod.fst).Nodup) (ny:(ty.map Prod.fst).Nodup)
  (hkx:∀ x∈tx,x.2.natAbs≤Kx) (hky:∀ x∈ty,x.2.natAbs≤Ky) (hj:j.natAbs≤R) (hk:g * Kx + R * d * Ky≤LN.KA)
  (h:(g * LN.sumT (lf 1024) tx - j * d * LN.sumT (lf 1024) ty).natAbs < LN.SA):∀ p∈smallP,(g:Int) * LN.coefP p tx=j * d * LN.coefP p ty:=by
 have hc:=LN.certA_ok
 rw [← certL_eq] at hc
 rw [← LN.dotI_coef (lf 1024) smallP smallP_nd tx mx,← LN.dotI_coef (lf 1024) smallP smallP_nd ty my,← dotI_lin] at h
 have hz:=LN.cert_zero hc (smallP.map fun p=>(g:Int) * LN.coefP p tx - j * d * LN.coefP p ty) (by simp) (by
  intro x hx
  obtain ⟨p,_,rfl⟩:=List.mem_map.1 hx
  have b1:=LN.coefP_le Kx tx nx hkx p
  have b2:=LN.coefP_le Ky ty ny hky p
  have c1:((g:Int) * LN.coefP p tx).natAbs≤g * Kx:=by rw [Int.natAbs_mul,Int.natAbs_natCast]; exact Nat.mul_le_mul_left _ b1
  have c2:(j * d * LN.coefP p ty).natAbs≤R * d * Ky:=by
   rw [Int.natAbs_mul,Int.natAbs_mul,Int.natAbs_natCast]
   exact Nat.mul_le_mul (Nat.mul_le_mul_right _ hj) b2
  omega) h
 intro p hp
 have:=hz _ (List.mem_map.2 ⟨p,hp,rfl⟩)
 omega
theorem sum_far' {a dd:Int} {U V:List (List Int)} {K S:Nat} (hb:LN.certOk a LN.certL U V dd K S=true) {ty:List (Int×Int)} (my:∀ x∈ty,x.1∈smallP) (ny:(ty.map Prod.fst).Nodup) (h0:∀ x∈ty,x.2≠0) (hne:ty≠[]) (hky:∀ x∈ty,x.2.natAbs≤K):S≤(LN.sumT (lf 1024) ty).natAbs:=by
 refine Nat.le_of_not_lt fun hc=>?_
 rw [← certL_eq] at hb
 rw [← LN.dotI_coef (lf 1024) smallP smallP_nd ty my] at hc
 have hz:=LN.cert_zero hb (smallP.map fun p=>LN.coefP p ty) (by simp) (by
  intro x hx
  obtain ⟨p,_,rfl⟩:=List.mem_map.1 hx
  exact LN.coefP_le _ ty ny hky p) hc
 match ty,hne with
 | x :: l,_ =>
  have h5:=hz _ (List.mem_map.2 ⟨x.1,my x List.mem_cons_self,rfl⟩)
  rw [LN.coefP_mem _ ny x List.mem_cons_self] at h5
  exact h0 x List.mem_cons_self h5
theorem sum_far {ty:List (Int×Int)} (my:∀ x∈ty,x.1∈smallP) (ny:(ty.map Prod.fst).Nodup) (h0:∀ x∈ty,x.2≠0) (hne:ty≠[]) (hky:∀ x∈ty,x.2.natAbs≤LN.KB):LN.SB≤(LN.sumT (lf 1024) ty).natAbs :=
 sum_far' LN.certB_ok my ny h0 hne hky
theorem coefP_tlist {D:Nat}:∀ (ps:List Int) (l:List Rat),ps.Nodup→l.length=ps.length→∀ (i:Nat) (h1:i < ps.length) (h2:i < l.length),LN.coefP ps[i] (tlist D ps l)=LN.ex D l[i]
 | [],_,_,_,i,h1,_=>absurd h1 (Nat.not_lt_zero i)
 | p :: ps,[],_,h,_,_,_=>by simp at h
 | p :: ps,q :: l,hd,hl,i,h1,h2=>by
  simp only [List.nodup_cons] at hd
  have key:tlist D (p :: ps) (q :: l)=(if q.num=0 then tlist D ps l else (p,LN.ex D q) :: tlist D ps l):=by
   unfold tlist
   rw [List.zip_cons_cons,List.filterMap_cons]
   by_cases h:q.num=0
   ·simp only [h,if_true]
   ·simp only [h,if_false]; rfl
  have hnot:LN.coefP p (tlist D ps l)=0:=LN.coefP_none p _ fun hm=>hd.1 ((tlist_fst D ps l).subset hm)
  rw [key]
  cases i with
  | zero =>
   simp only [List.getElem_cons_zero]
   by_cases h:q.num=0
   ·rw [if_pos h,hnot,LN.ex_zero q h]
   ·rw [if_neg h,LN.coefP,if_pos rfl,hnot]; simp
  | succ i =>
   simp only [List.getElem_cons_succ]
   have h1':i < ps.length:=by simpa using h1
   have h2':i < l.length:=by simpa using h2
   have ih:=coefP_tlist (D:=D) ps l hd.2 (by simpa using hl) i h1' h2'
   by_cases h:q.num=0
   ·rw [if_pos h]; exact ih
   ·rw [if_neg h,LN.coefP,if_neg (fun e:p=ps[i]=>hd.1 (by rw [e]; exact List.getElem_mem h1')),ih]; simp
theorem mult_of_coefs {ps:List Int} {la lb:List Rat} {j:Int} (hnd:ps.Nodup) (hps:∀ p∈ps,p∈smallP) (l1:la.length=ps.length) (l2:lb.length=ps.length)
  (h:∀ p∈smallP,((tden lb:Nat):Int) * LN.coefP p (tlQ ps la)=j * ((tden la:Nat):Int) * LN.coefP p (tlQ ps lb)):la=lb.map fun x=>(j:Rat) * x:=by
 refine List.ext_getElem (by simp; omega) fun i h1 h2=>?_
 have i2:i < lb.length:=by omega
 have i3:i < ps.length:=by omega
 have e:=h ps[i] (hps _ (List.getElem_mem i3))
 unfold tlQ at e
 rw [coefP_tlist ps la hnd l1 i i3 h1,coefP_tlist ps lb hnd l2 i i3 i2] at e
 rw [List.getElem_map]
 have e2:(((tden lb:Nat):Int) * LN.ex (tden la) la[i]:Int)=((j * ((tden la:Nat):Int) * LN.ex (tden lb) lb[i]:Int)):=e
 have e3:((((tden lb:Nat):Int) * LN.ex (tden la) la[i]:Int):Rat)=((j * ((tden la:Nat):Int) * LN.ex (tden lb) lb[i]:Int):Rat):=by rw [e2]
 rw [Rat.intCast_mul,Rat.intCast_mul,Rat.intCast_mul,LN.ex_eq (LN.tden_dvd (List.getElem_mem h1)),LN.ex_eq (LN.tden_dvd (List.getElem_mem i2)),Rat.intCast_natCast,Rat.intCast_natCast] at e3
 have n1:((tden la:Nat):Rat)≠0:=by have:=Rat.natCast_pos.2 (LN.tden_pos' la); grind
 have n2:((tden lb:Nat):Rat)≠0:=by have:=Rat.natCast_pos.2 (LN.tden_pos' lb); grind
 generalize ((tden la:Nat):Rat)=a at *
 generalize ((tden lb:Nat):Rat)=b at *
 have hab:a * b≠0:=by
  intro hz
  rcases Rat.mul_eq_zero.1 hz with h | h
  ·exact n1 h
  ·exact n2 h
 have e4:(a * b) * la[i]=(a * b) * ((j:Rat) * lb[i]):=by grind
 have e5:=Rat.mul_inv_cancel (a * b) hab
 calc la[i]=(a * b) * (a * b)⁻¹ * la[i]:=by rw [e5,Rat.one_mul]
  _=(a * b)⁻¹ * ((a * b) * la[i]):=by grind
  _=(a * b)⁻¹ * ((a * b) * ((j:Rat) * lb[i])):=by rw [e4]
  _=(a * b) * (a * b)⁻¹ * ((j:Rat) * lb[i]):=by grind
  _=(j:Rat) * lb[i]:=by rw [e5,Rat.one_mul]
theorem ratio_mult {la lb:List Rat} {k:Rat} (h:la=lb.map fun x=>k * x):∀ n,(∃ i,i < n∧lb.getD i 0≠0)→ratioK la lb n=k
 | 0,⟨i,hi,_⟩=>absurd hi (Nat.not_lt_zero i)
 | n + 1,⟨i,hi,h0⟩=>by
  unfold ratioK
  by_cases hz:lb.getD n 0=0
  ·rw [if_pos hz]
   refine ratio_mult h n ⟨i,?_,h0⟩
   rcases Nat.lt_or_ge i n with hlt | hge
   ·exact hlt
   ·have:i=n:=by omega
    rw [this] at h0
    exact absurd hz h0
  ·rw [if_neg hz]
   have hlt:n < lb.length:=by
    refine Nat.lt_of_not_le fun hc=>hz ?_
    rw [List.getD_eq_getElem?_getD,List.getElem?_eq_none hc]; rfl
   have e:la.getD n 0=k * lb.getD n 0:=by
    rw [h,List.getD_eq_getElem?_getD,List.getD_eq_getElem?_getD,List.getElem?_map,List.getElem?_eq_getElem hlt]; rfl
   rw [e]
   generalize lb.getD n 0=x at *
   rw [Rat.div_def,Rat.mul_assoc,Rat.mul_inv_cancel x hz,Rat.mul_one]
theorem ratioB_mult {la lb:List Rat} {k:Rat} (h:la=lb.map fun x=>k * x) (n:Nat) (h0:∃ i,i < n∧lb.getD i 0≠0):ratioB la lb n (ratioK la lb n)=true:=by
 rw [ratio_mult h n h0]
 refine decide_eq_true fun j _=>?_
 rw [h,List.getD_eq_getElem?_getD,List.getD_eq_getElem?_getD,List.getElem?_map]
 cases lb[j]? with
 | none=>show k * 0=0; rw [Rat.mul_zero]
 | some x=>rfl
theorem flAt_dec {ps:List Int} {la lb:List Rat} {Kx Ky R X S:Nat} (hps:∀ p∈ps,p∈smallP) (hnd:ps.Nodup) (l1:la.length=ps.length) (l2:lb.length=ps.length) (hkx:∀ x∈tlQ ps la,x.2.natAbs≤Kx) (hky:∀ x∈tlQ ps lb,x.2.natAbs≤Ky)
  (hne:tlQ ps lb≠[]) (hS:S≤(LN.sumT (lf 1024) (tlQ ps lb)).natAbs)
  (N:FNum Kx Ky (tden la) (tden lb) S R ((tlQ ps la).length * Kx) ((tlQ ps lb).length * Ky) X) (hX:(LN.eLo (lf 1024) (tlQ ps la)).natAbs≤X∧(LN.eHi (lf 1024) (tlQ ps la)).natAbs≤X)
  (hr:ratioB la lb ps.length (ratioK la lb ps.length)=false):flAt 1024 (tlQ ps la) (tlQ ps lb) (tden la) (tden lb)≠none:=by
 intro hnone
 have mx:∀ x∈tlQ ps la,x.1∈smallP:=fun x hx=>hps _ (tlist_mem hx).1
 have my:∀ x∈tlQ ps lb,x.1∈smallP:=fun x hx=>hps _ (tlist_mem hx).1
 have nx:((tlQ ps la).map Prod.fst).Nodup:=(tlist_fst _ ps la).nodup hnd
 have ny:((tlQ ps lb).map Prod.fst).Nodup:=(tlist_fst _ ps lb).nodup hnd
 have key:∃ j:Int,j.natAbs≤R∧(((tden lb:Nat):Int) * LN.sumT (lf 1024) (tlQ ps la) - j * ((tden la:Nat):Int) * LN.sumT (lf 1024) (tlQ ps lb)).natAbs < LN.SA:=by
  have hd:=LN.tden_pos' la
  obtain ⟨y1,y2,y3,y4⟩:=ends_near (lf 1024) Ky (tlQ ps lb) hky
  have hs:=N.s
  unfold flAt flS at hnone
  rcases Int.lt_or_le 0 (LN.sumT (lf 1024) (tlQ ps lb)) with hT | hT
  ·rw [if_neg (by omega)] at hnone
   exact flE_none hd hkx hky N (by omega) hX hnone
  ·rw [if_pos (by omega)] at hnone
   have len1:(LN.negT (tlQ ps la)).length=(tlQ ps la).length:=by simp [LN.negT]
   have len2:(LN.negT (tlQ ps lb)).length=(tlQ ps lb).length:=by simp [LN.negT]
   obtain ⟨a1,a2⟩:=eLo_neg (lf 1024) (tlQ ps la)
   obtain ⟨b1,b2⟩:=eLo_neg (lf 1024) (tlQ ps lb)
   have kneg:∀ {l:List (Int×Int)} {K:Nat},(∀ x∈l,x.2.natAbs≤K)→∀ x∈LN.negT l,x.2.natAbs≤K:=by
    intro l K h x hx
    obtain ⟨y,hy,rfl⟩:=List.mem_map.1 hx
    have:=h y hy
    show (-y.2).natAbs≤K
    omega
   obtain ⟨j,hj,hz⟩:=flE_none (f:=lf 1024) (tx:=LN.negT (tlQ ps la)) (ty:=LN.negT (tlQ ps lb)) (S:=S) (R:=R) (X:=X) hd (kneg hkx) (kneg hky) (by rw [len1,len2]; exact N) (by rw [sumT_neg]; omega) (by rw [a1,a2]; omega) (by rw [a1,a2,b1,b2]; exact hnone)
   refine ⟨j,hj,?_⟩
   rw [sumT_neg,sumT_neg,Int.mul_neg,Int.mul_neg] at hz
   omega
 obtain ⟨j,hj,hz⟩:=key
 have hm:=mult_of_coefs hnd hps l1 l2 (coefs_small mx my nx ny hkx hky hj N.k hz)
 have h0:∃ i,i < ps.length∧lb.getD i 0≠0:=by
  refine Classical.byContradiction fun hc=>hne ?_
  have hall:∀ q∈lb,q=0:=fun q hq=>by
   obtain ⟨i,hi,rfl⟩:=List.mem_iff_getElem.1 hq
   refine Classical.byContradiction fun h=>hc ⟨i,by omega,?_⟩
   rw [List.getD_eq_getElem?_getD,List.getElem?_eq_getElem hi]; exact h
  refine List.eq_nil_iff_forall_not_mem.2 fun x hx=>?_
  obtain ⟨_,q,hq,hn,_⟩:=tlist_mem hx
  exact hn (by rw [hall q hq]; rfl)
 rw [ratioB_mult hm ps.length h0] at hr
 cases hr
end Go.Proofs.YtpbapojnbmbdlaaGreatDoor

namespace Go.Proofs.YtpbapojnbmbdlaaGreatDoor
open Go.RowKit
def RB:Nat:=2 ^ 104
def XB:Nat:=6 * 2 ^ (13 + (1024 + 3))
theorem num_s:6 * 4096 < LN.SB:=by decide +kernel
theorem num_r:XB * 12 < RB * (LN.SB - 6 * 4096):=by decide +kernel
theorem num_k:12 * 4096 + RB * 12 * 4096≤LN.KA:=by decide +kernel
theorem num_t:12 * (6 * 4096) + RB * 12 * (6 * 4096) < LN.SA:=by decide +kernel
theorem num_kb:4096≤LN.KB:=by decide +kernel
set_option maxRecDepth 100000 in
theorem fnum_small {d g nx ny S R X:Nat} (hd:d≤12) (hg:g≤12) (hx:nx≤6) (hy:ny≤6) (h1:6 * 4096 < S) (h2:X * 12 < R * (S - 6 * 4096)) (h3:12 * 4096 + R * 12 * 4096≤LN.KA) (h4:12 * (6 * 4096) + R * 12 * (6 * 4096) < LN.SA) :
  FNum 4096 4096 d g S R (nx * 4096) (ny * 4096) X:=by
 have b1:nx * 4096≤6 * 4096:=Nat.mul_le_mul_right _ hx
 have b2:ny * 4096≤6 * 4096:=Nat.mul_le_mul_right _ hy
 have b3:R * d≤R * 12:=Nat.mul_le_mul_left _ hd
 refine ⟨by clear h2 h3 h4; omega,?_,?_,?_⟩
 ·have c1:X * g≤X * 12:=Nat.mul_le_mul_left _ hg
  have c2:R * (S - 6 * 4096)≤R * (S - ny * 4096):=Nat.mul_le_mul_left _ (by clear h2 h3 h4; omega)
  clear h3 h4
  omega
 ·have c1:R * d * 4096≤R * 12 * 4096:=Nat.mul_le_mul_right _ b3
  clear h2 h4
  omega
 ·have c1:R * d * (ny * 4096)≤R * 12 * (6 * 4096):=Nat.mul_le_mul b3 b2
  have c2:g * (nx * 4096)≤12 * (6 * 4096):=Nat.mul_le_mul hg b1
  clear h2 h3
  omega
theorem Sml.kb {N M:Nat} {ps:List Int} {l:List Rat} (hM:0 < M) (h:Sml N M l):∀ x∈tlQ ps l,x.2.natAbs≤N:=by
 intro x hx
 obtain ⟨_,q,hq,_,he⟩:=tlist_mem hx
 have e:x.2=LN.ex (tden l) q:=he
 obtain ⟨m,hm⟩:=LN.tden_min (fun q hq=>(h q hq).1)
 have h3:=(h q hq).2
 rw [hm,Nat.mul_comm,LN.ex_mul (LN.tden_dvd hq),Int.natAbs_mul,Int.natAbs_natCast] at h3
 have hm0:0 < m:=by
  rcases Nat.eq_zero_or_pos m with h0 | h0
  ·rw [h0,Nat.mul_zero] at hm; omega
  ·exact h0
 rw [e]
 have h4:1 * (LN.ex (tden l) q).natAbs≤m * (LN.ex (tden l) q).natAbs:=Nat.mul_le_mul_right _ hm0
 omega
theorem Sml.den {N:Nat} {l:List Rat} (h:Sml N 12 l):tden l≤12:=Nat.le_of_dvd (by decide) (LN.tden_min (fun q hq=>(h q hq).1))
theorem tlQ_len6 {ps:List Int} (h:ps.length≤6) (l:List Rat):(tlQ ps l).length≤6:=Nat.le_trans (by have:=(tlist_fst (tden l) ps l).length_le; rw [List.length_map] at this; exact this) h
theorem tlQ_ne {ps:List Int} {l:List Rat} (hl:l.length=ps.length) (h:∃ q∈l,q≠0):tlQ ps l≠[]:=by
 obtain ⟨q,hq,h0⟩:=h
 obtain ⟨i,hi,rfl⟩:=List.mem_iff_getElem.1 hq
 intro e
 have hm:(ps[i]'(by omega),l[i].num * ((tden l / l[i].den:Nat):Int))∈tlQ ps l:=by
  unfold tlQ tlist
  refine List.mem_filterMap.2 ⟨(ps[i]'(by omega),l[i]),?_,?_⟩
  ·exact List.mem_iff_getElem.2 ⟨i,by simp; omega,by simp⟩
  ·rw [if_neg]
   intro hz
   exact h0 (Rat.num_eq_zero.1 hz)
 rw [e] at hm
 cases hm
theorem x_bound {tl:List (Int×Int)} (hp:PrT tl) (hl:tl.length≤6) (hk:∀ x∈tl,x.2.natAbs < 2 ^ 13):(LN.eLo (lf 1024) tl).natAbs≤XB∧(LN.eHi (lf 1024) tl).natAbs≤XB:=by
 obtain ⟨h1,h2⟩:=eSum_le (n:=1024) (by decide) tl hp hk
 unfold XB
 have h3:=@Nat.mul_le_mul_right tl.length 6 (2 ^ (13 + (1024 + 3))) hl
 exact ⟨Nat.le_trans h1 h3,Nat.le_trans h2 h3⟩
theorem flr_small {ps:List Int} {la lb:List Rat} (hps:∀ p∈ps,p∈smallP) (hnd:ps.Nodup) (h6:ps.length≤6) (l1:la.length=ps.length) (l2:lb.length=ps.length) (ha:Sml 4096 12 la) (hb:Sml 4096 12 lb) (h0:∃ q∈lb,q≠0):FlrOk ps la lb 13:=by
 have kx:=ha.kb (ps:=ps) (by decide)
 have ky:=hb.kb (ps:=ps) (by decide)
 have kx':∀ x∈tlQ ps la,x.2.natAbs < 2 ^ 13:=fun x hx=>Nat.lt_of_le_of_lt (kx x hx) (by decide)
 have ky':∀ x∈tlQ ps lb,x.2.natAbs < 2 ^ 13:=fun x hx=>Nat.lt_of_le_of_lt (ky x hx) (by decide)
 have my:∀ x∈tlQ ps lb,x.1∈smallP:=fun x hx=>hps _ (tlist_mem hx).1
 have hne:=tlQ_ne l2 h0
 refine ⟨hps,h6,kx',ky',Nat.lt_of_le_of_lt ha.den (by decide),Nat.lt_of_le_of_lt hb.den (by decide),by decide,sz_ne (hb.good (by decide) (by decide) hps hnd) (by omega) l2 h0,fun hr=>?_⟩
 exact flAt_dec hps hnd l1 l2 kx ky hne (sum_far my ((tlist_fst _ ps lb).nodup hnd) (fun _ hx=>tlQ_nz hx) hne fun x hx=>Nat.le_trans (ky x hx) num_kb)
  (fnum_small ha.den hb.den (tlQ_len6 h6 la) (tlQ_len6 h6 lb) num_s num_r num_k num_t) (x_bound (fun x hx=>smallP_pr (hps _ (tlist_mem hx).1)) (tlQ_len6 h6 la) kx') hr
theorem zw_sub {la lb:List Rat} (q r:Int) (h:la.length=lb.length):LN.subQ r la lb=List.zipWith (· + ·) (LN.subQ q la lb) (lb.map fun x=>(((q - r:Int)):Rat) * x):=by
 obtain ⟨m,hm⟩:∃ m:Rat,(((q - r:Int)):Rat)=m:=⟨_,rfl⟩
 have e:=Rat.intCast_sub q r
 rw [hm] at e ⊢
 clear hm
 refine List.ext_getElem (by simp [LN.subQ,h]) fun i h1 h2=>?_
 simp only [LN.subQ,List.getElem_zipWith,List.getElem_map]
 grind
theorem sz_lt_le {ps:List Int} {a b c:List Rat} (hp:∀ p∈ps,0 < p) (hab:a.length=b.length) (hc:c=List.zipWith (· + ·) a b):(LN.sz ps a < 0→LN.sz ps b≤0→LN.sz ps c < 0)∧(0 < LN.sz ps a→0≤LN.sz ps b→0 < LN.sz ps c):=by
 obtain ⟨x,y,hx,hy,e1,e2,e3⟩:=LN.sz_sum hp hab hc
 rw [e1,e2,e3]
 constructor
 ·intro h1 h2
  have h3:LN.sg x = -1:=by rcases LN.sg_cases x with h | h | h <;> omega
  rw [LN.sg_low.2 (LN.mul_lt_one hx (LN.sg_low.1 h3) (LN.sg_le.1 h2))]
  decide
 ·intro h1 h2
  have h3:LN.sg x=1:=by rcases LN.sg_cases x with h | h | h <;> omega
  rw [LN.sg_pos.2 (LN.one_lt_mul (LN.sg_pos.1 h3) (LN.sg_ge.1 h2))]
  decide
theorem szc {ps:List Int} (hp:∀ p∈ps,0 < p) (l:List Rat):LN.sz ps l=1∨LN.sz ps l=0∨LN.sz ps l = -1:=by
 rw [LN.sz_of_vt hp]; exact LN.sg_cases _
theorem floor_lt {ps:List Int} {la lb:List Rat} (hp:∀ p∈ps,0 < p) (hl:la.length=lb.length) {q r:Int} (hq:LN.FloorOf ps la lb q) (hr:LN.FloorOf ps la lb r):r≤q:=by
 refine Int.not_lt.1 fun hlt=>?_
 have h1:=hq.2
 have h2:=hr.1
 have e:=zw_sub (q + 1) r hl (la:=la) (lb:=lb)
 have hlen:(LN.subQ (q + 1) la lb).length=(lb.map fun x=>(((q + 1 - r:Int)):Rat) * x).length:=by simp [LN.subQ,hl]
 obtain ⟨k1,k2⟩:=sz_lt_le hp hlen e
 rw [LN.sz_mul hp] at k1 k2
 have hs:(((q + 1 - r:Int)):Rat).num.sign=(q + 1 - r).sign:=by rw [Rat.num_intCast]
 rw [hs] at k1 k2
 have hn:(q + 1 - r).sign = -1∨(q + 1 - r).sign=0:=by
  rcases sign_cases (q + 1 - r) with h | h | h
  ·exact .inl h.2
  ·exact .inr h.2
  ·omega
 rcases szc hp lb with hw | hw | hw
 ·rw [hw] at h1 h2 k1
  have:=k1 (by omega) (by rcases hn with h | h <;> rw [h] <;> decide)
  omega
 ·rw [hw] at h1; omega
 ·rw [hw] at h1 h2 k2
  have:=k2 (by omega) (by rcases hn with h | h <;> rw [h] <;> decide)
  omega
theorem floor_one {ps:List Int} {la lb:List Rat} (hp:∀ p∈ps,0 < p) (hl:la.length=lb.length) {q r:Int} (hq:LN.FloorOf ps la lb q) (hr:LN.FloorOf ps la lb r):q=r:=by
 have h1:=floor_lt hp hl hq hr
 have h2:=floor_lt hp hl hr hq
 omega
theorem FlrOk.exists {ps:List Int} {la lb:List Rat} {E:Nat} (F:FlrOk ps la lb E) (l1:la.length=ps.length) (l2:lb.length=ps.length):∃ q,LN.FloorOf ps la lb q:=by
 cases hr:ratioB la lb ps.length (ratioK la lb ps.length) with
 | true=>exact ⟨_,ratio_floor F.pr l1 l2 hr F.nz⟩
 | false =>
  have h:=F.dec hr
  cases hf:flAt 1024 (tlQ ps la) (tlQ ps lb) (tden la) (tden lb) with
  | none=>exact absurd hf h
  | some q=>exact ⟨q,flAt_floor F.pr (l1.trans l2.symm) (by decide) hf⟩
theorem floor_det (w:World) (ps:List Int) (a0 a1 a2:Option Addr) (c0 c1 c2 D E:Nat) (la lb:List Rat) (A:SizeOk w ps a0 a1 la D) (B:SizeOk w ps a0 a2 lb D) (hD0:0 < D) (F:FlrOk ps la lb E) (L:Laid w) {q:Int} (hq:LN.FloorOf ps la lb q) :
  Gives Tryz.prog 92 #[.slice a0 ps.length c0,.slice a1 la.length c1,.slice a2 lb.length c2] w (.string (itx q)):=by
 refine Calls.mono (floor_any w ps a0 a1 a2 c0 c1 c2 D E la lb A B hD0 F L) ?_
 rintro e w' ⟨⟨r,rfl,hr⟩,hb⟩
 rw [floor_one (smallP_pos' F.pr) (A.len.trans B.len.symm) hq hr]
 exact ⟨rfl,hb⟩
end Go.Proofs.YtpbapojnbmbdlaaGreatDoor

namespace Go.Proofs.YtpbapojnbmbdlaaGreatDoor
open Go.RowKit
def RV:Nat:=2 ^ 116
def XV:Nat:=6 * 2 ^ (24 + (1024 + 3))
def NV:Nat:=8388608
theorem nv_s:6 * 64 < LN.SB:=by decide +kernel
theorem nv_r:XV * 12 < RV * (LN.SB - 6 * 64):=by decide +kernel
theorem nv_k:12 * NV + RV * 12 * 64≤LN.KA:=by decide +kernel
theorem nv_t:12 * (6 * NV) + RV * 12 * (6 * 64) < LN.SA:=by decide +kernel
theorem nv_kb:64≤LN.KB:=by decide +kernel
set_option maxRecDepth 100000 in
theorem fnum_big {d g nx ny S R X N:Nat} (hd:d≤12) (hg:g≤12) (hx:nx≤6) (hy:ny≤6) (h1:6 * 64 < S) (h2:X * 12 < R * (S - 6 * 64)) (h3:12 * N + R * 12 * 64≤LN.KA) (h4:12 * (6 * N) + R * 12 * (6 * 64) < LN.SA) :
  FNum N 64 d g S R (nx * N) (ny * 64) X:=by
 have b1:nx * N≤6 * N:=Nat.mul_le_mul_right _ hx
 have b2:ny * 64≤6 * 64:=Nat.mul_le_mul_right _ hy
 have b3:R * d≤R * 12:=Nat.mul_le_mul_left _ hd
 refine ⟨by clear h2 h3 h4; omega,?_,?_,?_⟩
 ·have c1:X * g≤X * 12:=Nat.mul_le_mul_left _ hg
  have c2:R * (S - 6 * 64)≤R * (S - ny * 64):=Nat.mul_le_mul_left _ (by clear h2 h3 h4; omega)
  clear h3 h4
  omega
 ·have c1:R * d * 64≤R * 12 * 64:=Nat.mul_le_mul_right _ b3
  have c2:g * N≤12 * N:=Nat.mul_le_mul_right _ hg
  clear h2 h4
  omega
 ·have c1:R * d * (ny * 64)≤R * 12 * (6 * 64):=Nat.mul_le_mul b3 b2
  have c2:g * (nx * N)≤12 * (6 * N):=Nat.mul_le_mul hg b1
  clear h2 h3
  omega
theorem xv_bound {tl:List (Int×Int)} (hp:PrT tl) (hl:tl.length≤6) (hk:∀ x∈tl,x.2.natAbs < 2 ^ 24):(LN.eLo (lf 1024) tl).natAbs≤XV∧(LN.eHi (lf 1024) tl).natAbs≤XV:=by
 obtain ⟨h1,h2⟩:=eSum_le (n:=1024) (by decide) tl hp hk
 unfold XV
 have h3:=@Nat.mul_le_mul_right tl.length 6 (2 ^ (24 + (1024 + 3))) hl
 exact ⟨Nat.le_trans h1 h3,Nat.le_trans h2 h3⟩
theorem flr_big {ps:List Int} {la lb:List Rat} (hps:∀ p∈ps,p∈smallP) (hnd:ps.Nodup) (h6:ps.length≤6) (l1:la.length=ps.length) (l2:lb.length=ps.length) (ha:Sml NV 12 la) (hb:Sml 64 12 lb) (h0:∃ q∈lb,q≠0):FlrOk ps la lb 24:=by
 have kx:=ha.kb (ps:=ps) (by decide)
 have ky:=hb.kb (ps:=ps) (by decide)
 have kx':∀ x∈tlQ ps la,x.2.natAbs < 2 ^ 24:=fun x hx=>Nat.lt_of_le_of_lt (kx x hx) (by decide)
 have ky':∀ x∈tlQ ps lb,x.2.natAbs < 2 ^ 24:=fun x hx=>Nat.lt_of_le_of_lt (ky x hx) (by decide)
 have my:∀ x∈tlQ ps lb,x.1∈smallP:=fun x hx=>hps _ (tlist_mem hx).1
 have hne:=tlQ_ne l2 h0
 refine ⟨hps,h6,kx',ky',Nat.lt_of_le_of_lt ha.den (by decide),Nat.lt_of_le_of_lt hb.den (by decide),by decide,sz_ne (hb.good (by decide) (by decide) hps hnd) (by omega) l2 h0,fun hr=>?_⟩
 exact flAt_dec hps hnd l1 l2 kx ky hne (sum_far my ((tlist_fst _ ps lb).nodup hnd) (fun _ hx=>tlQ_nz hx) hne fun x hx=>Nat.le_trans (ky x hx) nv_kb)
  (fnum_big ha.den hb.den (tlQ_len6 h6 la) (tlQ_len6 h6 lb) nv_s nv_r nv_k nv_t) (xv_bound (fun x hx=>smallP_pr (hps _ (tlist_mem hx).1)) (tlQ_len6 h6 la) kx') hr
end Go.Proofs.YtpbapojnbmbdlaaGreatDoor

namespace Go.Proofs.YtpbapojnbmbdlaaGreatDoor
open Go.RowKit
theorem rat_one_int:((1:Int):Rat)=1:=rfl
theorem rat_mone_int:((-1:Int):Rat) = -1:=by decide +kernel
theorem cmp_ok {W:World} {ps:List Int} {a0 a1 a2:Option Addr} (c0 c1 c2:Nat) {la lb:List Rat} (hp:pcode ps=0) (h13:∀ p∈ps,2≤p∧p≤13) (hn:ps.length≤100) (rp:Rd W a0 (ints ps)) (r1:Rd W a1 (cellsQ la)) (r2:Rd W a2 (cellsQ lb))
  (l1:la.length=ps.length) (l2:lb.length=ps.length) (s1:∀ q∈la,Sm 30 q) (s2:∀ q∈lb,Sm 30 q) (g:Good ps (difQ la lb)) (L:Laid W) :
  Gives Tryz.prog 52 #[.slice a0 ps.length c0,.slice a1 ps.length c1,.slice a2 ps.length c2] W (.tuple #[.int .i64 (LN.sz ps (difQ la lb)),.int .i64 0]):=by
 have e:sumQ ps.length [la,lb] [1,-1]=difQ la lb:=by
  rw [sumQ_two _ _ _ _ _ l1 l2]
  unfold difQ
  rw [rat_one_int,rat_mone_int]
 have h97:∀ p∈ps,2≤p∧p≤97:=fun p hp=>by have:=h13 p hp; omega
 have h:=Compare_dec W ps a0 a1 a2 c0 c1 c2 la lb ⟨rp,r1,l1,hn,h97,s1,by decide⟩ ⟨rp,r2,l2,hn,h97,s2,by decide⟩ hp L (by rw [e]; exact g)
 rw [e,l1,l2] at h
 exact h
end Go.Proofs.YtpbapojnbmbdlaaGreatDoor
