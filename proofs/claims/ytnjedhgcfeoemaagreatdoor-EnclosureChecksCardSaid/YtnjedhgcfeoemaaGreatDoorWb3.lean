/- Lemmas for the laws of this seat, part 3. -/
import Derived.Laws.BitsLemmas
import Derived.Laws.Bits64
import Derived.Shelf.Lays7
import Derived.Shelf.Spec.BitsCarry
import Derived.WalkMore
import Derived.Scope
import Derived.Test.YtnjedhgcfeoemaaGreatDoorWb2
set_option maxRecDepth 100000
set_option maxHeartbeats 16000000
namespace Go.Proofs.YtnjedhgcfeoemaaGreatDoor
open Go.RowKit
def vW:List Nat→Nat
 | []=>0
 | x :: l=>x + 18446744073709551616 * vW l
theorem vW_append:∀ (a b:List Nat),vW (a ++ b)=vW a + 18446744073709551616 ^ a.length * vW b
 | [],b=>by simp [vW]
 | x :: a,b=>by
  simp only [List.cons_append,vW,List.length_cons,vW_append a b,Nat.pow_succ]
  rw [Nat.mul_add,← Nat.mul_assoc,Nat.mul_comm (18446744073709551616 ^ a.length)]
  omega
theorem vW_snoc (a:List Nat) (x:Nat):vW (a ++ [x])=vW a + 18446744073709551616 ^ a.length * x:=by
 rw [vW_append]; simp [vW]
theorem vW_zeros (k:Nat):vW (List.replicate k 0)=0:=by
 induction k with
 | zero=>rfl
 | succ k ih=>rw [List.replicate_succ]; simp [vW,ih]
def Wds (l:List Nat):Prop:=∀ x∈l,x < 18446744073709551616
theorem Wds.getD {l:List Nat} (h:Wds l) (i:Nat):l.getD i 0 < 18446744073709551616:=by
 rw [List.getD_eq_getElem?_getD]
 cases hk:l[i]? with
 | none=>simp
 | some x=>exact h x (List.mem_of_getElem? hk)
theorem Wds.set {l:List Nat} (h:Wds l) (i x:Nat) (hx:x < 18446744073709551616):Wds (l.set i x):=fun y hy=>by
 rcases List.mem_or_eq_of_mem_set hy with hy | hy
 ·exact h y hy
 ·rw [hy]; exact hx
theorem Wds.take {l:List Nat} (h:Wds l) (k:Nat):Wds (l.take k):=fun x hx=>h x (List.mem_of_mem_take hx)
theorem Wds.append {l m:List Nat} (h:Wds l) (h2:Wds m):Wds (l ++ m):=fun x hx=>(List.mem_append.1 hx).elim (h x) (h2 x)
theorem Wds.zeros (k:Nat):Wds (List.replicate k 0):=fun x hx=>by rw [List.eq_of_mem_replicate hx]; decide
theorem vW_lt:∀ {l:List Nat},Wds l→vW l < 18446744073709551616 ^ l.length
 | [],_=>by simp [vW]
 | x :: l,h=>by
  have h1:=h x List.mem_cons_self
  have h2:=vW_lt (l:=l) fun y hy=>h y (List.mem_cons_of_mem _ hy)
  rw [List.length_cons,Nat.pow_succ,vW]
  omega
theorem vW_take_drop (l:List Nat) (k:Nat) (h:k≤l.length):vW l=vW (l.take k) + 18446744073709551616 ^ k * vW (l.drop k):=by
 conv=>lhs; rw [← List.take_append_drop k l]
 rw [vW_append,List.length_take,Nat.min_eq_left h]
theorem vW_take_succ (l:List Nat) (k:Nat) (h:k < l.length):vW (l.take (k + 1))=vW (l.take k) + 18446744073709551616 ^ k * l.getD k 0:=by
 have e:l.getD k 0=l[k]:=by rw [List.getD_eq_getElem?_getD,List.getElem?_eq_getElem h]; rfl
 rw [List.take_succ_eq_append_getElem h,vW_snoc,List.length_take,Nat.min_eq_left (Nat.le_of_lt h),e]
theorem vW_set:∀ (l:List Nat) (k x:Nat),k < l.length→vW (l.set k x) + 18446744073709551616 ^ k * l.getD k 0=vW l + 18446744073709551616 ^ k * x
 | [],k,x,h=>by simp at h
 | y :: l,0,x,h=>by simp [vW]; omega
 | y :: l,k + 1,x,h=>by
  have ih:=vW_set l k x (by simpa using h)
  simp only [List.set_cons_succ,vW,List.getD_cons_succ,Nat.pow_succ]
  rw [Nat.mul_comm (18446744073709551616 ^ k),Nat.mul_assoc,Nat.mul_assoc]
  omega
theorem vW_take {l:List Nat} (h:Wds l) {k:Nat} (hk:k≤l.length):vW (l.take k)=vW l % 18446744073709551616 ^ k:=by
 have h1:=vW_lt (h.take k)
 rw [List.length_take,Nat.min_eq_left hk] at h1
 rw [vW_take_drop l k hk,Nat.add_mul_mod_self_left,Nat.mod_eq_of_lt h1]
theorem vW_drop {l:List Nat} (h:Wds l) {k:Nat} (hk:k≤l.length):vW (l.drop k)=vW l / 18446744073709551616 ^ k:=by
 have h1:=vW_lt (h.take k)
 rw [List.length_take,Nat.min_eq_left hk] at h1
 rw [vW_take_drop l k hk,Nat.add_mul_div_left _ _ (Nat.pow_pos (by decide)),Nat.div_eq_of_lt h1,Nat.zero_add]
theorem vW_digit {l:List Nat} (h:Wds l) (k:Nat):l.getD k 0=vW l / 18446744073709551616 ^ k % 18446744073709551616:=by
 by_cases hk:k < l.length
 ·rw [← vW_drop h (Nat.le_of_lt hk),List.drop_eq_getElem_cons hk,vW,Nat.add_mul_mod_self_left]
  have e:l.getD k 0=l[k]:=by rw [List.getD_eq_getElem?_getD,List.getElem?_eq_getElem hk]; rfl
  rw [e,Nat.mod_eq_of_lt (h _ (List.getElem_mem hk))]
 ·have h1:=vW_lt h
  have h2:18446744073709551616 ^ l.length≤18446744073709551616 ^ k:=Nat.pow_le_pow_right (by decide) (by omega)
  rw [Nat.div_eq_of_lt (by omega),List.getD_eq_getElem?_getD,List.getElem?_eq_none (by omega)]; rfl
theorem vW_of_digits {l:List Nat} {X m:Nat} (hl:l.length=m) (h:∀ i,i < m→l.getD i 0=X / 18446744073709551616 ^ i % 18446744073709551616):vW l=X % 18446744073709551616 ^ m:=by
 have key:∀ k,k≤m→vW (l.take k)=X % 18446744073709551616 ^ k:=by
  intro k
  induction k with
  | zero=>intro _; simp [vW,Nat.mod_one]
  | succ k ih =>
   intro hk
   rw [vW_take_succ l k (by omega),ih (by omega),h k (by omega),Nat.pow_succ,Nat.mod_mul]
 have:=key m nr_
 rwa [List.take_of_length_le (by omega)] at this
/-! Squares. -/
theorem sq_step (M q:List Nat) (i m x cc vL:Nat) (hm:m < q.length) (hi:i + m < M.length)
  (h:vW M + 18446744073709551616 ^ (i + m) * cc=vL + 18446744073709551616 ^ i * (x * vW (q.take m))) :
  vW (M.set (i + m) ((x * q.getD m 0 + M.getD (i + m) 0 + cc) % 18446744073709551616)) + 18446744073709551616 ^ (i + (m + 1)) * ((x * q.getD m 0 + M.getD (i + m) 0 + cc) / 18446744073709551616) =
   vL + 18446744073709551616 ^ i * (x * vW (q.take (m + 1))):=by
 have hs:=vW_set M (i + m) ((x * q.getD m 0 + M.getD (i + m) 0 + cc) % 18446744073709551616) hi
 rw [vW_take_succ q m hm]
 generalize M.getD (i + m) 0=e at *
 generalize q.getD m 0=y at *
 have hdm:=Nat.mod_add_div (x * y + e + cc) 18446744073709551616
 have e1:18446744073709551616 ^ (i + (m + 1)) * ((x * y + e + cc) / 18446744073709551616)=18446744073709551616 ^ (i + m) * (18446744073709551616 * ((x * y + e + cc) / 18446744073709551616)):=by
  rw [← Nat.add_assoc,Nat.pow_succ,Nat.mul_assoc]
 have e2:18446744073709551616 ^ (i + m) * ((x * y + e + cc) % 18446744073709551616) + 18446744073709551616 ^ (i + m) * (18446744073709551616 * ((x * y + e + cc) / 18446744073709551616))=18446744073709551616 ^ (i + m) * (x * y) + 18446744073709551616 ^ (i + m) * e + 18446744073709551616 ^ (i + m) * cc:=by
  rw [← Nat.mul_add,hdm,Nat.mul_add,Nat.mul_add]
 have e3:18446744073709551616 ^ i * (x * (vW (q.take m) + 18446744073709551616 ^ m * y))=18446744073709551616 ^ i * (x * vW (q.take m)) + 18446744073709551616 ^ (i + m) * (x * y):=by
  rw [Nat.mul_add,Nat.mul_add,Nat.pow_add,Nat.mul_assoc,Nat.mul_left_comm x]
 rw [e1,e3]
 omega
theorem sq_row (L M p q:List Nat) (i cc:Nat) (hi:i < p.length) (hlen:i + q.length < M.length) (hz:M.getD (i + q.length) 0=0)
  (hL:vW L=vW (p.take i) * vW q)
  (h:vW M + 18446744073709551616 ^ (i + q.length) * cc=vW L + 18446744073709551616 ^ i * (p.getD i 0 * vW (q.take q.length))) :
  vW (M.set (i + q.length) cc)=vW (p.take (i + 1)) * vW q:=by
 have hs:=vW_set M (i + q.length) cc hlen
 rw [hz,Nat.mul_zero,Nat.add_zero] at hs
 rw [List.take_length] at h
 rw [hs,h,hL,vW_take_succ p i hi,Nat.add_mul,Nat.mul_assoc]
/-! Shifts. -/
theorem or_high (X a k:Nat) (ha:a < 2 ^ k):a ||| (2 ^ k * X)=a + 2 ^ k * X:=by
 have:=Nat.two_pow_add_eq_or_of_lt ha X
 rw [Nat.or_comm,← this,Nat.add_comm]
theorem word_shift (Y r:Nat) (hr:0 < r) (h64:r < 64):(Y % 18446744073709551616) / 2 ^ r ||| (Y / 18446744073709551616 % 18446744073709551616 * 2 ^ (64 - r) % 18446744073709551616)=Y / 2 ^ r % 18446744073709551616:=by
 have hB:(18446744073709551616:Nat)=2 ^ (64 - r) * 2 ^ r:=by rw [← Nat.pow_add,show 64 - r + r=64 by omega]
 have h2r:0 < 2 ^ r:=Nat.two_pow_pos r
 have ha:(Y % 18446744073709551616) / 2 ^ r < 2 ^ (64 - r):=by
  rw [Nat.div_lt_iff_lt_mul h2r,← hB]
  exact Nat.mod_lt _ (by decide)
 generalize hb:Y / 18446744073709551616 % 18446744073709551616=b
 have e1:b * 2 ^ (64 - r) % 18446744073709551616=2 ^ (64 - r) * (b % 2 ^ r):=by
  conv=>lhs; rw [hB]
  rw [Nat.mul_comm b,Nat.mul_mod_mul_left]
 rw [e1,or_high _ _ _ ha]
 have e2:Y / 2 ^ r=(Y % 18446744073709551616) / 2 ^ r + 2 ^ (64 - r) * (Y / 18446744073709551616):=by
  have h1:Y=Y % 18446744073709551616 + 2 ^ r * (2 ^ (64 - r) * (Y / 18446744073709551616)):=by
   rw [← Nat.mul_assoc,Nat.mul_comm (2 ^ r),← hB]
   exact (Nat.mod_add_div _ _).symm
  conv=>lhs; rw [h1]
  rw [Nat.add_mul_div_left _ _ h2r]
 rw [e2]
 have e3:b % 2 ^ r=Y / 18446744073709551616 % 2 ^ r:=by
  rw [← hb,Nat.mod_mod_of_dvd]
  rw [hB]; exact Nat.dvd_mul_left _ _
 rw [e3]
 generalize (Y % 18446744073709551616) / 2 ^ r=a at *
 generalize Y / 18446744073709551616=Z
 have e4:(a + 2 ^ (64 - r) * Z) % 18446744073709551616=a + 2 ^ (64 - r) * (Z % 2 ^ r):=by
  rw [hB,Nat.mod_mul,Nat.add_mul_mod_self_left,Nat.mod_eq_of_lt ha,Nat.add_mul_div_left _ _ (Nat.two_pow_pos _),Nat.div_eq_of_lt ha,Nat.zero_add]
 rw [e4]
theorem shift_digit (N wo r i:Nat):N / 2 ^ (64 * wo + r) / 18446744073709551616 ^ i=N / 18446744073709551616 ^ (i + wo) / 2 ^ r:=by
 have e:(18446744073709551616:Nat)=2 ^ 64:=by decide
 rw [e,← Nat.pow_mul,← Nat.pow_mul,Nat.div_div_eq_div_mul,Nat.div_div_eq_div_mul,← Nat.pow_add,← Nat.pow_add]
 congr 2
 omega
theorem shift_high (N i:Nat):N / 18446744073709551616 ^ (i + 1)=N / 18446744073709551616 ^ i / 18446744073709551616:=by
 rw [Nat.pow_succ,Nat.div_div_eq_div_mul]
def shW (n:List Nat) (wo r m:Nat):List Nat:=(List.range m).map fun i=>if r=0 then n.getD (i + wo) 0 else n.getD (i + wo) 0 / 2 ^ r ||| (n.getD (i + wo + 1) 0 * 2 ^ (64 - r) % 18446744073709551616)
theorem shW_length (n:List Nat) (wo r m:Nat):(shW n wo r m).length=m:=by simp [shW]
theorem shW_get (n:List Nat) (wo r m i:Nat) (h:i < m):(shW n wo r m).getD i 0=if r=0 then n.getD (i + wo) 0 else n.getD (i + wo) 0 / 2 ^ r ||| (n.getD (i + wo + 1) 0 * 2 ^ (64 - r) % 18446744073709551616):=by
 unfold shW
 rw [List.getD_eq_getElem?_getD,List.getElem?_map,List.getElem?_range h]; rfl
theorem shW_digit {n:List Nat} (h:Wds n) {wo r m i:Nat} (hr:r < 64) (hi:i < m):(shW n wo r m).getD i 0=vW n / 2 ^ (64 * wo + r) / 18446744073709551616 ^ i % 18446744073709551616:=by
 rw [shW_get n wo r m i hi,shift_digit]
 by_cases h0:r=0
 ·rw [if_pos h0,h0,vW_digit h,Nat.pow_zero,Nat.div_one]
 ·rw [if_neg h0,vW_digit h,vW_digit h (i + wo + 1),shift_high]
  exact word_shift _ r (by omega) hr
theorem shW_wds {n:List Nat} (h:Wds n) {wo r m:Nat} (hr:r < 64):Wds (shW n wo r m):=by
 intro x hx
 obtain ⟨i,hi,rfl⟩:=List.mem_iff_getElem.1 hx
 rw [shW_length] at hi
 have e:=shW_digit h (wo:=wo) hr hi
 rw [List.getD_eq_getElem?_getD,List.getElem?_eq_getElem (by rw [shW_length]; exact hi)] at e
 have e':(shW n wo r m)[i]=vW n / 2 ^ (64 * wo + r) / 18446744073709551616 ^ i % 18446744073709551616:=e
 rw [e']
 exact Nat.mod_lt _ (by decide)
theorem shW_val {n:List Nat} (h:Wds n) {wo r m:Nat} (hr:r < 64) (hm:n.length≤wo + m):vW (shW n wo r m)=vW n / 2 ^ (64 * wo + r):=by
 rw [vW_of_digits (shW_length n wo r m) fun i hi=>shW_digit h hr hi]
 refine Nat.mod_eq_of_lt ?_
 have h1:=vW_lt h
 have h2:18446744073709551616 ^ n.length≤18446744073709551616 ^ (wo + m):=Nat.pow_le_pow_right (by decide) hm
 have e:(18446744073709551616:Nat)=2 ^ 64:=by decide
 have h3:vW n / 2 ^ (64 * wo + r)≤vW n / 2 ^ (64 * wo):=Nat.div_le_div_left (Nat.pow_le_pow_right (by decide) (by omega)) (Nat.two_pow_pos _)
 refine Nat.lt_of_le_of_lt h3 ?_
 rw [Nat.div_lt_iff_lt_mul (Nat.two_pow_pos _),Nat.pow_mul,← e,← Nat.pow_add,Nat.add_comm m]
 omega
theorem vW_zero_iff:∀ (l:List Nat),vW l=0↔∀ x∈l,x=0
 | []=>by simp [vW]
 | x :: l=>by
  have:=vW_zero_iff l
  rw [vW]
  constructor
  ·intro h y hy
   rcases List.mem_cons.1 hy with rfl | hy
   ·omega
   ·exact this.1 (by omega) y hy
  ·intro h
   have h1:=h x List.mem_cons_self
   have h2:=this.2 fun y hy=>h y (List.mem_cons_of_mem _ hy)
   omega
/-! One more. -/
theorem next_step (M:List Nat) (N k cc:Nat) (hk:k < M.length) (h:vW M + 18446744073709551616 ^ k * cc=N) :
  vW (M.set k ((M.getD k 0 + cc) % 18446744073709551616)) + 18446744073709551616 ^ (k + 1) * ((M.getD k 0 + cc) / 18446744073709551616)=N:=by
 have hs:=vW_set M k ((M.getD k 0 + cc) % 18446744073709551616) hk
 generalize M.getD k 0=e at *
 have hdm:=Nat.mod_add_div (e + cc) 18446744073709551616
 have e1:18446744073709551616 ^ (k + 1) * ((e + cc) / 18446744073709551616)=18446744073709551616 ^ k * (18446744073709551616 * ((e + cc) / 18446744073709551616)):=by
  rw [Nat.pow_succ,Nat.mul_assoc]
 have e2:18446744073709551616 ^ k * ((e + cc) % 18446744073709551616) + 18446744073709551616 ^ k * (18446744073709551616 * ((e + cc) / 18446744073709551616))=18446744073709551616 ^ k * e + 18446744073709551616 ^ k * cc:=by
  rw [← Nat.mul_add,hdm,Nat.mul_add]
 rw [e1]
 omega
end Go.Proofs.YtnjedhgcfeoemaaGreatDoor

namespace Go.Proofs.YtnjedhgcfeoemaaGreatDoor
open Go.RowKit
theorem elN:ElemOf Tryz.prog 272 193 (.int .u64 0) 1 8:=⟨Tryz.underlying272,info_parts infoU,rfl,by decide⟩
theorem made_n (n:Nat) (w:World) (hn:n≤100000000) :
  (Instr.makeSlice 272 (.int .i64 (n:Int)) (.int .i64 (n:Int))).run Tryz.prog w = .ok (.slice (some ⟨w.heap.size,0,none⟩) n n) (w.alloc (.cells (u64s (List.replicate n 0)).toArray 193)):=by
 have:=run_make_row' (P:=Tryz.prog) 272 193 (.int .u64 0) 8 Tryz.underlying272 infoU rfl .i64 .i64 n (by omega) (by omega) w
 rw [made_zeros] at this
 exact this
structure NW (W:World) where
 w:World
 b:Below W.heap.size W w
theorem NW.cell {W:World} {p:Addr} {v:Value} (h:W.cell? p=some v) (q:NW W):q.w.cell? p=some v:=(q.b.cell (block_lt_of_cell h)).trans h
end Go.Proofs.YtnjedhgcfeoemaaGreatDoor

namespace Go.Proofs.YtnjedhgcfeoemaaGreatDoor
open Go.RowKit
def laysAdd_ren:Go.Shelf.Ren:=⟨fun | 25=>248 | n=>n,fun | 22=>193 | n=>n,fun | n=>n⟩
theorem laysAdd:Go.Proofs.Lays7.n25 Tryz.prog laysAdd_ren:={
 mixed:=by kernel_rfl
 f25:=Tryz.func248.trans (congrArg some (by kernel_rfl))
 t22:=Tryz.underlying193
 a22:=Tryz.isAgg193
 z22:=Tryz.sizeOf193
 v22:=Tryz.zeroValue193
 i22:=by kernel_rfl }
theorem add64_run (x y c:Nat) (hc:c≤1) (w:World) :
  (callFunc 248 #[.int .u64 x,.int .u64 y,.int .u64 c]).run Tryz.prog w = .ok (.value (.tuple #[.int .u64 (((x + y + c) % 18446744073709551616:Nat):Int),.int .u64 (((x + y + c) / 18446744073709551616:Nat):Int)])) w:=Any7.bits_Add64 laysAdd x y c hc w
theorem add64_zero (x y:Nat) (w:World) :
  (callFunc 248 #[.int .u64 x,.int .u64 y,.int .u64 0]).run Tryz.prog w = .ok (.value (.tuple #[.int .u64 (((x + y) % 18446744073709551616:Nat):Int),.int .u64 (((x + y) / 18446744073709551616:Nat):Int)])) w:=add64_run x y 0 (by omega) w
structure QOut (p:List Nat) (B k:Nat) (L:List Nat) (w wr:World):Prop where
 len:L.length=2 * p.length + 1
 pcs:Wds L
 v:vW L=vW (p.take k) * vW p
 z:∀ j,k + p.length≤j→L.getD j 0=0
 own:OwnU wr B (some ⟨B,0,none⟩) (2 * p.length + 1) L
 bel:Below B w wr
structure QIn (p L:List Nat) (B i m cc:Nat) (M:List Nat) (w wr:World):Prop where
 len:M.length=2 * p.length + 1
 pcs:Wds M
 v:vW M + 18446744073709551616 ^ (i + m) * cc=vW L + 18446744073709551616 ^ i * (p.getD i 0 * vW (p.take m))
 z:∀ j,i + p.length≤j→M.getD j 0=0
 own:OwnU wr B (some ⟨B,0,none⟩) (2 * p.length + 1) M
 bel:Below B w wr
theorem mulW_le {x y:Nat} (hx:x < 18446744073709551616) (hy:y < 18446744073709551616):x * y≤340282366920938463426481119284349108225:=Nat.mul_le_mul (show x≤18446744073709551615 by omega) (show y≤18446744073709551615 by omega)
structure SqW (xy e cc h l l1 c1 h1 l2 c2 h2:Nat):Prop where
 hh:xy / 18446744073709551616=h
 hl:xy % 18446744073709551616=l
 k1:(l + e) % 18446744073709551616=l1
 k2:(l + e) / 18446744073709551616=c1
 k3:h + c1=h1
 k4:(l1 + cc) % 18446744073709551616=l2
 k5:(l1 + cc) / 18446744073709551616=c2
 k6:h1 + c2=h2
 r1:(xy + e + cc) % 18446744073709551616=l2
 r2:(xy + e + cc) / 18446744073709551616=h2
 b1:h1 < 18446744073709551616
 b2:h2 < 18446744073709551616
theorem sqW {xy e cc:Nat} (hxy:xy≤340282366920938463426481119284349108225) (he:e < 18446744073709551616) (hc:cc < 18446744073709551616) :
  ∃ h l l1 c1 h1 l2 c2 h2,SqW xy e cc h l l1 c1 h1 l2 c2 h2:=by
 refine ⟨_,_,_,_,_,_,_,_,⟨rfl,rfl,rfl,rfl,rfl,rfl,rfl,rfl,?_,?_,?_,?_⟩⟩ <;> omega
theorem square_any (w:World) (a1:Option Addr) (c1:Nat) (p:List Nat) (h1:ReadsU w a1 p) (p1:Wds p) (l1:p.length≤10000) :
  Calls Tryz.prog 223 #[.slice a1 p.length c1] w fun e w'=>∃ a c L,e = .returned (.slice a (2 * p.length + 1) c)∧L.length=2 * p.length + 1∧OwnU w' w.heap.size a c L∧Wds L∧vW L=vW p * vW p∧Below w.heap.size w w':=by
 have H1:=hd_ h1
 have P1:=hd_ p1
 clear h1 p1
 obtain ⟨n,hn⟩:∃ n,p.length=n:=⟨_,rfl⟩
 have Hn:=hd_ hn
 rw [hn] at l1 ⊢
 clear hn
 have hmk:=made_n (2 * n + 1) w (by omega)
 have Hown:=hd_ (own_made w (List.replicate (2 * n + 1) 0) (by simp; omega))
 have Hb:=hd_ ((Below.refl w.heap.size w).alloc nr_ (.cells (u64s (List.replicate (2 * n + 1) 0)).toArray 193))
 push_cast at hmk
 generalize w.alloc (.cells (u64s (List.replicate (2 * n + 1) 0)).toArray 193)=w1 at *
 go_enter Tryz.func223,Tryz.ntmps223
 go_wp2_with fail
 go_loopw [19] (fun i wr=>∃ (k:Nat) (L:List Nat),k≤n∧i = .int .i64 k∧Hid (QOut p w.heap.size k L w wr)) (fun i _=>n - (intOf i).toNat)
 case atStart =>
  refine ⟨0,List.replicate (2 * n + 1) 0,Nat.zero_le _,rfl,?_⟩
  refine ⟨by simp [Hn.out],Wds.zeros _,by simp [vW_zeros,vW],fun j _=>?_,?_,Hb.out⟩
  ·rw [List.getD_eq_getElem?_getD,List.getElem?_replicate]; split <;> rfl
  ·have:=Hown.out
   rw [List.length_replicate] at this
   rw [Hn.out]; exact this
 case round =>
  obtain ⟨k,L,hk,rfl,HT⟩:=hrel
  clear Hown Hb hmk
  by_cases hlt:k < n
  ·obtain ⟨b1,o1,rfl,hb1,hc1⟩:=H1.out.open (by rw [Hn.out]; omega)
   have cx:=hc1 k (by rw [Hn.out]; exact hlt)
   rw [← HT.out.bel.cell (p:=⟨b1,o1 + k,none⟩) hb1] at cx
   have hx:=P1.out.getD k
   clear hc1
   obtain ⟨x,hxx⟩:∃ x,p.getD k 0=x:=⟨_,rfl⟩
   rw [hxx] at cx hx
   have Hxx:=hd_ hxx
   clear hxx
   obtain ⟨wo,hwo⟩:∃ wo:World,wo=wr:=⟨_,rfl⟩
   subst hwo
   go_wp2_with fail
   go_loopw [6,26] (fun c j wr=>∃ (t cc:Nat) (M:List Nat),t≤n∧cc < 18446744073709551616∧j = .int .i64 t∧c = .int .u64 cc∧Hid (QIn p L w.heap.size k t cc M w wr)) (fun _ j _=>n - (intOf j).toNat)
   case atStart =>
    refine ⟨0,0,L,Nat.zero_le _,by omega,rfl,rfl,?_⟩
    exact ⟨HT.out.len,HT.out.pcs,by simp [vW],HT.out.z,HT.out.own,HT.out.bel⟩
   case round =>
    obtain ⟨t,cc,M,ht,hcc,rfl,rfl,HI⟩:=hrel
    obtain ⟨g,hg,hg1,hg2,hg3,hg4,hg5⟩:=HI.out.own.open (by rw [HI.out.len,Hn.out]; omega)
    obtain rfl:w.heap.size=g:=by simpa using hg
    clear hg
    by_cases hlt2:t < n
    ·have cy0:=H1.out.open (by rw [Hn.out]; omega)
     obtain ⟨b2,o2,e2,hb2,hc2⟩:=cy0
     have cy:=hc2 t (by rw [Hn.out]; exact hlt2)
     rw [← HI.out.bel.cell (p:=⟨b2,o2 + t,none⟩) hb2] at cy
     simp only [Option.some.injEq,Addr.mk.injEq,and_true] at e2
     obtain ⟨rfl,rfl⟩:=e2
     have hy:=P1.out.getD t
     have ce:=hg4 (k + t) (by rw [HI.out.len,Hn.out]; omega)
     have he:=HI.out.pcs.getD (k + t)
     have fe:=hg5 (k + t)
     have hxy:=mulW_le hx hy
     have hstep:=sq_step M p k t x cc (vW L) (by rw [Hn.out]; exact hlt2) (by rw [HI.out.len,Hn.out]; omega) (by have:=HI.out.v; rw [Hxx.out] at this; exact this)
     have HI2:Hid (QIn p L w.heap.size k (t + 1) ((x * p.getD t 0 + M.getD (k + t) 0 + cc) / 18446744073709551616) (M.set (k + t) ((x * p.getD t 0 + M.getD (k + t) 0 + cc) % 18446744073709551616)) w (wr.setCell ⟨w.heap.size,k + t,none⟩ (.int .u64 ((x * p.getD t 0 + M.getD (k + t) 0 + cc) % 18446744073709551616:Nat)))) :=
      ⟨by rw [List.length_set]; exact HI.out.len,HI.out.pcs.set _ _ (Nat.mod_lt _ (by decide)),by rw [Hxx.out]; exact hstep,fun j hj=>by rw [limb_set_ne _ _ _ _ (by have:=Hn.out; omega)]; exact HI.out.z j hj,HI.out.own.store (k + t) _,HI.out.bel.setCell (p:=⟨w.heap.size,k + t,none⟩) nr_ _⟩
     have hm1:=Tryz.bits_Mul64 x (p.getD t 0) hx hy wr
     clear hstep hc2 hg4 hg5
     generalize M.getD (k + t) 0=e at *
     generalize p.getD t 0=y at *
     generalize x * y=xy at *
     obtain ⟨h,l,l1',c1',h1',l2,c2,h2,W⟩:=sqW hxy he hcc
     have ha1:=fun W=>add64_zero l e W
     have ha2:=fun W=>add64_zero l1' cc W
     rw [W.k1,W.k2] at ha1
     rw [W.k4,W.k5] at ha2
     rw [W.hh,W.hl] at hm1
     rw [W.r1,W.r2] at HI2
     have hw1:IntKind.u64.wrap ((h:Int) + c1')=(h1':Nat):=by rw [← Int.natCast_add,W.k3]; exact wrap_u _ W.b1
     have hw2:IntKind.u64.wrap ((h1':Int) + c2)=(h2:Nat):=by rw [← Int.natCast_add,W.k6]; exact wrap_u _ W.b2
     have hb2:=W.b2
     have hkt:IntKind.i64.wrap ((k:Int) + t)=((k + t:Nat):Int):=by rw [← Int.natCast_add]; exact iw_ _ (by omega)
     clear W hxy hx hy he
     go_wp2_with fail
     refine cm_ hm1 ?_
     rintro e_ w3 ⟨rfl,rfl⟩
     clear hm1
     go_wp2
     go_roundw
     case rel=>exact ⟨t + 1,h2,_,by omega,hb2,by go_num,rfl,HI2⟩
     case measure=>simp [intOf]; omega
    ·obtain rfl:t=n:=by omega
     have fe:=hg5 (k + t)
     have ce:=hg4 (k + t) (by rw [HI.out.len,Hn.out]; omega)
     have hz:M.getD (k + t) 0=0:=HI.out.z _ (by rw [Hn.out]; exact Nat.le_refl _)
     have hrow:=sq_row L M p p k cc (by rw [Hn.out]; exact hlt) (by rw [HI.out.len,Hn.out]; omega) (HI.out.z _ nr_) HT.out.v (by rw [Hn.out]; exact HI.out.v)
     rw [Hn.out] at hrow
     have HT2:Hid (QOut p w.heap.size (k + 1) (M.set (k + t) cc) w (wr.setCell ⟨w.heap.size,k + t,none⟩ (.int .u64 (cc:Nat)))) :=
      ⟨by rw [List.length_set]; exact HI.out.len,HI.out.pcs.set _ _ hcc,hrow,fun j hj=>by rw [limb_set_ne _ _ _ _ (by have:=Hn.out; omega)]; exact HI.out.z j (by have:=Hn.out; omega),HI.out.own.store (k + t) cc,HI.out.bel.setCell (p:=⟨w.heap.size,k + t,none⟩) nr_ _⟩
     rw [hz] at ce
     have hkt:IntKind.i64.wrap ((k:Int) + t)=((k + t:Nat):Int):=by rw [← Int.natCast_add]; exact iw_ _ (by omega)
     have hwc:IntKind.u64.wrap (cc:Int)=cc:=wrap_u _ hcc
     clear hrow hg4 hg5 hlt2 HT hz
     go_wp2
     go_roundw
     case rel=>exact ⟨k + 1,_,by omega,by go_num,HT2⟩
     case measure=>simp [intOf]; omega
  ·obtain rfl:k=n:=by omega
   have hv:vW L=vW p * vW p:=by
    have:=HT.out.v
    rw [← Hn.out,List.take_length] at this
    exact this
   have hlen:=HT.out.len
   rw [Hn.out] at hlen
   have Hv:=hd_ hv
   have Hl:=hd_ hlen
   have Ho:=HT.out.own
   rw [Hn.out] at Ho
   have HO:=hd_ Ho
   clear hv hlt hlen Ho
   go_wp2_with fail
   go_ret
   exact ⟨_,_,L,rfl,Hl.out,HO.out,HT.out.pcs,Hv.out,HT.out.bel⟩
end Go.Proofs.YtnjedhgcfeoemaaGreatDoor

namespace Go.Proofs.YtnjedhgcfeoemaaGreatDoor
open Go.RowKit
def shM (n:List Nat) (wo r m k:Nat):List Nat:=(shW n wo r m).take k ++ List.replicate (m - k) 0
theorem shM_zero (n:List Nat) (wo r m:Nat):shM n wo r m 0=List.replicate m 0:=by simp [shM]
theorem shM_all (n:List Nat) (wo r m:Nat):shM n wo r m m=shW n wo r m:=by
 unfold shM
 rw [Nat.sub_self,List.replicate_zero,List.append_nil,List.take_of_length_le (by rw [shW_length]; exact Nat.le_refl _)]
theorem shM_length (n:List Nat) (wo r m k:Nat) (h:k≤m):(shM n wo r m k).length=m:=by
 unfold shM
 rw [List.length_append,List.length_take,shW_length,List.length_replicate]; omega
theorem shM_set (n:List Nat) (wo r m k:Nat) (h:k < m):(shM n wo r m k).set k ((shW n wo r m).getD k 0)=shM n wo r m (k + 1):=by
 have hl:((shW n wo r m).take k).length=k:=by rw [List.length_take,shW_length]; omega
 unfold shM
 rw [List.set_append_right _ _ (by omega),hl,Nat.sub_self,List.take_add_one,List.getElem?_eq_getElem (by rw [shW_length]; exact h),show m - k=(m - (k + 1)) + 1 by omega,List.replicate_succ,List.set_cons_zero,List.append_assoc]
 congr 1
 rw [List.getD_eq_getElem?_getD,List.getElem?_eq_getElem (by rw [shW_length]; exact h)]
 rfl
theorem or_words (x y r:Nat) (hx:x < 18446744073709551616) :
  bits .or .u64 ((x:Int) / 2 ^ r) (IntKind.u64.wrap ((y:Int) * 2 ^ (64 - r)))=((x / 2 ^ r ||| (y * 2 ^ (64 - r) % 18446744073709551616):Nat):Int):=by
 have e1:(x:Int) / 2 ^ r=((x / 2 ^ r:Nat):Int):=by
  rw [Int.natCast_ediv,Int.natCast_pow]; rfl
 have e2:IntKind.u64.wrap ((y:Int) * 2 ^ (64 - r))=((y * 2 ^ (64 - r) % 18446744073709551616:Nat):Int):=by
  rw [IntKind.wrap_u64,Int.natCast_emod,Int.natCast_mul,Int.natCast_pow]; rfl
 rw [e1,e2]
 exact (bits_nat .u64 64 (by decide) (fun n h0 h1=>by rw [IntKind.wrap_u64]; omega) (x / 2 ^ r) (y * 2 ^ (64 - r) % 18446744073709551616) (by have:=Nat.div_le_self x (2 ^ r); omega) (by have:=Nat.mod_lt (y * 2 ^ (64 - r)) (show 0 < 18446744073709551616 by decide); omega)).2
theorem shift_any (w:World) (a1:Option Addr) (c1:Nat) (p:List Nat) (b wo r:Nat) (e:b=64 * wo + r) (hr:r < 64) (h1:ReadsU w a1 p) (p1:Wds p) (l1:p.length≤30000) (hwo:wo < p.length) :
  Calls Tryz.prog 224 #[.slice a1 p.length c1,.int .i64 b] w fun e w'=>∃ a c,e = .returned (.slice a (p.length - wo) c)∧OwnU w' w.heap.size a c (shW p wo r (p.length - wo))∧Below w.heap.size w w':=by
 have H1:=hd_ h1
 have P1:=hd_ p1
 clear h1 p1
 obtain ⟨n,hn⟩:∃ n,p.length=n:=⟨_,rfl⟩
 have Hn:=hd_ hn
 rw [hn] at l1 hwo ⊢
 clear hn
 obtain ⟨m,hm⟩:∃ m,n - wo=m:=⟨_,rfl⟩
 have hq:Int.tdiv (b:Int) 64=(wo:Nat):=by rw [Int.tdiv_eq_ediv_of_nonneg (by omega)]; omega
 have hq':(b:Int) / 64=(wo:Nat):=by omega
 have ht:Int.tmod (b:Int) 64=(r:Nat):=by rw [Int.tmod_eq_emod_of_nonneg (by omega)]; omega
 have ht':(b:Int) % 64=(r:Nat):=by omega
 have hws:IntKind.i64.wrap ((n:Int) - wo)=(n:Int) - wo:=iw_ _ (by omega)
 have hnm:((m:Nat):Int)=(n:Int) - wo:=by omega
 have hmx:max ((n:Int) - wo) 0=(n:Int) - wo:=by omega
 have hmk:=made_n m w (by omega)
 rw [hnm] at hmk
 have Hown:=hd_ (own_made w (List.replicate m 0) (by simp; omega))
 have Hb:=hd_ ((Below.refl w.heap.size w).alloc nr_ (.cells (u64s (List.replicate m 0)).toArray 193))
 generalize w.alloc (.cells (u64s (List.replicate m 0)).toArray 193)=w1 at *
 rw [List.length_replicate] at Hown
 rw [hm]
 clear e
 go_enter Tryz.func224,Tryz.ntmps224
 go_wp2_with fail
 go_loopw [21] (fun i wr=>∃ k:Nat,k≤m∧i = .int .i64 k∧Hid (OwnU wr w.heap.size (some ⟨w.heap.size,0,none⟩) m (shM p wo r m k))∧Hid (Below w.heap.size w wr)) (fun i _=>m - (intOf i).toNat)
 case atStart=>exact ⟨0,Nat.zero_le _,rfl,by rw [shM_zero]; exact Hown,Hb⟩
 case round =>
  obtain ⟨k,hk,rfl,HO,HB⟩:=hrel
  clear Hown Hb hmk
  by_cases hlt:k < m
  ·have hlt':(k:Int) < m:=by omega
   obtain ⟨b1,o1,rfl,hb1,hc1⟩:=H1.out.open (by rw [Hn.out]; omega)
   have cx:=hc1 (k + wo) (by rw [Hn.out]; omega)
   rw [← HB.out.cell (p:=⟨b1,o1 + (k + wo),none⟩) hb1] at cx
   have hx:=P1.out.getD (k + wo)
   obtain ⟨g,hg,hg1,hg2,hg3,hg4,hg5⟩:=HO.out.open (by rw [shM_length _ _ _ _ _ hk]; omega)
   obtain rfl:w.heap.size=g:=by simpa using hg
   clear hg
   have ce:=hg4 k (by rw [shM_length _ _ _ _ _ hk]; omega)
   have fe:=hg5 k
   have hkw:IntKind.i64.wrap ((k:Int) + wo)=((k + wo:Nat):Int):=by rw [← Int.natCast_add]; exact iw_ _ (by omega)
   have hget:=shW_get p wo r m k hlt
   have hset:=shM_set p wo r m k hlt
   have hev:((p.getD (k + wo) 0:Nat):Int) / 2 ^ r=((p.getD (k + wo) 0 / 2 ^ r:Nat):Int):=by rw [Int.natCast_ediv,Int.natCast_pow]; rfl
   have hvx:p.getD (k + wo) 0 / 2 ^ r≤p.getD (k + wo) 0:=Nat.div_le_self _ _
   have Hv:=hd_ (show (r=0→p.getD (k + wo) 0 / 2 ^ r=p.getD (k + wo) 0) from fun h=>by rw [h,Nat.pow_zero,Nat.div_one])
   have Hor:=hd_ (fun y=>or_words (p.getD (k + wo) 0) y r hx)
   have hcy:k + wo + 1 < n→wr.cell? ⟨b1,o1 + (k + wo + 1),none⟩=some (.int .u64 (p.getD (k + wo + 1) 0:Nat)):=fun h=>by
    rw [HB.out.cell (p:=⟨b1,o1 + (k + wo + 1),none⟩) hb1]; exact hc1 (k + wo + 1) (by rw [Hn.out]; exact h)
   have hb1':b1 < wr.heap.size:=Nat.lt_of_lt_of_le hb1 HB.out.size
   have hne:b1≠w.heap.size:=by omega
   have HB1:=fun (u:Value)=>HB.out.setCell (p:=⟨w.heap.size,k,none⟩) nr_ u
   have HO1:=hd_ (HO.out.store k (p.getD (k + wo) 0 / 2 ^ r))
   clear hc1 hg4 hg5 hg3 hlt'
   generalize p.getD (k + wo) 0=x at *
   generalize x / 2 ^ r=v at *
   by_cases h1:r=0
   ·have hE:(shW p wo r m).getD k 0=v:=by rw [hget,if_pos h1]; exact (Hv.out h1).symm
    rw [hE] at hset
    rw [hset] at HO1
    have h0:¬ (0:Int) < r:=by omega
    have HR:=hd_ (HB1 (.int .u64 v))
    clear hget hset hE HB1 Hor Hv hcy HO HB h1
    go_wp2_with fail
    refine ⟨⟨k + 1,by omega,by go_num,HO1,HR⟩,by simp [intOf]; omega⟩
   ·by_cases h2:k + wo + 1 < n
    ·have cy:=hcy h2
     have hE:=hget
     rw [if_neg h1] at hE
     have hbits:=Hor.out (p.getD (k + wo + 1) 0)
     have hy:=P1.out.getD (k + wo + 1)
     rw [hev] at hbits
     have h0:(0:Int) < r:=by omega
     have h2':(k:Int) + wo + 1 < n:=by omega
     have hkw1:IntKind.i64.wrap (((k + wo:Nat):Int) + 1)=((k + wo + 1:Nat):Int):=by rw [← Int.natCast_succ]; exact iw_ _ (by omega)
     have h64:IntKind.i64.wrap (64 - (r:Int))=((64 - r:Nat):Int):=by rw [show (64:Int) - r=((64 - r:Nat):Int) by omega]; exact iw_ _ (by omega)
     generalize p.getD (k + wo + 1) 0=y at *
     have ce1:(wr.setCell ⟨w.heap.size,k,none⟩ (.int .u64 (v:Nat))).cell? ⟨w.heap.size,k,none⟩=some (.int .u64 (v:Nat)):=World.cell?_setCell_same _ _ _ ce
     have fe1:(wr.setCell ⟨w.heap.size,k,none⟩ (.int .u64 (v:Nat))).frozen? ⟨w.heap.size,k,none⟩=false:=by rw [World.frozen?_setCell]; exact fe
     have cy1:(wr.setCell ⟨w.heap.size,k,none⟩ (.int .u64 (v:Nat))).cell? ⟨b1,o1 + (k + wo + 1),none⟩=some (.int .u64 (y:Nat)):=by
      rw [World.cell?_setCell_other _ _ _ _ (by simp)]; exact cy
     have HBv:=hd_ (HB1 (.int .u64 (v:Nat)))
     have HE:=hd_ hE
     clear hget hE Hv hcy HO HB HB1 cy
     generalize hW1:wr.setCell ⟨w.heap.size,k,none⟩ (.int .u64 (v:Nat))=W1 at *
     have q1:=NW.cell ce1
     have q2:=NW.cell cy1
     have hnon:Nonempty (NW W1):=⟨⟨W1,Below.refl _ _⟩⟩
     have I:Hid (Below W1.heap.size W1 W1.drew):=(Below.refl _ _).drew
     go_wp2_with fail
     refine RP.wp_region_readers 16 [(2,0),(2,1),(2,2),(1,3),(2,4),(2,5),(2,6),(2,7),(2,8),(2,9),(1,10),(2,11),(2,12),(2,13),(2,14),(2,15),(0,16)] (fun w'=>∃ p:NW W1,w'=p.w) (by kernel_rfl) (by kernel_rfl) ?_ ?_
     ·exact ⟨⟨_,I.out⟩,rfl⟩
     iterate 3 (refine RP.walkR_any ?_; simp only [dsc_,dz_,tsc_,tz_]; go_big_quiet_step (fail); refine wpQuiet_nil ?_)
     iterate 1 (refine RP.walkR_read ?_; simp only [dsc_,dz_,tsc_,tz_]; go_big_quiet_step (fail); refine wpQuiet_nil ?_)
     iterate 6 (refine RP.walkR_any ?_; simp only [dsc_,dz_,tsc_,tz_]; go_big_quiet_step (fail); refine wpQuiet_nil ?_)
     iterate 1 (refine RP.walkR_read ?_; simp only [dsc_,dz_,tsc_,tz_]; go_big_quiet_step (fail); refine wpQuiet_nil ?_)
     iterate 5 (refine RP.walkR_any ?_; simp only [dsc_,dz_,tsc_,tz_]; go_big_quiet_step (fail); refine wpQuiet_nil ?_)
     iterate 1 (refine RP.walkR_move ?_; simp only [dsc_,dz_,tsc_,tz_]; go_wp2_with fail)
     simp only [RP.walkR]
     go_wp2_with fail
     have HO2:=HO1.out.store k (v ||| y * 2 ^ (64 - r) % 18446744073709551616)
     have e2:((shM p wo r m k).set k v).set k (v ||| y * 2 ^ (64 - r) % 18446744073709551616)=shM p wo r m (k + 1):=by rw [List.set_set,← HE.out]; exact hset
     rw [e2] at HO2
     refine ⟨⟨k + 1,by omega,by go_num,HO2.below (below_drawn _ 1) nr_,below_dn (HBv.out.setCell (p:=⟨w.heap.size,k,none⟩) nr_ _) 1⟩,by simp [intOf]; omega⟩
    ·have hz:p.getD (k + wo + 1) 0=0:=by
      rw [List.getD_eq_getElem?_getD,List.getElem?_eq_none (by rw [Hn.out]; omega)]; rfl
     have hE:(shW p wo r m).getD k 0=v:=by rw [hget,if_neg h1,hz,Nat.zero_mul,Nat.zero_mod,Nat.or_zero]
     rw [hE] at hset
     rw [hset] at HO1
     have h0:(0:Int) < r:=by omega
     have h2':¬ (k:Int) + wo + 1 < n:=by omega
     have hkw1:IntKind.i64.wrap (((k + wo:Nat):Int) + 1)=((k + wo + 1:Nat):Int):=by rw [← Int.natCast_succ]; exact iw_ _ (by omega)
     have HR:=hd_ (HB1 (.int .u64 v))
     clear hget hset hE HB1 Hor Hv hcy HO HB hz
     go_wp2_with fail
     refine ⟨⟨k + 1,by omega,by go_num,HO1,HR⟩,by simp [intOf]; omega⟩
  ·obtain rfl:k=m:=by omega
   rw [shM_all] at HO
   go_wp2_with fail
   go_ret
   exact ⟨_,_,rfl,HO.out,HB.out⟩
end Go.Proofs.YtnjedhgcfeoemaaGreatDoor

namespace Go.Proofs.YtnjedhgcfeoemaaGreatDoor
open Go.RowKit
theorem nclone_any (w:World) (a:Option Addr) (c:Nat) (l:List Nat) (hr:ReadsU w a l) (hl:l.length≤30000) (h0:0 < l.length) :
  Calls Tryz.prog 222 #[.slice a l.length c] w fun e w'=>∃ g d,e = .returned (.slice (some ⟨g,0,none⟩) l.length d)∧OwnU w' w.heap.size (some ⟨g,0,none⟩) d l∧Below w.heap.size w w':=by
 obtain ⟨i0,hi,hz0,hz1,hz2⟩:=info_parts infoU
 have q22:∀ (w:World) (a:Option Addr) (n c n' c':Nat),(binOp .eql 272 (.slice a n c) (.slice none n' c')).run Tryz.prog w = .ok (.bool a.isNone) w:=fun w a n c n' c'=>Lib.run_eql_slice_nil w _ _ a n c n' c' Tryz.underlying272
 obtain ⟨b,o,rfl,hb',hc0⟩:=hr.open h0
 have Hc:Hid (∀ j u,(u64s l)[j]?=some u→w.cell? ⟨b,o + j,none⟩=some u):=fun j u hj=>by
  have hlt:j < l.length:=by
   have:=(List.getElem?_eq_some_iff.1 hj).1
   rw [u64s_length] at this; exact this
  rw [u64s_get l j hlt] at hj
  rw [← hj]; exact hc0 j hlt
 have Hone:Hid (∀ u∈u64s l,u.oneCell'=true):=u64s_one l
 have Hlen:Hid ((u64s l).length=l.length):=u64s_length l
 clear hc0 hr
 unfold OwnU
 generalize u64s l=vs at *
 generalize l.length=n at *
 go_enter Tryz.func222,Tryz.ntmps222
 go_wp2_with (at_builtin; refine wpList_append_own _ rfl _ _ 272 rfl w.heap.size 193 i0 (.int .u64 0) 1 8 Tryz.underlying272 hi hz0 hz1 hz2 rfl (by decide) _ _ _ rfl (World.ownsRow_made w #[] 0 nr_ (Nat.zero_le _) rfl) ⟨b,o,none⟩ n c vs rfl ?qc1 ?qc2 ?qc3 ?qc4 ?qc5 ?qc6 ?_)
 case qc1=>rw [Hlen.out]; omega
 case qc2 =>
  intro j u hj
  rw [Addr.add_lit]
  exact Lib.cell?_alloc_some _ (Hc.out j u hj)
 case qc3=>exact Hone.out
 case qc4=>unfold maxLen; omega
 case qc5=>omega
 case qc6=>simp
 intro v' w1 hown hgrow hnil
 obtain ⟨a3,d3,rfl⟩:=own_form hown
 have hown':w1.ownsRow w.heap.size 193 1 (.slice a3 n d3) n vs:=by simpa using hown
 have B:=hd_ (((Below.refl _ w).alloc nr_ (.cells #[] 193)).grown hgrow (by simp) (by intro k hk; simp [Value.ownBlock] at hk; omega))
 obtain ⟨g,cap,hv,-,-,-,-,-⟩:=own_open hown' h0
 simp only [Value.slice.injEq] at hv
 obtain ⟨rfl,-,rfl⟩:=hv
 have O:=hd_ hown'
 clear hown hown' hgrow hnil
 go_wp2_with fail
 go_ret
 exact ⟨g,d3,rfl,O.out,B.out⟩
structure NxI (B n k cc N g c:Nat) (M:List Nat) (w wr:World):Prop where
 len:M.length=n + 1
 pcs:Wds M
 v:vW M + 18446744073709551616 ^ k * cc=N
 own:OwnU wr B (some ⟨g,0,none⟩) c M
 bel:Below B w wr
theorem next_any (w:World) (a1:Option Addr) (c1:Nat) (p:List Nat) (h1:ReadsU w a1 p) (p1:Wds p) (l1:p.length≤20000) (h0:0 < p.length) :
  Calls Tryz.prog 225 #[.slice a1 p.length c1] w fun e w'=>∃ a c L,e = .returned (.slice a (p.length + 1) c)∧L.length=p.length + 1∧OwnU w' w.heap.size a c L∧Wds L∧vW L=vW p + 1∧Below w.heap.size w w':=by
 have HC:=hd_ (nclone_any w a1 c1 p h1 (by omega) h0)
 have P1:=hd_ p1
 have hlt:=vW_lt p1
 have hv0:vW (p ++ [0])=vW p:=by rw [vW_append]; simp [vW]
 have Hlt:=hd_ hlt
 have Hv0:=hd_ hv0
 have Hpw:Hid (Wds (p ++ [0])):=p1.append (Wds.zeros 1)
 clear p1 hlt hv0 h1
 obtain ⟨n,hn⟩:∃ n,p.length=n:=⟨_,rfl⟩
 have Hn:=hd_ hn
 rw [hn] at l1 h0 HC Hlt ⊢
 clear hn
 go_enter Tryz.func225,Tryz.ntmps225
 go_wp2_with fail
 refine cm_ HC.out ?_
 rintro e w1 ⟨g,d,rfl,ho,hb⟩
 have HO:=hd_ ho
 have HB:=hd_ hb
 clear ho hb HC
 have Hown:Hid (w1.ownsRow w.heap.size 193 1 (.slice (some ⟨g,0,none⟩) n d) n (u64s p)):=by have:=HO.out; unfold OwnU at this; rw [Hn.out] at this; exact this
 have Hsz:=hd_ HB.out.size
 go_wp2_with (at_builtin; refine wpList_append_new rfl (.tmp 7) (.tmp 8) 272 rfl elN _ 1 [.int .u64 0] rfl rfl Hown.out Hsz.out rfl (by simp [Value.oneCell']) (by omega) (by omega) ?_)
 intro v' w2 hown hgrow hnil
 obtain ⟨a3,d3,rfl⟩:=own_form hown
 have hown':w2.ownsRow w.heap.size 193 1 (.slice a3 (n + 1) d3) (n + 1) (u64s (p ++ [0])):=by rw [u64s_append]; exact hown
 obtain ⟨g2,cap,hv,-,-,-,-,-⟩:=own_open hown' (by omega)
 simp only [Value.slice.injEq] at hv
 obtain ⟨rfl,-,rfl⟩:=hv
 have Hlen:Hid ((p ++ [0]).length=n + 1):=by show _=_; rw [List.length_append,Hn.out]; rfl
 have HI0:Hid (NxI w.heap.size n 0 1 (vW p + 1) g2 d3 (p ++ [0]) w w2):=by
  refine ⟨Hlen.out,Hpw.out,by rw [Nat.pow_zero,Hv0.out],?_,(HB.out.alloc Hsz.out _).grown hgrow (by rw [World.alloc]; simp; have:=Hsz.out; omega) (by intro k hk; simp [Value.ownBlock] at hk; exact (World.ownsRow.lt Hown.out k (by simp [Value.ownBlock]; exact hk)).1)⟩
  unfold OwnU
  rw [Hlen.out]
  exact hown'
 clear hown hown' hgrow hnil HO HB Hown Hsz Hpw
 go_wp2_with fail
 go_loopw [4,12] (fun cv i wr=>∃ (k cc:Nat) (M:List Nat),k≤n + 1∧cc≤1∧i = .int .i64 k∧cv = .int .u64 cc∧Hid (NxI w.heap.size n k cc (vW p + 1) g2 d3 M w wr)) (fun _ i _=>n + 1 - (intOf i).toNat)
 case atStart=>exact ⟨0,1,_,Nat.zero_le _,Nat.le_refl _,rfl,rfl,HI0⟩
 case round =>
  obtain ⟨k,cc,M,hk,hcc,rfl,rfl,HI⟩:=hrel
  clear HI0
  by_cases hlt:k < n + 1
  ·obtain ⟨g,hg,hg1,hg2,hg3,hg4,hg5⟩:=HI.out.own.open (by rw [HI.out.len]; omega)
   obtain rfl:g2=g:=by simpa using hg
   clear hg
   have hlt':(k:Int) < (n:Int) + 1:=by omega
   have ce:=hg4 k (by rw [HI.out.len]; exact hlt)
   have fe:=hg5 k
   have he:=HI.out.pcs.getD k
   have hst:=next_step M (vW p + 1) k cc (by rw [HI.out.len]; exact hlt) HI.out.v
   have hadd:∀ W,(callFunc 248 #[.int .u64 (M.getD k 0:Nat),.int .u64 0,.int .u64 cc]).run Tryz.prog W = .ok (.value (.tuple #[.int .u64 (((M.getD k 0 + cc) % 18446744073709551616:Nat):Int),.int .u64 (((M.getD k 0 + cc) / 18446744073709551616:Nat):Int)])) W:=fun W=>by
    have:=add64_run (M.getD k 0) 0 cc hcc W
    rw [Nat.add_zero] at this
    exact this
   have hc2:(M.getD k 0 + cc) / 18446744073709551616≤1:=by omega
   have hkw:IntKind.i64.wrap ((k:Int) + 1)=((k + 1:Nat):Int):=by rw [← Int.natCast_succ]; exact iw_ _ (by omega)
   have HI2:Hid (NxI w.heap.size n (k + 1) ((M.getD k 0 + cc) / 18446744073709551616) (vW p + 1) g2 d3 (M.set k ((M.getD k 0 + cc) % 18446744073709551616)) w (wr.setCell ⟨g2,k,none⟩ (.int .u64 ((M.getD k 0 + cc) % 18446744073709551616:Nat)))) :=
    ⟨by rw [List.length_set]; exact HI.out.len,HI.out.pcs.set _ _ (Nat.mod_lt _ (by decide)),hst,HI.out.own.store k _,HI.out.bel.setCell (p:=⟨g2,k,none⟩) hg1 _⟩
   have Hc2:=hd_ hc2
   clear hst hc2 hg4 hg5 hg3 he HI
   generalize (M.getD k 0 + cc) / 18446744073709551616=q at *
   generalize (M.getD k 0 + cc) % 18446744073709551616=v at *
   generalize M.getD k 0=e at *
   go_wp2_with fail
   refine ⟨⟨k + 1,q,_,by omega,Hc2.out,by go_num,rfl,HI2⟩,by simp [intOf]; omega⟩
  ·obtain rfl:k=n + 1:=by omega
   have hlt':¬ ((n + 1:Nat):Int) < (n:Int) + 1:=by omega
   have hv:=HI.out.v
   have hfin:cc=0:=by
    have h2:=Hlt.out
    have h3:18446744073709551616 ^ n < 18446744073709551616 ^ (n + 1):=Nat.pow_lt_pow_right (by decide) (by omega)
    rcases Nat.eq_zero_or_pos cc with h | h
    ·exact h
    ·have h4:18446744073709551616 ^ (n + 1) * 1≤18446744073709551616 ^ (n + 1) * cc:=Nat.mul_le_mul_left _ h
     generalize 18446744073709551616 ^ (n + 1) * cc=Z at *
     omega
   rw [hfin,Nat.mul_zero,Nat.add_zero] at hv
   have Hv:=hd_ hv
   have hlen:=HI.out.len
   have Hl:=hd_ hlen
   have Ho:=HI.out.own
   clear hv hlen hfin
   go_wp2_with fail
   go_ret
   exact ⟨_,_,rfl,M,Hl.out,Ho,HI.out.pcs,Hv.out,HI.out.bel⟩
theorem reach_iff {l:List Nat} {b wo r:Nat} (e:b=64 * wo + r) (hr:r < 64) (h:Wds l) (hw:wo < l.length):(∃ i,i < l.length - wo∧(shW l wo r (l.length - wo)).getD i 0≠0)↔2 ^ b≤vW l:=by
 have hv:=shW_val h (wo:=wo) (m:=l.length - wo) hr (by omega)
 have hz:=vW_zero_iff (shW l wo r (l.length - wo))
 rw [hv,← e] at hz
 have h1:vW l / 2 ^ b=0↔vW l < 2 ^ b:=Nat.div_eq_zero_iff_lt (Nat.two_pow_pos b)
 have hl:=shW_length l wo r (l.length - wo)
 constructor
 ·rintro ⟨i,hi,hne⟩
  refine Nat.le_of_not_lt fun hc=>?_
  have h2:=hz.1 (h1.2 hc) ((shW l wo r (l.length - wo)).getD i 0)
  refine hne (h2 ?_)
  rw [List.getD_eq_getElem?_getD,List.getElem?_eq_getElem (by rw [hl]; exact hi)]
  exact List.getElem_mem _
 ·intro hc
  refine Decidable.byContradiction fun hn=>?_
  have h2:=h1.1 (hz.2 fun x hx=>?_)
  ·omega
  ·obtain ⟨i,hi,rfl⟩:=List.mem_iff_getElem.1 hx
   refine Decidable.byContradiction fun hx=>hn ⟨i,by rw [hl] at hi; exact hi,?_⟩
   rw [List.getD_eq_getElem?_getD,List.getElem?_eq_getElem hi]
   exact hx
theorem reaches_any (w:World) (a1:Option Addr) (c1:Nat) (p:List Nat) (b wo r:Nat) (e:b=64 * wo + r) (hr:r < 64) (h1:ReadsU w a1 p) (p1:Wds p) (l1:p.length≤30000) (hwo:wo < p.length) :
  Gives Tryz.prog 226 #[.slice a1 p.length c1,.int .i64 b] w (.bool (decide (2 ^ b≤vW p))):=by
 unfold Gives
 have HS:=hd_ (shift_any w a1 c1 p b wo r e hr h1 p1 l1 hwo)
 have Hiff:=hd_ (reach_iff e hr p1 hwo)
 obtain ⟨m,hm⟩:∃ m,p.length - wo=m:=⟨_,rfl⟩
 have Hwd:=hd_ (shW_wds p1 (wo:=wo) (m:=p.length - wo) hr)
 have Hlen:=hd_ (shW_length p wo r (p.length - wo))
 have hmb:m≤30000:=by omega
 have hm0:0 < m:=by omega
 rw [hm] at HS Hiff Hwd Hlen
 clear e h1 p1 l1 hwo hm hr
 obtain ⟨dd,hdd⟩:∃ dd,decide (2 ^ b≤vW p)=dd:=⟨_,rfl⟩
 have Hdd:=hd_ hdd
 rw [hdd]
 clear hdd
 generalize shW p wo r m=Ls at *
 go_enter Tryz.func226,Tryz.ntmps226
 go_wp2_with fail
 refine cm_ HS.out ?_
 rintro e w1 ⟨a,c,rfl,ho,hb⟩
 have HO:=hd_ ho
 have HB:=hd_ hb
 clear ho hb HS
 go_wp2_with fail
 go_loopw [11] (fun i wr=>∃ k:Nat,k≤m∧i = .int .i64 k∧Hid (∀ j,j < k→Ls.getD j 0=0)∧Hid (Below w1.heap.size w1 wr)) (fun i _=>m - (intOf i).toNat)
 case atStart=>exact ⟨0,Nat.zero_le _,rfl,fun j hj=>absurd hj (Nat.not_lt_zero j),Below.refl _ _⟩
 case round =>
  obtain ⟨k,hk,rfl,HZ,HB2⟩:=hrel
  by_cases hlt:k < m
  ·obtain ⟨g,rfl,hg1,hg2,hg3,hg4,hg5⟩:=HO.out.open (by rw [Hlen.out]; omega)
   have ce:=hg4 k (by rw [Hlen.out]; exact hlt)
   rw [← HB2.out.cell (p:=⟨g,k,none⟩) hg2] at ce
   have hkw:IntKind.i64.wrap ((k:Int) + 1)=((k + 1:Nat):Int):=by rw [← Int.natCast_succ]; exact iw_ _ (by omega)
   have hlt':(k:Int) < m:=by omega
   obtain ⟨x,hx⟩:∃ x,Ls.getD k 0=x:=⟨_,rfl⟩
   have Hx:=hd_ hx
   rw [hx] at ce
   clear hx hg4 hg5 hg3
   by_cases h0:x=0
   ·have HZ2:Hid (∀ j,j < k + 1→Ls.getD j 0=0):=fun j hj=>by
     rcases Nat.lt_or_ge j k with h | h
     ·exact HZ.out j h
     ·obtain rfl:j=k:=by omega
      rw [Hx.out,h0]
    subst h0
    go_wp2_with fail
    refine ⟨⟨k + 1,by omega,by go_num,HZ2,HB2⟩,by simp [intOf]; omega⟩
   ·have Hd:Hid (dd=true):=by
     show _=_
     rw [← Hdd.out,decide_eq_true_eq]
     exact Hiff.out.1 ⟨k,hlt,by rw [Hx.out]; exact h0⟩
    go_wp2_with fail
    go_ret
    exact ⟨by rw [Hd.out]; rfl,HB.out.trans (HB2.out.mono HB.out.size)⟩
  ·obtain rfl:k=m:=by omega
   have Hd:Hid (dd=false):=by
    show _=_
    rw [← Hdd.out,decide_eq_false_iff_not]
    intro hc
    obtain ⟨i,hi,hne⟩:=Hiff.out.2 hc
    exact hne (HZ.out i hi)
   go_wp2_with fail
   go_ret
   exact ⟨by rw [Hd.out]; rfl,HB.out.trans (HB2.out.mono HB.out.size)⟩
end Go.Proofs.YtnjedhgcfeoemaaGreatDoor

namespace Go.Proofs.YtnjedhgcfeoemaaGreatDoor
open Go.RowKit
theorem bits_two (w:World) (L:Laid w):Gives Tryz.prog 127 #[.string (dec 2)] w (.int .i64 2):=by
 unfold Gives
 have h:=smallS_any w 2 (by rw [show (dec 2).size=1 by decide +kernel]; decide) L
 rw [if_pos (by decide)] at h
 have H:=hd_ h
 have Hl:Hid (∀ W:World,Calls Tryz.prog 191 #[.int .u64 2] W fun e w'=>e = .returned (.int .i64 2)∧w'=W):=fun W=>by
  have:=Tryz.bits_Len64 2 W (by decide) (by decide)
  rw [show ((Lib.bitLen ((2:Int).toNat):Nat):Int)=2 by decide +kernel] at this
  exact this
 clear L h
 generalize dec 2=s at *
 go_enter Tryz.func127,Tryz.ntmps127
 go_wp2_with fail
 refine cm_ H.out ?_
 rintro e w1 ⟨rfl,hb1⟩
 have B1:=hd_ hb1
 clear hb1 H
 go_wp2_with fail
 refine cm_ (Hl.out _) ?_
 rintro e w2 ⟨rfl,rfl⟩
 clear Hl
 go_wp2_with fail
 go_ret
 exact ⟨rfl,B1.out⟩
theorem readsU_one {w:World} {g:Nat} {t:TypeId} (h:w.heap[g]?=some (.cells #[.int .u64 1] t (0,0))):ReadsU w (some ⟨g,0,none⟩) (limbs 1):=by
 have e:limbs 1=[1]:=by decide +kernel
 rw [e]
 refine .inr ⟨g,0,rfl,(Array.getElem?_eq_some_iff.1 h).1,fun i hi=>?_⟩
 have:i=0:=by simp at hi; exact hi
 subst this
 rw [cell_of_row w g 0 _ t (0,0) h]; rfl
theorem size_pow (D y:Nat) (h:y < D):(dec (2 ^ y)).size≤D:=by
 rw [size_lt _ _ (by omega)]
 exact Nat.lt_of_le_of_lt (Nat.pow_le_pow_left (by decide) y) (Nat.pow_lt_pow_right (by decide) h)
theorem limbs_two (n y:Nat) (hn:n≤4000) (hy:y≤n):(limbs (2 ^ y)).length≤10000 :=
 limbs_of_dec _ 10000 (by decide) (size_pow 10000 y (by omega))
theorem size_two (n:Nat) (hn:n≤4000):(dec (2 ^ n)).size≤4001:=size_pow 4001 n (by omega)
theorem i64_and1 (n:Int):bits .and .i64 n 1=n % 2:=by
 have h1:(BitVec.ofInt 64 1).toNat=2 ^ 1 - 1:=by decide
 have key:(BitVec.ofInt 64 n &&& BitVec.ofInt 64 1).toNat=(n % ((2 ^ 64:Nat):Int)).toNat % 2 ^ 1:=by
  rw [BitVec.toNat_and,BitVec.toNat_ofInt,h1,Nat.and_two_pow_sub_one_eq_mod]
 show IntKind.i64.wrap ((BitVec.ofInt 64 n &&& BitVec.ofInt 64 1).toNat:Nat)=n % 2
 rw [key,IntKind.wrap_i64]
 omega
theorem and_one (k:Nat) (_:k < 4001):(bits BinOp.and IntKind.i64 (k:Nat) 1 == 1)=decide (k % 2=1):=by
 rw [i64_and1]
 by_cases h:k % 2=1
 ·rw [decide_eq_true h,beq_iff_eq]; omega
 ·rw [decide_eq_false h,beq_eq_false_iff_ne]; omega
theorem times_two (W:World) (n x y:Nat) (hn:n≤4000) (hx:x≤n) (hy:y≤n) (a1 a2:Option Addr) (c1 c2:Nat) (h1:ReadsU W a1 (limbs (2 ^ x))) (h2:ReadsU W a2 (limbs (2 ^ y))) :
  Calls Tryz.prog 141 #[.slice a1 (limbs (2 ^ x)).length c1,.slice a2 (limbs (2 ^ y)).length c2] W fun e w'=>∃ a c,e = .returned (.slice a (limbs (2 ^ (x + y))).length c)∧ReadsU w' a (limbs (2 ^ (x + y)))∧Below W.heap.size W w':=by
 have l1:=limbs_two n x hn hx
 have l2:=limbs_two n y hn hy
 refine cm_ (times_any W a1 a2 c1 c2 _ _ h1 h2 (limbs_pcs _) (limbs_pcs _) (by omega) (by omega)) ?_
 rintro e w' ⟨a,c,rfl,ho,hb⟩
 rw [val_limbs,val_limbs,← Nat.pow_add] at *
 exact ⟨a,c,rfl,ho.reads,hb⟩
theorem power2_any (w:World) (n:Nat) (hn:n≤4000) (L:Laid w):Gives Tryz.prog 69 #[.string (dec 2),.int .i64 n] w (.tuple #[.string (dec (2 ^ n)),.int .i64 0]):=by
 unfold Gives
 have hz:=is_zero 2
 have ho:=is_one 2
 rw [decide_eq_false (by decide)] at hz ho
 have Hb:Hid (∀ W,Below w.heap.size w W→Gives Tryz.prog 127 #[.string (dec 2)] W (.int .i64 2)):=fun W hW=>bits_two W (L.below hW)
 have Hc:Hid (∀ W,GivesU 140 #[.string (dec 2)] W 2):=fun W=>cutD W 2 (by unfold Num; rw [show (dec 2).size=1 by decide +kernel]; decide)
 have Hs:=hd_ (size_two n hn)
 clear L
 by_cases h0:n=0
 ·subst h0
  have Hv:Hid (dec (2 ^ 0)=⟨#[49]⟩):=by show _=_; rw [Nat.pow_zero,dec_one]
  generalize dec (2 ^ 0)=vv at *
  clear Hb Hc hn
  generalize dec 2=s at *
  go_enter Tryz.func69,Tryz.ntmps69
  go_wp2_with fail
  go_ret2
  exact ⟨by rw [Hv.out]; rfl,Below.refl _ _⟩
 ·have hn0:((n:Int) == 0)=false:=by rw [beq_eq_false_iff_ne]; omega
  have hnn:¬ (n:Int) < 0:=by omega
  have hnl:¬ (66439:Int) < n:=by omega
  unfold GivesU at Hc
  obtain ⟨vv,hvv⟩:∃ s,dec (2 ^ n)=s:=⟨_,rfl⟩
  have Hvv:=hd_ hvv
  rw [hvv] at Hs ⊢
  clear hvv
  generalize dec 2=s at *
  go_enter Tryz.func69,Tryz.ntmps69
  go_wp2_with fail
  refine cm_ (Hb.out _ (Below.refl _ _)) ?_
  rintro e w1 ⟨rfl,hb1⟩
  have B1:=hd_ hb1
  clear hb1 Hb
  go_wp2_with fail
  have B2:=hd_ (B1.out.alloc B1.out.size (.cells #[.int .u64 1] 193))
  have R1:Hid (ReadsU (w1.alloc (.cells #[.int .u64 1] 193)) (some ⟨w1.heap.size,0,none⟩) (limbs 1)):=readsU_one (Go.heap_alloc_new w1 _)
  generalize w1.alloc (.cells #[.int .u64 1] 193)=w2 at *
  clear B1
  refine cm_ (Hc.out _) ?_
  rintro e w3 ⟨a3,c3,rfl,ho,hb⟩
  have B3:=hd_ (B2.out.trans (hb.mono B2.out.size))
  have R2:=hd_ ho.reads
  replace R1:=hd_ (R1.out.below hb nr_)
  clear hb ho Hc B2
  have Hl1:Hid ((limbs 1).length=1):=hd_ (by decide +kernel)
  go_wp2_with fail
  go_loopw [1,7,8] (fun m o q wr=>∃ (k x y:Nat) (a1 a2:Option Addr) (c1 c2:Nat),m = .int .i64 k∧k≤n∧o = .slice a1 (limbs (2 ^ x)).length c1∧q = .slice a2 (limbs (2 ^ y)).length c2∧Hid (x + y * k=n)∧Hid (y≤n)∧Hid (ReadsU wr a1 (limbs (2 ^ x)))∧Hid (ReadsU wr a2 (limbs (2 ^ y)))∧Hid (Below w.heap.size w wr)) (fun m _ _ _=>(intOf m).toNat)
  case atStart =>
   refine ⟨n,0,1,some ⟨w1.heap.size,0,none⟩,a3,1,c3,rfl,Nat.le_refl _,by rw [Nat.pow_zero,Hl1.out],rfl,?_,?_,R1,R2,B3⟩
   ·show _=_; omega
   ·show _≤_; omega
  case round =>
   clear R1 R2 B3
   obtain ⟨k,x,y,a1,a2,c1,c2,rfl,hk,rfl,rfl,Hxy,Hy,R1,R2,B⟩:=hrel
   have Hx:Hid (x≤n):=by show _≤_; have:=Hxy.out; omega
   by_cases hk0:k=0
   ·subst hk0
    have hk1:¬ (0:Int) < ((0:Nat):Int):=by omega
    have Hx2:Hid (x=n):=by show _=_; have:=Hxy.out; omega
    rw [Hx2.out] at R1 ⊢
    have Hte:Hid (Gives Tryz.prog 142 #[.slice a1 (limbs (2 ^ n)).length c1] wr (.string vv)):=by
     have:=text_any wr a1 c1 (2 ^ n) R1.out (by have:=limbs_two n n hn nr_; omega)
     rw [Hvv.out] at this
     exact this
    have hsz:¬ (20000:Int) < vv.size:=by have:=Hs.out; omega
    go_wp2_with fail
    refine cm_ Hte.out ?_
    rintro e w9 ⟨rfl,hb⟩
    have B9:=hd_ (B.out.trans (hb.mono B.out.size))
    clear hb Hte
    go_wp2_with fail
    go_ret2
    exact ⟨rfl,B9.out⟩
   ·have hk1:(0:Int) < k:=by omega
    have hb:=and_one k (by omega)
    by_cases hodd:k % 2=1
    ·rw [decide_eq_true hodd] at hb
     have Ht:Hid (Calls Tryz.prog 141 #[.slice a1 (limbs (2 ^ x)).length c1,.slice a2 (limbs (2 ^ y)).length c2] wr fun e w'=>∃ a c,e = .returned (.slice a (limbs (2 ^ (x + y))).length c)∧ReadsU w' a (limbs (2 ^ (x + y)))∧Below wr.heap.size wr w'):=times_two wr n x y hn Hx.out Hy.out a1 a2 c1 c2 R1.out R2.out
     go_wp2_with fail
     refine cm_ Ht.out ?_
     rintro e w5 ⟨a5,c5,rfl,r5,hb5⟩
     have B5:=hd_ (B.out.trans (hb5.mono B.out.size))
     replace R1:=hd_ r5
     replace R2:=hd_ (R2.out.below hb5 nr_)
     clear hb5 r5 B Ht
     by_cases hk2:1 < k
     ·have hk2':(1:Int) < k:=by omega
      have Hxy2:Hid (x + y + (y + y) * (k / 2)=n):=by
       show _=_
       have h1:=Hxy.out
       obtain ⟨h,rfl⟩:∃ h,k=2 * h + 1:=⟨k / 2,by omega⟩
       rw [show (2 * h + 1) / 2=h by omega,Nat.add_mul]
       rw [Nat.mul_add,Nat.mul_left_comm] at h1
       omega
      have Ht:Hid (Calls Tryz.prog 141 #[.slice a2 (limbs (2 ^ y)).length c2,.slice a2 (limbs (2 ^ y)).length c2] w5 fun e w'=>∃ a c,e = .returned (.slice a (limbs (2 ^ (y + y))).length c)∧ReadsU w' a (limbs (2 ^ (y + y)))∧Below w5.heap.size w5 w'):=times_two w5 n y y hn Hy.out Hy.out a2 a2 c2 c2 R2.out R2.out
      go_wp2_with fail
      refine cm_ Ht.out ?_
      rintro e w6 ⟨a6,c6,rfl,r6,hb6⟩
      have B6:=hd_ (B5.out.trans (hb6.mono B5.out.size))
      replace R2:=hd_ r6
      replace R1:=hd_ (R1.out.below hb6 nr_)
      clear hb6 r6 B5 Ht
      go_wp2_with fail
      go_roundw
      case rel =>
       refine ⟨k / 2,x + y,y + y,_,_,_,_,by go_num,by omega,rfl,rfl,Hxy2,?_,R1,R2,B6⟩
       show _≤_
       have:=Hxy.out
       have h2:y * 2≤y * k:=Nat.mul_le_mul_left _ (by omega)
       omega
      case measure=>simp [intOf]; omega
     ·have hk2':¬ (1:Int) < k:=by omega
      go_wp2_with fail
      go_roundw
      case rel =>
       refine ⟨k / 2,x + y,y,_,_,_,_,by go_num,by omega,rfl,rfl,?_,Hy,R1,R2,B5⟩
       show _=_
       have:=Hxy.out
       have e1:k=1:=by omega
       subst e1
       have e2:(1 / 2:Nat)=0:=rfl
       rw [e2]
       omega
      case measure=>simp [intOf]; omega
    ·rw [decide_eq_false hodd] at hb
     by_cases hk2:1 < k
     ·have hk2':(1:Int) < k:=by omega
      have Hxy2:Hid (x + (y + y) * (k / 2)=n):=by
       show _=_
       have h1:=Hxy.out
       obtain ⟨h,rfl⟩:∃ h,k=2 * h:=⟨k / 2,by omega⟩
       rw [show (2 * h) / 2=h by omega,Nat.add_mul]
       rw [Nat.mul_left_comm] at h1
       omega
      have Ht:Hid (Calls Tryz.prog 141 #[.slice a2 (limbs (2 ^ y)).length c2,.slice a2 (limbs (2 ^ y)).length c2] wr fun e w'=>∃ a c,e = .returned (.slice a (limbs (2 ^ (y + y))).length c)∧ReadsU w' a (limbs (2 ^ (y + y)))∧Below wr.heap.size wr w'):=times_two wr n y y hn Hy.out Hy.out a2 a2 c2 c2 R2.out R2.out
      go_wp2_with fail
      refine cm_ Ht.out ?_
      rintro e w6 ⟨a6,c6,rfl,r6,hb6⟩
      have B6:=hd_ (B.out.trans (hb6.mono B.out.size))
      replace R2:=hd_ r6
      replace R1:=hd_ (R1.out.below hb6 nr_)
      clear hb6 r6 B Ht
      go_wp2_with fail
      go_roundw
      case rel =>
       refine ⟨k / 2,x,y + y,_,_,_,_,by go_num,by omega,rfl,rfl,Hxy2,?_,R1,R2,B6⟩
       show _≤_
       have:=Hxy.out
       have h2:y * 2≤y * k:=Nat.mul_le_mul_left _ (by omega)
       omega
      case measure=>simp [intOf]; omega
     ·omega
theorem p2:True:=trivial
end Go.Proofs.YtnjedhgcfeoemaaGreatDoor

namespace Go.Proofs.YtnjedhgcfeoemaaGreatDoor.LN
def lgGo (unit:Nat):Nat→Nat→Nat→Nat→Option Nat
 | 0,_,_,out=>some out
 | n + 1,lo,hi,out =>
  if 2 * unit≤lo * lo / unit then lgGo unit n (lo * lo / unit / 2) ((hi * hi / unit + 1) / 2 + 1) (2 * out + 1)
  else if 2 * unit≤hi * hi / unit + 1 then none
  else lgGo unit n (lo * lo / unit) (hi * hi / unit + 1) (2 * out)
def lg (p k n more:Nat):Option Nat:=lgGo (2 ^ more) n (p * 2 ^ (more - k)) (p * 2 ^ (more - k)) k
def dotI:List Int→List Int→Int
 | a :: l,b :: m=>a * b + dotI l m
 | _,_=>0
def sumAbs (l:List Int):Nat:=(l.map Int.natAbs).sum
def comb (x:Int) (u:List Int) (y:Int) (v:List Int):List Int:=List.zipWith (fun a b=>x * a - y * b) u v
theorem dotI_comb (x y:Int):∀ (u v k:List Int),u.length=v.length→dotI (comb x u y v) k=x * dotI u k - y * dotI v k
 | [],[],_,_=>by simp [comb,dotI]
 | a :: u,b :: v,[],_=>by simp [comb,dotI]
 | a :: u,b :: v,c :: k,h=>by
  have ih:=dotI_comb x y u v k (by simpa using h)
  have e:comb x (a :: u) y (b :: v)=(x * a - y * b) :: comb x u y v:=rfl
  rw [e]
  simp only [dotI]
  rw [ih]
  grind
 | [],_ :: _,_,h=>by simp at h
 | _ :: _,[],_,h=>by simp at h
theorem dotI_le (K:Nat):∀ (u k:List Int),(∀ x∈k,x.natAbs≤K)→(dotI u k).natAbs≤sumAbs u * K
 | [],_,_=>by simp [dotI]
 | _ :: _,[],_=>by simp [dotI]
 | a :: u,b :: k,h=>by
  have ih:=dotI_le K u k fun x hx=>h x (List.mem_cons_of_mem _ hx)
  have hb:=h b List.mem_cons_self
  have e:sumAbs (a :: u)=a.natAbs + sumAbs u:=by simp [sumAbs]
  rw [e,Nat.add_mul]
  simp only [dotI]
  have h1:=Int.natAbs_add_le (a * b) (dotI u k)
  rw [Int.natAbs_mul] at h1
  have h2:a.natAbs * b.natAbs≤a.natAbs * K:=Nat.mul_le_mul_left _ hb
  omega
def unitRow (m i:Nat) (d:Int):List Int:=(List.range m).map fun j=>if j=i then d else 0
def combs (m:Nat):List Int→List (List Int)→List Int
 | x :: l,u :: ls=>comb x u (-1) (combs m l ls)
 | _,_=>List.replicate m 0
theorem combs_length (m:Nat):∀ (l:List Int) (U:List (List Int)),(∀ u∈U,u.length=m)→(combs m l U).length=m
 | [],_,_=>by simp [combs]
 | _ :: _,[],_=>by simp [combs]
 | x :: l,u :: U,h=>by
  have ih:=combs_length m l U fun v hv=>h v (List.mem_cons_of_mem _ hv)
  simp only [combs,comb,List.length_zipWith,ih,h u List.mem_cons_self,Nat.min_self]
theorem dotI_zero (m:Nat) (k:List Int):dotI (List.replicate m 0) k=0:=by
 induction m generalizing k with
 | zero=>rfl
 | succ m ih =>
  cases k with
  | nil=>rfl
  | cons b k=>rw [List.replicate_succ,dotI,ih]; simp
theorem dotI_combs (m:Nat) (k:List Int):∀ (l:List Int) (U:List (List Int)),(∀ u∈U,u.length=m)→(∀ u∈U,dotI u k=0)→dotI (combs m l U) k=0
 | [],_,_,_=>by rw [combs]; exact dotI_zero m k; simp
 | _ :: _,[],_,_=>by rw [combs]; exact dotI_zero m k; simp
 | x :: l,u :: U,h,h0=>by
  rw [combs,dotI_comb _ _ _ _ _ (by rw [combs_length m l U fun v hv=>h v (List.mem_cons_of_mem _ hv)]; exact h u List.mem_cons_self),h0 u List.mem_cons_self,
   dotI_combs m k l U (fun v hv=>h v (List.mem_cons_of_mem _ hv)) (fun v hv=>h0 v (List.mem_cons_of_mem _ hv))]
  simp
theorem dotI_unit (d:Int):∀ (m i s:Nat) (k:List Int),dotI ((List.range' s m).map fun j=>if j=i then d else 0) k=if s≤i∧i < s + m then d * k.getD (i - s) 0 else 0
 | 0,i,s,k=>by
  rw [if_neg (by omega)]; rfl
 | m + 1,i,s,[]=>by simp [List.range'_succ,dotI]
 | m + 1,i,s,b :: k=>by
  rw [List.range'_succ,List.map_cons,dotI,dotI_unit d m i (s + 1) k]
  by_cases h:s=i
  ·subst h
   rw [if_pos rfl,if_neg (by omega),if_pos (by omega)]; simp
  ·rw [if_neg h]
   by_cases h2:s + 1≤i∧i < s + 1 + m
   ·rw [if_pos h2,if_pos (by omega)]
    have e:i - s=(i - (s + 1)) + 1:=by omega
    rw [e]; simp
   ·rw [if_neg h2,if_neg (by omega)]; simp
def certOk (a:Int) (L:List Int) (U V:List (List Int)) (d:Int) (K S:Nat):Bool :=
 decide (0 < a) && decide (d≠0) &&
 U.all (fun u=>decide (u.length=L.length) && decide (sumAbs (comb a u (u.headD 0) L) * K + (u.headD 0).natAbs * S < a.natAbs)) &&
 decide (V.length=L.length) && (List.range L.length).all (fun i=>decide (combs L.length (V.getD i []) U=unitRow L.length i d))
theorem cert_zero {a:Int} {L:List Int} {U V:List (List Int)} {d:Int} {K S:Nat} (h:certOk a L U V d K S=true) (k:List Int) (hk:k.length=L.length) (hK:∀ x∈k,x.natAbs≤K) (hS:(dotI L k).natAbs < S) :
  ∀ x∈k,x=0:=by
 unfold certOk at h
 simp only [Bool.and_eq_true,decide_eq_true_eq,List.all_eq_true,List.mem_range] at h
 obtain ⟨⟨⟨⟨ha,hd⟩,hU⟩,hV⟩,hI⟩:=h
 have h0:∀ u∈U,dotI u k=0:=by
  intro u hu
  obtain ⟨h1,h2⟩:=hU u hu
  have e:=dotI_comb a (u.headD 0) u L k h1
  have b:=dotI_le K (comb a u (u.headD 0) L) k hK
  generalize u.headD 0=q at *
  generalize dotI u k=f at *
  generalize dotI L k=T at *
  generalize sumAbs (comb a u q L) * K=A at *
  rw [e] at b
  have h3:(a * f).natAbs≤(a * f - q * T).natAbs + (q * T).natAbs:=by omega
  rw [Int.natAbs_mul,Int.natAbs_mul q T] at h3
  have h5:q.natAbs * T.natAbs≤q.natAbs * S:=Nat.mul_le_mul_left _ (by omega)
  have h6:a.natAbs * f.natAbs < a.natAbs * 1:=by omega
  have h7:f.natAbs < 1:=Nat.lt_of_mul_lt_mul_left h6
  omega
 intro x hx
 obtain ⟨i,hi,rfl⟩:=List.mem_iff_getElem.1 hx
 have h1:=hI i (by omega)
 have h2:=dotI_combs L.length k (V.getD i []) U (fun u hu=>(hU u hu).1) h0
 rw [h1,unitRow,List.range_eq_range',dotI_unit d _ i 0 k,if_pos (by omega)] at h2
 rw [Nat.sub_zero,List.getD_eq_getElem?_getD,List.getElem?_eq_getElem hi,Option.getD_some] at h2
 rcases Int.mul_eq_zero.1 h2 with h3 | h3
 ·exact absurd h3 hd
 ·exact h3
def upT:List (Int×Int)→Nat
 | []=>1
 | x :: l=>x.1.toNat ^ x.2.toNat * upT l
def negT (l:List (Int×Int)):List (Int×Int):=l.map fun x=>(x.1,-x.2)
def signT (l:List (Int×Int)):Int:=if upT (negT l) < upT l then 1 else if upT l < upT (negT l) then -1 else 0
def hiL (f:Int→Nat) (p:Int):Nat:=if p=2 then f p else f p + 1
def loS (f:Int→Nat):List (Int×Int)→Nat
 | []=>0
 | x :: l=>x.2.toNat * f x.1 + loS f l
def hiS (f:Int→Nat):List (Int×Int)→Nat
 | []=>0
 | x :: l=>x.2.toNat * hiL f x.1 + hiS f l
def coefP (p:Int):List (Int×Int)→Int
 | []=>0
 | x :: l=>(if x.1=p then x.2 else 0) + coefP p l
theorem dotI_add (a b:List Int):∀ (u:List Int) (pr:List Int) (g h:Int→Int),dotI u (pr.map fun p=>g p + h p)=dotI u (pr.map g) + dotI u (pr.map h)
 | [],_,_,_=>by simp [dotI]
 | _ :: _,[],_,_=>by simp [dotI]
 | c :: u,p :: pr,g,h=>by
  have ih:=dotI_add a b u pr g h
  simp only [List.map_cons,dotI]
  rw [ih,Int.mul_add]
  omega
theorem dotI_none (f:Int→Int) (c q:Int):∀ pr:List Int,q ∉ pr→dotI (pr.map f) (pr.map fun p=>if q=p then c else 0)=0
 | [],_=>by simp [dotI]
 | p :: pr,h=>by
  simp only [List.mem_cons,not_or] at h
  simp only [List.map_cons,dotI]
  rw [if_neg h.1,dotI_none f c q pr h.2]; simp
theorem dotI_at (f:Int→Int) (c q:Int):∀ pr:List Int,pr.Nodup→q∈pr→dotI (pr.map f) (pr.map fun p=>if q=p then c else 0)=c * f q
 | [],_,h=>by simp at h
 | p :: pr,hd,h=>by
  simp only [List.nodup_cons] at hd
  simp only [List.map_cons,dotI]
  by_cases e:q=p
  ·rw [if_pos e,e,dotI_none f c p pr hd.1,Int.mul_comm]; omega
  ·rw [if_neg e,dotI_at f c q pr hd.2 (by simpa [e] using h)]; omega
def sumT (f:Int→Nat):List (Int×Int)→Int
 | []=>0
 | x :: l=>x.2 * f x.1 + sumT f l
theorem dotI_coef (f:Int→Nat) (pr:List Int) (hd:pr.Nodup):∀ l:List (Int×Int),(∀ x∈l,x.1∈pr)→dotI (pr.map fun p=>(f p:Int)) (pr.map fun p=>coefP p l)=sumT f l
 | [],_=>by
  simp only [coefP,sumT]
  have e:∀ u v:List Int,dotI u (v.map fun _=>0)=0:=by
   intro u
   induction u with
   | nil=>intro v; cases v <;> rfl
   | cons a u ih =>
    intro v
    cases v with
    | nil=>rfl
    | cons b v=>simp only [List.map_cons,dotI]; rw [ih]; simp
  exact e _ _
 | x :: l,h=>by
  have ih:=dotI_coef f pr hd l fun y hy=>h y (List.mem_cons_of_mem _ hy)
  simp only [coefP,sumT]
  rw [dotI_add [] [],ih,dotI_at _ _ _ pr hd (h x List.mem_cons_self)]
theorem coefP_none (p:Int):∀ l:List (Int×Int),p ∉ l.map Prod.fst→coefP p l=0
 | [],_=>rfl
 | x :: l,h=>by
  simp only [List.map_cons,List.mem_cons,not_or] at h
  rw [coefP,if_neg (fun e=>h.1 e.symm),coefP_none p l h.2]; rfl
theorem coefP_mem:∀ l:List (Int×Int),(l.map Prod.fst).Nodup→∀ x∈l,coefP x.1 l=x.2
 | [],_,_,h=>by cases h
 | y :: l,hd,x,h=>by
  simp only [List.map_cons,List.nodup_cons] at hd
  rcases List.mem_cons.1 h with rfl | h
  ·rw [coefP,if_pos rfl,coefP_none _ l hd.1]; omega
  ·rw [coefP,if_neg (fun e=>hd.1 (by rw [e]; exact List.mem_map.2 ⟨x,h,rfl⟩)),coefP_mem l hd.2 x h]; omega
theorem coefP_le (K:Nat) (l:List (Int×Int)) (hd:(l.map Prod.fst).Nodup) (hK:∀ x∈l,x.2.natAbs≤K) (p:Int):(coefP p l).natAbs≤K:=by
 by_cases h:p∈l.map Prod.fst
 ·obtain ⟨x,hx,rfl⟩:=List.mem_map.1 h
  rw [coefP_mem l hd x hx]; exact hK x hx
 ·rw [coefP_none p l h]; simp
theorem hiS_le (f:Int→Nat) (K:Nat):∀ l:List (Int×Int),(∀ x∈l,x.2.natAbs≤K)→hiS f l≤loS f l + l.length * K
 | [],_=>by simp [hiS,loS]
 | x :: l,h=>by
  have ih:=hiS_le f K l fun y hy=>h y (List.mem_cons_of_mem _ hy)
  have hx:=h x List.mem_cons_self
  have e:hiL f x.1≤f x.1 + 1:=by unfold hiL; split <;> omega
  have e2:x.2.toNat * hiL f x.1≤x.2.toNat * (f x.1 + 1):=Nat.mul_le_mul_left _ e
  rw [Nat.mul_add] at e2
  rw [hiS,loS,List.length_cons,Nat.add_mul]
  omega
theorem sumT_eq (f:Int→Nat):∀ l:List (Int×Int),sumT f l=(loS f l:Int) - (loS f (negT l):Int)
 | []=>rfl
 | x :: l=>by
  have ih:=sumT_eq f l
  have e:negT (x :: l)=(x.1,-x.2) :: negT l:=rfl
  rw [sumT,ih,e,loS,loS]
  rw [Int.natCast_add,Int.natCast_add,Int.natCast_mul,Int.natCast_mul]
  have h:x.2=(x.2.toNat:Int) - ((-x.2).toNat:Int):=by omega
  generalize (x.2.toNat:Int)=a at *
  generalize ((-x.2).toNat:Int)=b at *
  rw [h]
  grind
theorem ends_decide {a d:Int} {pr:List Int} {f:Int→Nat} {U V:List (List Int)} {K S:Nat} (hc:certOk a (pr.map fun p=>(f p:Int)) U V d K S=true) (hp:pr.Nodup) (l:List (Int×Int)) (hl:l.length * K≤S) (hne:l≠[])
  (hm:∀ x∈l,x.1∈pr∧x.2≠0∧x.2.natAbs≤K) (hd:(l.map Prod.fst).Nodup):hiS f (negT l)≤loS f l∨hiS f l≤loS f (negT l):=by
 have h1:=hiS_le f K l fun x hx=>(hm x hx).2.2
 have h2:=hiS_le f K (negT l) (by
  intro x hx
  obtain ⟨y,hy,rfl⟩:=List.mem_map.1 hx
  have:=(hm y hy).2.2
  show (-y.2).natAbs≤K
  omega)
 have e:(negT l).length=l.length:=by simp [negT]
 rw [e] at h2
 have h3:=sumT_eq f l
 by_cases hT:(sumT f l).natAbs < S
 ·exfalso
  rw [← dotI_coef f pr hp l fun x hx=>(hm x hx).1] at hT
  have h4:=cert_zero hc (pr.map fun p=>coefP p l) (by simp) (by
   intro x hx
   obtain ⟨p,_,rfl⟩:=List.mem_map.1 hx
   exact coefP_le K l hd (fun y hy=>(hm y hy).2.2) p) hT
  match l,hne with
  | x :: r,_ =>
   have h5:=h4 _ (List.mem_map.2 ⟨x.1,(hm x List.mem_cons_self).1,rfl⟩)
   rw [coefP_mem _ hd x List.mem_cons_self] at h5
   exact (hm x List.mem_cons_self).2.1 h5
 ·omega
def certL:List Int:=[179769313486231590772930519078902473361797697894230657273430081157732675805500963132708477322407536021120113879871393357658789768814416622492847430639474124377767893424865485276302219601246094119453082952085005768838150682342462881473913110540827237163350510684586298239947245938479716304835356329624224137216,284927620656063089346731796384423062894173922742544388268143673752537756183546571537032060353371466816773127126641744722713352439279873718317761842880439823388246733129821933154999969794940367169528507713597703293501225656468836512330451109106556546484957172329017475735990380315252547391823925065085415830706,417411419582294732896156489886154238448013320157255640262591015340590871398055171674354685851436277043969488387805834784269416499993679630854470083136767565961762416444355884854643698642680661331046329726609798457044907851814692689997919935740891485193992980213442174017676677705033790300799565328174789721477,504676267050488686437106225422580597666894180115835423443227083307798182118129470961836692572602004275197053008847790122226159407050037386686227374490996006831065115100048654528796805287857493370208467706711144940390867662095296958256666553836865344662997681178618211252555414200909783814338893188237609625780,621899647134989863023931440843230302890983592943748869067988172264563165309608343386292530753941856327296297447054373896510077744639892806611394391743834589735893855764598242929310750820193556622274206181954361442867402987237247717098957447016989915817775870019501087911877572648074267091007255239964369023968,665225507727408465455298695894691710776360314087386563812869573730968267223165639273012984180830913649657093046906068992579944353826624953775464535759564037586356204133016200974813196209296864512605219833214582093815415417608006173877679388939375373503941628536552970450384072436140060704944322076520073283839]
def certU:List (List Int):=[[1361033472052420067100991309064931182091716853391540550899091113545676748165654069454734507830540625923066749738613742662526501494649565328672781710912470855,2157187015429401542138602315378835738079865318741913695197763694877679196962452355322909935492129080345135728398755778866915216677702864904886518349498144093,3160221856840607851781685108452959817026979136557082784519095198183545416828782748691856911460833185893891199012493182590421586823167653542796686423181411803,3820904016851512035743762372109566630477041885378486680143976467669200300212202542157276498189701081899028256409122481989077119745557940859571796331901780602,4708402227241844230881350710329385429292965180311929874646927949603148181156687490795565250855988629463347595457426767248645121403373850130316622376205655824,5036422317702249347264984242308634347603162440235819245412201338095351364705523284785619822633893970185542775747311911336783041820236677902723153542003541995],
 [299687973565947336953693908348658651332127021025370730890883623972659747075648952750207292919729408951165823130818603758290601433328042680561826125489066428,474994200019139640690896719015381054735292729699790408945830646826654284457084852625941217336849063751168404185314953447875618807762968794960545658399964795,695853925522634307249243517247788056805708280722354982344522670436784936810433857855919843198532036588375876439367016064304325129116049564645826288286436995,841330507671831406218103970697802099080070115711533135025373126392723083358858942563189157022256615979955037365105244659930907228808843221236499661374110289,1036750051479376748850033988793626597154995220661079736838726668451637290619206291200505783075082688000877676034076233903503798073310428799011686117489740735,1108977280432649241595140457724586490268455016437124571879230895310093956060594635296497046358777904624265570982229960398488559448522718359131628436452776618],
 [2001432095227681370883033031250657280124239008502396240436193329269779899751073734437881335263033118934661407649401662184445142860843476241971244864603027187,3172194818675649062031549948976346458446291575480633127138527180430090144149945657870703384176547217957998590193298519253946520383353142275844076215046404066,4647181411918432184657996063106137228541057445042859272797028758732513247711022952874593278003645411586711998681909461184937906440067320029532798507864848774,5618730243701494716647491390234016366368147732801005815257985401286419595231562467358169747618992550500502402060613155528580022043540105943291290066113212642,6923817472786135026020292681272359069572685393380617174853881444661977508302607758245986734774019457876979478431489431680461110991886850855640535885324347296,7406178818342856776067456999577349708314416427421774025318657928833991150289316239750934511444397348343774950016253631819156198089215566095848780701490864144],
 [528536423608438686412855271308878199418637088432614320111589911024224382198177128949494362669026076740489188478845726431331723513448155828996706397443325180,837710411684647310522312564104097923139117177113334471362723484405395424151008043983617035281865417395962957088666166267423693251318731944589703713618244329,1227223571147721963246630617648243717815284933494361643201768985968400112439714151460557394407565771139456530795453357502363423731760793034538519393449417404,1483789330303873215968878480452065504812046379488041405674753539793795422454494893163083848604039861079831537330639296756576330493295598940741832154454008688,1828435615432509255958100752235191297210724831090028852837000190432020360373150501910418670178265213952829967280722348250891518419506460528213470146761147669,1955817174404911741025196141353996465572258277146385975044836535532311654150798060211842806764077658974214099154631403207719281988005843100572202176183955081],
 [-1468711569869691212917947732134083722669835323809775214024289413578456753408037268869249086956462231433613497000907220577351639694601234134310649204034172316,-2327852762618760886438615551826346136370330168494265847894449738559028087832799593039841031943095790346604355658488125946578561954780542160298345901268352557,-3410242657366559293362990450499318662931329652440687467996352748484304130112546146565531321508257651827946757887834523977466162302035935620424198790339117028,-4123194654756628344277387666377040541457073401299737549360184284561605431593927292627723203544564083235736204424728469325429173003124213574712357752737593408,-5080907243465631775491331725106607667567794020555851403113895506647993464455619343303375350433823317991140303009422864311178241460123997725934828520026953170,-5434878627639161137069877451178110586761807883549011422834890840123801581219167459321135220817687924522379993148257513492372263375648300907571638870552930820],
 [-2527278727899951042357277652887687714676139814654455825895183801797394312577171470996587787488447973546590744938596754242248050652665729495409064860168750388,-4005642012591688830853788306767450225437525695850649207367482469960977507820045796608400918880715182390339297186644147711819811945556751576743803637464260210,-5868159481922089932185961686356109783421000151793657433855863935794100273872111461436697788866984813598223636272238364084392763747068349791942404099818116664,-7094968376181407917698486220318039050815038790087114445294460660285453776174777870811938078891803417542019334178004801170201148860672020225345222745338937759,-8742947940406537175524478993752549231321711125631551583381469936189250544112233396909737085879577827848253228263908699479854100689968661105092076296067226517,-9352042583534072783038683109624319367784842669410329692573031045141955386391775295867783423242100705425423420660519481116735025587912157359844666391581864370]]
def certV:List (List Int):=[[-5056625427619646027375557688934,22492767048728521515228088672644,100757843318868131663255231251409,-109175424216025810518427626349458,43791622722594357708666376464250,31456010246780842523074201168758],
 [14843321736870989170892935211302,-1566413707272055504716434875294,-13231873144781301898553196621410,-4473938268507226690064737724278,-7234649816335129238870443013471,597916375160099280812978039558],
 [-10106195131634014064109565408074,-23752526617964760938273316614011,-2161618493810056733233408947394,11217398622667791280982723293654,-1919025075220832533891098335435,-6509868020063796828750396523277],
 [6851462341036060952856831869449,6038656074418965050194601037329,-11645716143813286921558515426769,2256681498008609696986867869759,5109170126994287454266492989097,-7313988198921797883712129588856],
 [-20280857652371422586076982416269,3240353442599273281533504304323,-6207198472621478050629739916295,10933570427373787624652298476831,-12444462319387663796445073593709,-5934842575408006771328159897859],
 [15112292982976400489100645344947,1886037157824657007738630660331,-5566814279214676496689364407767,12447496499081282177953624596476,226561372143848006543391518164,6425156145734365554949928231685]]
theorem cert_ok:certOk (2 ^ 1024) certL certU certV 1 (2 ^ 100) (2 ^ 503)=true:=by decide +kernel
end Go.Proofs.YtnjedhgcfeoemaaGreatDoor.LN

namespace Go.Proofs.YtnjedhgcfeoemaaGreatDoor
def digIt (unit:Nat):Nat→Nat×Nat×Nat→Option (Nat×Nat×Nat)
 | 0,s=>some s
 | n + 1,s=>(digStep unit s).bind (digIt unit n)
theorem digIt_snoc (unit:Nat):∀ (n:Nat) (s:Nat×Nat×Nat),digIt unit (n + 1) s=(digIt unit n s).bind (digStep unit)
 | 0,s=>by simp [digIt]
 | n + 1,s=>by
  show (digStep unit s).bind (digIt unit (n + 1))=((digStep unit s).bind (digIt unit n)).bind (digStep unit)
  cases digStep unit s with
  | none=>rfl
  | some t=>exact digIt_snoc unit n t
theorem digs_it (p more:Nat):∀ n,digs p more n=digIt (2 ^ more) n (p * 2 ^ (more - p.log2),p * 2 ^ (more - p.log2),p.log2)
 | 0=>rfl
 | n + 1=>by rw [digIt_snoc,← digs_it p more n]; rfl
theorem lgGo_it (unit:Nat):∀ (n lo hi out:Nat),LN.lgGo unit n lo hi out=(digIt unit n (lo,hi,out)).map fun s=>s.2.2
 | 0,_,_,_=>rfl
 | n + 1,lo,hi,out=>by
  unfold LN.lgGo digIt digStep
  simp only
  split
  ·rw [lgGo_it unit n]; rfl
  ·split
   ·rfl
   ·rw [lgGo_it unit n]; rfl
theorem lg_digs (p n more:Nat):LN.lg p p.log2 n more=(digs p more n).map fun s=>s.2.2:=by
 rw [digs_it]; exact lgGo_it _ _ _ _ _
structure Finer (u:Nat) (s t:Nat×Nat×Nat):Prop where
 lo:s.1 * u≤t.1
 hi:t.2.1≤s.2.1 * u
 out:t.2.2=s.2.2
 le:t.1≤t.2.1
theorem finer_step {unit u:Nat} (hu:0 < u) (h0:0 < unit) {s t s':Nat×Nat×Nat} (h:Finer u s t) (hs:digStep unit s=some s'):∃ t',digStep (unit * u) t=some t'∧Finer u s' t':=by
 obtain ⟨l,g,o⟩:=s
 obtain ⟨l2,g2,o2⟩:=t
 obtain ⟨hl,hg,ho,hle⟩:=h
 simp only at hl hg ho hle
 subst ho
 have q1:l * l / unit * u≤l2 * l2 / (unit * u):=by
  rw [Nat.le_div_iff_mul_le (Nat.mul_pos h0 hu)]
  have a:=Nat.div_mul_le_self (l * l) unit
  calc l * l / unit * u * (unit * u)=(l * l / unit * unit) * (u * u):=by ac_rfl
   _≤l * l * (u * u):=Nat.mul_le_mul_right _ a
   _=(l * u) * (l * u):=by ac_rfl
   _≤_:=Nat.mul_le_mul hl hl
 have q2:g2 * g2 / (unit * u) + 1≤(g * g / unit + 1) * u:=by
  rw [Nat.add_one_le_iff,Nat.div_lt_iff_lt_mul (Nat.mul_pos h0 hu)]
  have a:=Nat.lt_div_mul_add (a:=g * g) h0
  have b:g * g < (g * g / unit + 1) * unit:=by rw [Nat.add_mul,Nat.one_mul]; exact a
  calc g2 * g2≤(g * u) * (g * u):=Nat.mul_le_mul hg hg
   _=g * g * (u * u):=by ac_rfl
   _ < (g * g / unit + 1) * unit * (u * u):=Nat.mul_lt_mul_of_pos_right b (Nat.mul_pos hu hu)
   _=_:=by ac_rfl
 have q3:l2 * l2 / (unit * u)≤g2 * g2 / (unit * u) + 1:=Nat.le_succ_of_le (Nat.div_le_div_right (Nat.mul_le_mul hle hle))
 have e2:2 * (unit * u)=2 * unit * u:=by rw [Nat.mul_assoc]
 simp only [digStep] at hs ⊢
 generalize l * l / unit=A at *
 generalize g * g / unit + 1=B at *
 generalize l2 * l2 / (unit * u)=A2 at *
 generalize g2 * g2 / (unit * u) + 1=B2 at *
 by_cases h1:2 * unit≤A
 ·rw [if_pos h1] at hs
  cases hs
  have h2:2 * (unit * u)≤A2:=by rw [e2]; exact Nat.le_trans (Nat.mul_le_mul_right _ h1) q1
  rw [if_pos h2]
  refine ⟨_,rfl,?_,?_,rfl,by simp only; omega⟩
  ·show A / 2 * u≤A2 / 2
   rw [Nat.le_div_iff_mul_le (by decide)]
   calc A / 2 * u * 2=A / 2 * 2 * u:=by ac_rfl
    _≤A * u:=Nat.mul_le_mul_right _ (Nat.div_mul_le_self _ _)
    _≤_:=q1
  ·show B2 / 2 + 1≤(B / 2 + 1) * u
   have h3:B2 / 2 < (B / 2 + 1) * u:=by
    rw [Nat.div_lt_iff_lt_mul (by decide)]
    have h4:B + 1≤(B / 2 + 1) * 2:=by omega
    have h5:(B + 1) * u≤(B / 2 + 1) * 2 * u:=Nat.mul_le_mul_right _ h4
    have h6:(B / 2 + 1) * 2 * u=(B / 2 + 1) * u * 2:=by ac_rfl
    rw [Nat.add_mul] at h5
    omega
   exact h3
 ·rw [if_neg h1] at hs
  by_cases h2:2 * unit≤B
  ·rw [if_pos h2] at hs; cases hs
  ·rw [if_neg h2] at hs
   cases hs
   have h3:B2 < 2 * (unit * u):=by
    rw [e2]
    exact Nat.lt_of_le_of_lt q2 (Nat.mul_lt_mul_of_pos_right (by omega) hu)
   rw [if_neg (by omega),if_neg (by omega)]
   exact ⟨_,rfl,q1,q2,rfl,q3⟩
theorem finer_it {unit u:Nat} (hu:0 < u) (h0:0 < unit):∀ (n:Nat) {s t s':Nat×Nat×Nat},Finer u s t→digIt unit n s=some s'→∃ t',digIt (unit * u) n t=some t'∧Finer u s' t'
 | 0,s,t,s',h,hs=>by cases hs; exact ⟨t,rfl,h⟩
 | n + 1,s,t,s',h,hs=>by
  obtain ⟨m,h1,h2⟩:=Option.bind_eq_some_iff.1 hs
  obtain ⟨m',h3,h4⟩:=finer_step hu h0 h h1
  obtain ⟨t',h5,h6⟩:=finer_it hu h0 n h4 h2
  exact ⟨t',by show (digStep (unit * u) t).bind _=_; rw [h3]; exact h5,h6⟩
theorem digs_more {p more m2 n:Nat} (hp:p.log2≤more) (hm:more≤m2) {s:Nat×Nat×Nat} (h:digs p more n=some s):∃ t,digs p m2 n=some t∧t.2.2=s.2.2:=by
 rw [digs_it] at h ⊢
 have e:(2:Nat) ^ m2=2 ^ more * 2 ^ (m2 - more):=by rw [← Nat.pow_add]; congr 1; omega
 have e2:p * 2 ^ (m2 - p.log2)=p * 2 ^ (more - p.log2) * 2 ^ (m2 - more):=by rw [Nat.mul_assoc,← Nat.pow_add]; congr 2; omega
 obtain ⟨t,h1,h2⟩:=finer_it (Nat.two_pow_pos (m2 - more)) (Nat.two_pow_pos more) n (s:=(p * 2 ^ (more - p.log2),p * 2 ^ (more - p.log2),p.log2)) (t:=(p * 2 ^ (m2 - p.log2),p * 2 ^ (m2 - p.log2),p.log2)) ⟨by rw [e2]; exact Nat.le_refl _,by rw [e2]; exact Nat.le_refl _,rfl,Nat.le_refl _⟩ h
 rw [e]
 exact ⟨t,h1,h2.out⟩
theorem digs_fewer {p more:Nat}:∀ {n m:Nat},m≤n→(digs p more n).isSome=true→(digs p more m).isSome=true
 | 0,m,h,hs=>by rw [Nat.le_zero.1 h]; exact hs
 | n + 1,m,h,hs=>by
  rcases Nat.lt_or_eq_of_le h with h | h
  ·refine digs_fewer (Nat.lt_succ_iff.1 h) ?_
   cases hd:digs p more n with
   | none=>rw [digs,hd] at hs; cases hs
   | some s=>rfl
  ·rw [h]; exact hs
theorem digs_some_of_lg {p n more:Nat} (h:(LN.lg p p.log2 n more).isSome=true):(digs p more n).isSome=true:=by
 rw [lg_digs] at h
 simpa using h
def oddP:List Nat:=[3,5,7,11,13,17,19,23,29,31,37,41,43,47,53,59,61,67,71,73,79,83,89,97]
theorem lg_all:oddP.all (fun p=>(LN.lg p p.log2 1056 1120).isSome)=true:=by decide +kernel
theorem oddP_log {p:Nat} (h:p∈oddP):p.log2≤6:=by
 have:∀ q∈oddP,q.log2≤6:=by decide
 exact this p h
theorem oddP_odd {p:Nat} (h:p∈oddP):p % 2=1∧3≤p∧p≤97:=by
 have:∀ q∈oddP,q % 2=1∧3≤q∧q≤97:=by decide
 exact this p h
theorem digs_ok {p n more:Nat} (hp:p∈oddP) (hn:n≤1056) (hm:1120≤more):(digs p more n).isSome=true:=by
 have h:=lg_all
 rw [List.all_eq_true] at h
 have h1:=digs_fewer (m:=n) hn (digs_some_of_lg (h p hp))
 have hl:=oddP_log hp
 obtain ⟨s,hs⟩:=Option.isSome_iff_exists.1 h1
 obtain ⟨t,ht,_⟩:=digs_more (m2:=more) (by omega) (by omega) hs
 rw [ht]; rfl
theorem isLg_one {p N a b:Nat} (h1:IsLg p N a) (h2:IsLg p N b):a=b:=by
 have e1:2 ^ a < 2 ^ (b + 1):=Nat.lt_of_le_of_lt h1.1 h2.2
 have e2:2 ^ b < 2 ^ (a + 1):=Nat.lt_of_le_of_lt h2.1 h1.2
 have f1:=(Nat.pow_lt_pow_iff_right (by decide)).1 e1
 have f2:=(Nat.pow_lt_pow_iff_right (by decide)).1 e2
 omega
def lgN (p:Int) (n:Nat):Nat:=if p=2 then 2 ^ n else match digs p.toNat 1120 n with
 | some s=>s.2.2
 | none=>0
theorem digs_lgN {p n more:Nat} (hp:p∈oddP) (hn:n≤1056) (hm:6≤more) {s:Nat×Nat×Nat} (h:digs p more n=some s):s.2.2=lgN p n:=by
 have hl:=oddP_log hp
 have ho:=oddP_odd hp
 have h1:=(digs_inv p more (by omega) (by omega) n s h).lg
 obtain ⟨t,ht⟩:=Option.isSome_iff_exists.1 (digs_ok hp hn (Nat.le_refl 1120))
 have h2:=(digs_inv p 1120 (by omega) (by omega) n t ht).lg
 have e:lgN p n=t.2.2:=by
  unfold lgN
  rw [if_neg (by omega),Int.toNat_natCast,ht]
 rw [e]
 exact isLg_one h1 h2
theorem lgN_is {p n:Nat} (hp:p∈oddP) (hn:n≤1056):IsLg p (2 ^ n) (lgN p n):=by
 have hl:=oddP_log hp
 have ho:=oddP_odd hp
 obtain ⟨t,ht⟩:=Option.isSome_iff_exists.1 (digs_ok hp hn (Nat.le_refl 1120))
 have h2:=(digs_inv p 1120 (by omega) (by omega) n t ht).lg
 rw [digs_lgN hp hn (by decide) ht] at h2
 exact h2
theorem lgN_two (n:Nat):lgN 2 n=2 ^ n:=by unfold lgN; rw [if_pos rfl]
theorem lgN_le {p n:Nat} (hp:p=2∨p∈oddP) (hn:n≤1056):lgN p n < 7 * 2 ^ n:=by
 rcases hp with rfl | hp
 ·have:=Nat.two_pow_pos n
  rw [show ((2:Nat):Int)=2 from rfl,lgN_two]; omega
 ·have ho:=oddP_odd hp
  have h:=(lgN_is hp hn).1
  have h1:p ^ (2 ^ n) < (2 ^ 7) ^ (2 ^ n):=Nat.pow_lt_pow_left (by omega) (Nat.ne_of_gt (Nat.two_pow_pos n))
  rw [← Nat.pow_mul] at h1
  have h2:=Nat.lt_of_le_of_lt h h1
  exact (Nat.pow_lt_pow_iff_right (by decide)).1 h2
end Go.Proofs.YtnjedhgcfeoemaaGreatDoor

namespace Go.Proofs.YtnjedhgcfeoemaaGreatDoor
open Go.RowKit
theorem dec_two:dec 2=⟨#[50]⟩:=by
 have:(dec 2).data = #[50]:=by decide +kernel
 exact ByteArray.ext this
theorem num_two {x K:Nat} (h:x < 2 ^ K) (hK:K < 100000):Num x:=by
 unfold Num
 have h1:(dec x).size≤K + 1:=by
  rw [size_lt _ _ (by omega)]
  exact Nat.lt_of_lt_of_le h (Nat.le_trans (Nat.pow_le_pow_left (by decide) K) (Nat.pow_le_pow_right (by decide) (by omega)))
 omega
theorem wpow2 (w:World) (n:Nat) (hn:n≤4000) (L:Laid w):Gives Tryz.prog 18 #[.string ⟨#[50]⟩,.int .i64 n] w (.tuple #[.string (dec (2 ^ n)),.int .i64 0]):=by
 unfold Gives
 have hs:=split_any w 2
 rw [show itx 2=dec 2 by exact itx_nat 2,show ((2:Int).natAbs)=2 from rfl,dec_two,decide_eq_false (by decide)] at hs
 have Hs:=hd_ hs
 have Hp:Hid (∀ W,Below w.heap.size w W→Gives Tryz.prog 69 #[.string ⟨#[50]⟩,.int .i64 n] W (.tuple #[.string (dec (2 ^ n)),.int .i64 0])):=fun W hW=>by
  have:=power2_any W n hn (L.below hW)
  rw [dec_two] at this
  exact this
 have hN:Num (2 ^ n):=num_two (K:=n + 1) (Nat.pow_lt_pow_right (by decide) (by omega)) (by omega)
 have Hj:Hid (∀ W,Gives Tryz.prog 70 #[.bool false,.string (dec (2 ^ n))] W (.string (dec (2 ^ n)))):=fun W=>by
  have:=join_any W false (2 ^ n) hN
  rw [show jz false (2 ^ n)=((2 ^ n:Nat):Int) from rfl,itx_nat] at this
  exact this
 clear hs L hN
 generalize dec (2 ^ n)=s at *
 have h0:¬ (n:Int) < 0:=by omega
 have h1:¬ (4000:Int) < n:=by omega
 have hsz:((⟨#[50]⟩:ByteArray).size:Int)=1:=rfl
 go_enter Tryz.func18,Tryz.ntmps18
 go_wp2_with fail
 refine cm_ Hs.out ?_
 rintro e w1 ⟨rfl,hb⟩
 have B1:=hd_ hb
 clear hb Hs
 go_wp2_with fail
 refine cm_ (Hp.out _ B1.out) ?_
 rintro e w2 ⟨rfl,hb⟩
 have B2:=hd_ (B1.out.trans (hb.mono B1.out.size))
 clear hb Hp B1
 go_wp2_with fail
 refine cm_ (Hj.out _) ?_
 rintro e w3 ⟨rfl,hb⟩
 have B3:=hd_ (B2.out.trans (hb.mono B2.out.size))
 clear hb Hj B2
 go_wp2_with fail
 go_ret2
 exact ⟨rfl,B3.out⟩
theorem addD (w:World) (a b K:Nat) (hK:K < 90000) (ha:a < 2 ^ K) (hb:b < 2 ^ K) (L:Laid w):Gives Tryz.prog 20 #[.string (dec a),.string (dec b)] w (.string (dec (a + b))):=by
 have hn:=num_two ha (by omega)
 have hm:=num_two hb (by omega)
 have hs:Num (a + b):=num_two (K:=K + 1) (by rw [Nat.pow_succ]; omega) (by omega)
 have:=addz_any w (a:Int) (b:Int) hn hm hs L
 rw [← Int.natCast_add,itx_nat,itx_nat,itx_nat] at this
 exact this
theorem mulD (w:World) (a b K:Nat) (hK:K < 40000) (ha:a < 2 ^ K) (hb:b < 2 ^ K) (L:Laid w):Gives Tryz.prog 115 #[.string (dec a),.string (dec b)] w (.string (dec (a * b))):=by
 have hn:=num_two ha (by omega)
 have hm:=num_two hb (by omega)
 have hs:ZNum ((a:Int) * b):=num_two (K:=K + K) (by rw [← Int.natCast_mul,Int.natAbs_natCast,Nat.pow_add]; exact Nat.mul_lt_mul'' ha hb) (by omega)
 have:=mulz_any w (a:Int) (b:Int) hn hm hs L
 rw [← Int.natCast_mul,itx_nat,itx_nat,itx_nat] at this
 exact this
theorem divD (w:World) (a b K:Nat) (hK:K < 90000) (ha:a < 2 ^ K) (hb:b < 2 ^ K) (h0:0 < b) (L:Laid w):Gives Tryz.prog 163 #[.string (dec a),.string (dec b)] w (.tuple #[.string (dec (a / b)),.string (dec (a % b)),.int .i64 0]):=by
 have hn:=num_two ha (by omega)
 have hm:=num_two hb (by omega)
 have hs:Num ((a:Int).natAbs + 1):=num_two (K:=K + 1) (by rw [Int.natAbs_natCast,Nat.pow_succ]; omega) (by omega)
 have:=divmodz_any w (a:Int) b hn hm h0 hs L
 rw [(ediv_nat a b).1,(ediv_nat a b).2,itx_nat,itx_nat,itx_nat] at this
 exact this
structure DigB (more n:Nat) (s:Nat×Nat×Nat):Prop where
 lo:s.1 < 2 * 2 ^ more
 hi:s.2.1 < 2 * 2 ^ more
 out:s.2.2 < 2 ^ (n + 3)
theorem log2_le (p:Nat) (hp:2≤p) (hp2:p≤97):p.log2≤6:=by
 have:=(Nat.log2_lt (n:=p) (k:=7) (by omega)).2 (by omega)
 omega
theorem digs_b (p more:Nat) (hp:2≤p) (hp2:p≤97) (hm:64≤more):∀ n s,digs p more n=some s→DigB more n s
 | 0,s,h=>by
  simp only [digs,Option.some.injEq] at h
  subst h
  have h1:p < 2 ^ (p.log2 + 1):=Nat.lt_log2_self
  have h2:=log2_le p hp hp2
  have h3:p * 2 ^ (more - p.log2) < 2 ^ (p.log2 + 1) * 2 ^ (more - p.log2):=Nat.mul_lt_mul_of_pos_right h1 (Nat.two_pow_pos _)
  rw [← Nat.pow_add,show p.log2 + 1 + (more - p.log2)=1 + more by omega,Nat.pow_add,Nat.pow_one] at h3
  exact ⟨h3,h3,by show p.log2 < 2 ^ 3; omega⟩
 | n + 1,s,h=>by
  simp only [digs] at h
  obtain ⟨t,ht,hs⟩:=Option.bind_eq_some_iff.1 h
  obtain ⟨f1,f2,f3⟩:=digs_b p more hp hp2 hm n t ht
  obtain ⟨l,g,o⟩:=t
  simp only at f1 f2 f3
  simp only [digStep] at hs
  have hu:=Nat.two_pow_pos more
  have hu2:2 ^ 1≤2 ^ more:=Nat.pow_le_pow_right (by decide) (by omega)
  obtain ⟨u,eu⟩:∃ u,2 ^ more=u:=⟨_,rfl⟩
  rw [eu] at hu hu2 f1 f2 hs
  have q1:l * l / u < 4 * u:=by
   rw [Nat.div_lt_iff_lt_mul hu]
   calc l * l < 2 * u * (2 * u):=Nat.mul_lt_mul'' f1 f1
    _=4 * u * u:=by grind
  have q2:g * g / u + 1≤4 * u - 3:=by
   have h1:g * g≤(2 * u - 1) * (2 * u - 1):=Nat.mul_le_mul (by omega) (by omega)
   have h2:g * g / u < 4 * u - 3:=by
    rw [Nat.div_lt_iff_lt_mul hu]
    obtain ⟨v,rfl⟩:∃ v,u=v + 1:=⟨u - 1,by omega⟩
    have e1:2 * (v + 1) - 1=2 * v + 1:=by omega
    have e2:4 * (v + 1) - 3=4 * v + 1:=by omega
    rw [e1] at h1
    rw [e2]
    have e3:(2 * v + 1) * (2 * v + 1)=4 * (v * v) + 4 * v + 1:=by grind
    have e4:(4 * v + 1) * (v + 1)=4 * (v * v) + 5 * v + 1:=by grind
    rw [e3] at h1
    rw [e4]
    omega
   omega
  have eo:2 ^ (n + 1 + 3)=2 * 2 ^ (n + 3):=by rw [show n + 1 + 3=n + 3 + 1 by omega,Nat.pow_succ]; omega
  by_cases h1:2 * u≤l * l / u
  ·rw [if_pos h1] at hs
   cases hs
   exact ⟨by simp only; rw [eu]; omega,by simp only; rw [eu]; omega,by simp only; omega⟩
  ·rw [if_neg h1] at hs
   by_cases h2:2 * u≤g * g / u + 1
   ·rw [if_pos h2] at hs; cases hs
   ·rw [if_neg h2] at hs
    cases hs
    exact ⟨by simp only; rw [eu]; omega,by simp only; rw [eu]; omega,by simp only; omega⟩
theorem digs_none {p more j n:Nat} (h:digs p more j=none) (hj:j≤n):digs p more n=none:=by
 cases hd:digs p more n with
 | none=>rfl
 | some s =>
  have:=digs_fewer (m:=j) hj (show (digs p more n).isSome=true by rw [hd]; rfl)
  rw [h] at this
  cases this
end Go.Proofs.YtnjedhgcfeoemaaGreatDoor

namespace Go.Proofs.YtnjedhgcfeoemaaGreatDoor
open Go.RowKit
end Go.Proofs.YtnjedhgcfeoemaaGreatDoor

namespace Go.Proofs.YtnjedhgcfeoemaaGreatDoor
open Go.RowKit
end Go.Proofs.YtnjedhgcfeoemaaGreatDoor

namespace Go.Proofs.YtnjedhgcfeoemaaGreatDoor
open Go.RowKit
theorem cap_sq (u E T:Nat) (h:E * E≤u * T):(2 * u + E) * (2 * u + E)≤u * (4 * u + 4 * E + T):=by
 have e1:(2 * u + E) * (2 * u + E)=u * (4 * u) + u * (4 * E) + E * E:=by
  rw [Nat.mul_add,Nat.add_mul,Nat.add_mul]
  have a1:2 * u * (2 * u)=4 * (u * u):=Nat.mul_mul_mul_comm 2 u 2 u
  have a5:u * (4 * u)=4 * (u * u):=Nat.mul_left_comm ..
  have a2:E * (2 * u)=2 * (u * E):=by rw [Nat.mul_left_comm,Nat.mul_comm E u]
  have a3:2 * u * E=2 * (u * E):=Nat.mul_assoc ..
  have a4:u * (4 * E)=4 * (u * E):=Nat.mul_left_comm ..
  omega
 rw [e1,Nat.mul_add,Nat.mul_add]
 omega
theorem cap_step {u E T hi:Nat} (h:E * E≤u * T) (hh:hi≤2 * u + E):hi * hi / u≤4 * u + 4 * E + T:=by
 have h1:hi * hi≤u * (4 * u + 4 * E + T):=Nat.le_trans (Nat.mul_le_mul hh hh) (cap_sq u E T h)
 exact Nat.div_le_of_le_mul h1
theorem digs_cap {p P:Nat} (hp:p.log2≤P) (h0:0 < p):∀ n,n≤1000→n + 64≤P→∀ s,digs p P n=some s→s.2.1≤2 * 2 ^ P + 2 ^ (n + 2) * (n + 1)
 | 0,_,_,s,h=>by
  simp only [digs,Option.some.injEq] at h
  subst h
  have h1:p < 2 ^ (p.log2 + 1):=Nat.lt_log2_self
  have h3:p * 2 ^ (P - p.log2) < 2 ^ (p.log2 + 1) * 2 ^ (P - p.log2):=Nat.mul_lt_mul_of_pos_right h1 (Nat.two_pow_pos _)
  rw [← Nat.pow_add,show p.log2 + 1 + (P - p.log2)=P + 1 by omega,Nat.pow_succ] at h3
  show p * 2 ^ (P - p.log2)≤_
  omega
 | n + 1,hn,hP,s,h=>by
  simp only [digs] at h
  obtain ⟨t,ht,hs⟩:=Option.bind_eq_some_iff.1 h
  have ih:=digs_cap hp h0 n (by omega) (by omega) t ht
  obtain ⟨l,g,o⟩:=t
  simp only at ih
  have hE:(2 ^ (n + 2) * (n + 1)) * (2 ^ (n + 2) * (n + 1))≤2 ^ P * 2 ^ n:=by
   have h1:(n + 1)≤2 ^ 10:=by omega
   have h2:2 ^ (n + 2) * (n + 1)≤2 ^ (n + 2) * 2 ^ 10:=Nat.mul_le_mul_left _ h1
   have h3:(2 ^ (n + 2) * (n + 1)) * (2 ^ (n + 2) * (n + 1))≤(2 ^ (n + 2) * 2 ^ 10) * (2 ^ (n + 2) * 2 ^ 10):=Nat.mul_le_mul h2 h2
   refine Nat.le_trans h3 ?_
   rw [← Nat.pow_add,← Nat.pow_add,← Nat.pow_add]
   exact Nat.pow_le_pow_right (by decide) (by omega)
  have h2:=cap_step hE ih
  have e1:2 ^ (n + 1 + 2) * (n + 1 + 1)=2 * (2 ^ (n + 2) * (n + 1)) + 8 * 2 ^ n:=by
   rw [show n + 1 + 2=(n + 2) + 1 by omega,Nat.pow_succ 2 (n + 2),show 8 * 2 ^ n=2 ^ (n + 2) * 2 by rw [Nat.pow_add]; omega,Nat.mul_add (2 ^ (n + 2) * 2) (n + 1) 1,Nat.mul_one,Nat.mul_comm (2 ^ (n + 2)) 2,Nat.mul_assoc]
  have hp0:=Nat.two_pow_pos n
  rw [e1]
  simp only [digStep] at hs
  generalize 2 ^ (n + 2) * (n + 1)=E at *
  generalize g * g / 2 ^ P=G at *
  generalize l * l / 2 ^ P=M at *
  generalize 2 ^ P=u at *
  generalize 2 ^ n=T at *
  by_cases c1:2 * u≤M
  ·rw [if_pos c1] at hs
   cases hs
   show (G + 1) / 2 + 1≤_
   omega
  ·rw [if_neg c1] at hs
   by_cases c2:2 * u≤G + 1
   ·rw [if_pos c2] at hs; cases hs
   ·rw [if_neg c2] at hs
    cases hs
    show G + 1≤_
    omega
theorem digs_le {p P:Nat}:∀ n s,digs p P n=some s→s.1≤s.2.1
 | 0,s,h=>by
  simp only [digs,Option.some.injEq] at h
  subst h
  exact Nat.le_refl _
 | n + 1,s,h=>by
  simp only [digs] at h
  obtain ⟨t,ht,hs⟩:=Option.bind_eq_some_iff.1 h
  have ih:=digs_le n t ht
  obtain ⟨l,g,o⟩:=t
  simp only at ih
  have h2:l * l / 2 ^ P≤g * g / 2 ^ P:=Nat.div_le_div_right (Nat.mul_le_mul ih ih)
  simp only [digStep] at hs
  generalize g * g / 2 ^ P=G at *
  generalize l * l / 2 ^ P=M at *
  generalize 2 ^ P=u at *
  by_cases c1:2 * u≤M
  ·rw [if_pos c1] at hs
   cases hs
   show M / 2≤(G + 1) / 2 + 1
   omega
  ·rw [if_neg c1] at hs
   by_cases c2:2 * u≤G + 1
   ·rw [if_pos c2] at hs; cases hs
   ·rw [if_neg c2] at hs
    cases hs
    show M≤G + 1
    omega
theorem fit_words {P n hi:Nat} (hn:n≤1000) (hP:n + 64≤P) (h:hi≤2 * 2 ^ P + 2 ^ (n + 2) * (n + 1)):hi < 18446744073709551616 ^ (P / 64 + 2):=by
 have h1:(n + 1)≤2 ^ 10:=by omega
 have h2:2 ^ (n + 2) * (n + 1)≤2 ^ (n + 2) * 2 ^ 10:=Nat.mul_le_mul_left _ h1
 have h3:2 ^ (n + 2) * 2 ^ 10≤2 ^ P:=by
  rw [← Nat.pow_add]
  exact Nat.pow_le_pow_right (by decide) (by omega)
 have e:(18446744073709551616:Nat)=2 ^ 64:=by decide
 rw [e,← Nat.pow_mul]
 have h4:2 ^ (P + 2)≤2 ^ (64 * (P / 64 + 2)):=Nat.pow_le_pow_right (by decide) (by omega)
 rw [Nat.pow_add] at h4
 have h5:=Nat.two_pow_pos P
 omega
end Go.Proofs.YtnjedhgcfeoemaaGreatDoor

namespace Go.Proofs.YtnjedhgcfeoemaaGreatDoor
open Go.RowKit
def stepE (u l g:Nat):Option (Bool×Nat×Nat) :=
 if 2 * u≤l * l / u then some (true,l * l / u / 2,(g * g / u + 1) / 2 + 1)
 else if 2 * u≤g * g / u + 1 then none else some (false,l * l / u,g * g / u + 1)
theorem digStep_step (u l g o:Nat):digStep u (l,g,o)=(stepE u l g).map fun x=>(x.2.1,x.2.2,2 * o + x.1.toNat):=by
 unfold stepE
 simp only [digStep]
 split
 ·rfl
 ·split <;> rfl
def bitE (p P j:Nat):Bool:=match digs p P (j + 1) with
 | some s=>s.2.2 % 2 == 1
 | none=>false
def bitsE (p P n:Nat):List Bool:=(List.range n).map (bitE p P)
theorem bitsE_length (p P n:Nat):(bitsE p P n).length=n:=by simp [bitsE]
theorem bitsE_succ (p P n:Nat):bitsE p P (n + 1)=bitsE p P n ++ [bitE p P n]:=by simp [bitsE,List.range_succ]
theorem bitsE_get (p P n j:Nat) (h:j < n):(bitsE p P n).getD j false=bitE p P j:=by
 unfold bitsE
 rw [List.getD_eq_getElem?_getD,List.getElem?_map,List.getElem?_range h]; rfl
theorem step_digs {p P n l g o:Nat} (h:digs p P n=some (l,g,o)) :
  digs p P (n + 1)=(stepE (2 ^ P) l g).map fun x=>(x.2.1,x.2.2,2 * o + x.1.toNat):=by
 simp only [digs,h,Option.bind_some]
 exact digStep_step ..
theorem step_some {p P n l g o:Nat} {b:Bool} {l' g':Nat} (h:digs p P n=some (l,g,o)) (hs:stepE (2 ^ P) l g=some (b,l',g')) :
  digs p P (n + 1)=some (l',g',2 * o + b.toNat)∧bitE p P n=b:=by
 have h1:=step_digs h
 rw [hs] at h1
 refine ⟨h1,?_⟩
 unfold bitE
 rw [h1]
 show ((2 * o + b.toNat) % 2 == 1)=b
 cases b
 ·have:(2 * o + 0) % 2=0:=by omega
  show ((2 * o + 0) % 2 == 1)=false
  rw [this]; rfl
 ·have:(2 * o + 1) % 2=1:=by omega
  show ((2 * o + 1) % 2 == 1)=true
  rw [this]; rfl
theorem step_none {p P n l g o:Nat} (h:digs p P n=some (l,g,o)) (hs:stepE (2 ^ P) l g=none):digs p P (n + 1)=none:=by
 rw [step_digs h,hs]; rfl
theorem digs_bit {p P n:Nat} {s t:Nat×Nat×Nat} (h:digs p P n=some s) (h2:digs p P (n + 1)=some t):t.2.2=2 * s.2.2 + (bitE p P n).toNat:=by
 obtain ⟨l,g,o⟩:=s
 cases hs:stepE (2 ^ P) l g with
 | none=>rw [step_none h hs] at h2; cases h2
 | some x =>
  obtain ⟨b,l',g'⟩:=x
  obtain ⟨h3,h4⟩:=step_some h hs
  rw [h3] at h2
  cases h2
  rw [h4]
/-! The words of a prime. -/
theorem vW_two (m i x y:Nat) (h:i + 1 < m):vW (((List.replicate m 0).set i x).set (i + 1) y)=18446744073709551616 ^ i * (x + 18446744073709551616 * y):=by
 have h1:=vW_set (List.replicate m 0) i x (by simp; omega)
 have h2:=vW_set ((List.replicate m 0).set i x) (i + 1) y (by simp; omega)
 have e1:(List.replicate m 0).getD i 0=0:=by rw [List.getD_eq_getElem?_getD,List.getElem?_replicate]; split <;> rfl
 have e2:((List.replicate m 0).set i x).getD (i + 1) 0=0:=by
  rw [List.getD_eq_getElem?_getD,List.getElem?_set_ne (by omega),List.getElem?_replicate]; split <;> rfl
 rw [e1,vW_zeros,Nat.mul_zero,Nat.zero_add] at h1
 rw [e2,Nat.mul_zero] at h2
 simp only [Nat.add_zero] at h1 h2
 rw [h2,h1,Nat.mul_add,Nat.pow_succ,Nat.mul_assoc]
theorem vW_one (m i x:Nat) (h:i < m):vW ((List.replicate m 0).set i x)=18446744073709551616 ^ i * x:=by
 have h1:=vW_set (List.replicate m 0) i x (by simp; omega)
 have e1:(List.replicate m 0).getD i 0=0:=by rw [List.getD_eq_getElem?_getD,List.getElem?_replicate]; split <;> rfl
 rw [e1,vW_zeros,Nat.mul_zero,Nat.zero_add] at h1
 simpa using h1
def begW (p at_ m:Nat):List Nat :=
 let l:=(List.replicate m 0).set (at_ / 64) (p * 2 ^ (at_ % 64) % 18446744073709551616)
 if 0 < at_ % 64 then l.set (at_ / 64 + 1) (p / 2 ^ (64 - at_ % 64)) else l
theorem begW_length (p at_ m:Nat):(begW p at_ m).length=m:=by unfold begW; dsimp only; split <;> simp
theorem begW_val (p at_ m:Nat) (hp:p < 128) (h:at_ / 64 + 1 < m):vW (begW p at_ m)=p * 2 ^ at_:=by
 have e64:(18446744073709551616:Nat)=2 ^ 64:=by decide
 have ea:2 ^ at_=2 ^ (64 * (at_ / 64)) * 2 ^ (at_ % 64):=by rw [← Nat.pow_add]; congr 1; omega
 have eb:(18446744073709551616:Nat) ^ (at_ / 64)=2 ^ (64 * (at_ / 64)):=by rw [e64,← Nat.pow_mul]
 unfold begW
 dsimp only
 split
 ·rename_i h0
  rw [vW_two m _ _ _ h,eb,ea]
  have e2:p / 2 ^ (64 - at_ % 64)=p * 2 ^ (at_ % 64) / 18446744073709551616:=by
   have e3:(18446744073709551616:Nat)=2 ^ (64 - at_ % 64) * 2 ^ (at_ % 64):=by rw [← Nat.pow_add,show 64 - at_ % 64 + at_ % 64=64 by omega]
   rw [e3,Nat.mul_div_mul_right _ _ (Nat.two_pow_pos _)]
  rw [e2,Nat.mod_add_div,Nat.mul_left_comm]
 ·rename_i h0
  rw [vW_one m _ _ (by omega),eb,ea]
  have h1:at_ % 64=0:=by omega
  rw [h1,Nat.pow_zero,Nat.mul_one,Nat.mul_one,Nat.mod_eq_of_lt (by omega),Nat.mul_comm]
theorem begW_wds (p at_ m:Nat) (hp:p < 128):Wds (begW p at_ m):=by
 have h1:Wds ((List.replicate m 0).set (at_ / 64) (p * 2 ^ (at_ % 64) % 18446744073709551616)):=(Wds.zeros m).set _ _ (Nat.mod_lt _ (by decide))
 unfold begW
 dsimp only
 split
 ·refine h1.set _ _ ?_
  have:=Nat.div_le_self p (2 ^ (64 - at_ % 64))
  omega
 ·exact h1
/-! Digits in groups. -/
end Go.Proofs.YtnjedhgcfeoemaaGreatDoor

namespace Go.Proofs.YtnjedhgcfeoemaaGreatDoor
open Go.RowKit
structure MaS (w:World) (B R P:Nat) (a1:Option Addr) (c1:Nat) (L:List Nat) (a2:Option Addr) (c2:Nat) (H:List Nat):Prop where
 ob:w.heap[R]?=some (.cells #[.slice a1 L.length c1,.slice a2 H.length c2,.int .i64 P] 275 (0,0))
 o1:OwnU w B a1 c1 L
 o2:OwnU w B a2 c2 H
 p1:Wds L
 p2:Wds H
def MaAt (w:World) (B R P lo hi:Nat):Prop:=∃ a1 c1 L a2 c2 H,MaS w B R P a1 c1 L a2 c2 H∧B≤R∧L.length=P / 64 + 2∧H.length=P / 64 + 2∧vW L=lo∧vW H=hi
theorem MaS.below {w w':World} {B R P:Nat} {a1 a2:Option Addr} {c1 c2:Nat} {L H:List Nat} (h:MaS w B R P a1 c1 L a2 c2 H) (hb:Below w.heap.size w w'):MaS w' B R P a1 c1 L a2 c2 H :=
 ⟨by rw [hb.block R (Array.getElem?_eq_some_iff.1 h.ob).1]; exact h.ob,h.o1.below hb nr_,h.o2.below hb nr_,h.p1,h.p2⟩
theorem three_cells {w:World} {g:Nat} {a b c:Value} {t:TypeId} (h:w.heap[g]?=some (.cells #[a,b,c] t (0,0))) :
  w.cell? ⟨g,0,none⟩=some a∧w.cell? ⟨g,1,none⟩=some b∧w.cell? ⟨g,2,none⟩=some c∧(∀ j,w.frozen? ⟨g,j,none⟩=false):=by
 refine ⟨by rw [cell_of_row w g 0 _ t (0,0) h]; rfl,by rw [cell_of_row w g 1 _ t (0,0) h]; rfl,by rw [cell_of_row w g 2 _ t (0,0) h]; rfl,fun j=>?_⟩
 simp [World.frozen?,h]
theorem bits_or_zero (x:Nat) (h:x < 18446744073709551616):bits .or .u64 (0:Int) (x:Int)=(x:Int):=by
 have:=(bits_nat .u64 64 (by decide) (fun n h0 h1=>by rw [IntKind.wrap_u64]; omega) 0 x (by omega) (by omega)).2
 rw [Nat.zero_or] at this
 exact this
theorem begin_any (w:World) (p k P:Nat) (hp:p < 128) (hk:k≤P) (hP:P≤2000) :
  Calls Tryz.prog 195 #[.int .i64 p,.int .i64 k,.int .i64 P] w fun e w'=>∃ R,e = .returned (.pointer (some ⟨R,0,none⟩))∧MaAt w' w.heap.size R P (p * 2 ^ (P - k)) (p * 2 ^ (P - k))∧Below w.heap.size w w':=by
 obtain ⟨n,hn⟩:∃ n,P / 64 + 2=n:=⟨_,rfl⟩
 obtain ⟨t,ht⟩:∃ t,P - k=t:=⟨_,rfl⟩
 have hmk:=made_n n w (by omega)
 have Hown:=hd_ (own_made w (List.replicate n 0) (by simp; omega))
 have Hb:=hd_ ((Below.refl w.heap.size w).alloc nr_ (.cells (u64s (List.replicate n 0)).toArray 193))
 rw [List.length_replicate] at Hown
 obtain ⟨m,hm⟩:∃ m,P / 64=m:=⟨_,rfl⟩
 obtain ⟨i,hi0⟩:∃ i,t / 64=i:=⟨_,rfl⟩
 obtain ⟨r,hr0⟩:∃ r,t % 64=r:=⟨_,rfl⟩
 have hq:Int.tdiv (P:Int) 64=(m:Nat):=by rw [Int.tdiv_eq_ediv_of_nonneg (by omega)]; omega
 have hq':(P:Int) / 64=(m:Nat):=by omega
 have hq3:IntKind.i64.wrap ((m:Int) + 2)=(n:Nat):=by rw [show (m:Int) + 2=(n:Nat) by omega]; exact iw_ _ (by omega)
 have ht2:IntKind.i64.wrap ((P:Int) - k)=(t:Nat):=by rw [show (P:Int) - k=(t:Nat) by omega]; exact iw_ _ (by omega)
 have hd:Int.tdiv (t:Int) 64=(i:Nat):=by rw [Int.tdiv_eq_ediv_of_nonneg (by omega)]; omega
 have hd':(t:Int) / 64=(i:Nat):=by omega
 have hr:Int.tmod (t:Int) 64=(r:Nat):=by rw [Int.tmod_eq_emod_of_nonneg (by omega)]; omega
 have hr':(t:Int) % 64=(r:Nat):=by omega
 have hr64:r < 64:=by omega
 have hi:i + 1 < n:=by omega
 have hval:=begW_val p t n hp (by omega)
 have hwds:=begW_wds p t n hp
 have hlen:=begW_length p t n
 unfold begW at hval hwds hlen
 dsimp only at hval hwds hlen
 rw [hi0,hr0] at hval hwds hlen
 have ce1:(w.alloc (.cells (u64s (List.replicate n 0)).toArray 193)).cell? ⟨w.heap.size,i,none⟩=some (.int .u64 (0:Int)):=by
  obtain ⟨g,hg,hg1,hg2,hg3,hg4,hg5⟩:=Hown.out.open (by simp; omega)
  obtain rfl:w.heap.size=g:=by simpa using hg
  have:=hg4 i (by simp; omega)
  rw [List.getD_eq_getElem?_getD,List.getElem?_replicate,if_pos (by omega)] at this
  exact this
 have fe1:∀ j,(w.alloc (.cells (u64s (List.replicate n 0)).toArray 193)).frozen? ⟨w.heap.size,j,none⟩=false:=by
  obtain ⟨g,hg,hg1,hg2,hg3,hg4,hg5⟩:=Hown.out.open (by simp; omega)
  obtain rfl:w.heap.size=g:=by simpa using hg
  exact hg5
 generalize w.alloc (.cells (u64s (List.replicate n 0)).toArray 193)=w1 at *
 have hival0:bits .or .u64 (0:Int) (IntKind.u64.wrap ((p:Int) * 2 ^ r))=((p * 2 ^ r % 18446744073709551616:Nat):Int):=by
  have e2:IntKind.u64.wrap ((p:Int) * 2 ^ r)=((p * 2 ^ r % 18446744073709551616:Nat):Int):=by
   rw [IntKind.wrap_u64,Int.natCast_emod,Int.natCast_mul,Int.natCast_pow]; rfl
  rw [e2]
  exact bits_or_zero _ (Nat.mod_lt _ (by decide))
 obtain ⟨x,hx⟩:∃ x,p * 2 ^ r % 18446744073709551616=x:=⟨_,rfl⟩
 rw [hx] at hival0 hval hwds hlen
 have hfe:=fe1 i
 have hwp:IntKind.u64.wrap (p:Int)=(p:Int):=IntWalk.u64_in _ (by omega)
 rw [ht]
 go_enter Tryz.func195,Tryz.ntmps195
 go_wp2_with fail
 have HO1:=hd_ (Hown.out.store i x)
 have HB1:=hd_ (Hb.out.setCell (p:=⟨w.heap.size,i,none⟩) nr_ (.int .u64 (x:Nat)))
 have q1:=NW.cell ce1
 have hnon:Nonempty (NW w1):=⟨⟨w1,Below.refl _ _⟩⟩
 have I:Hid (Below w1.heap.size w1 w1.drew):=(Below.refl _ _).drew
 refine RP.wp_region_readers 12 [(2,0),(2,1),(2,2),(2,3),(1,4),(2,5),(2,6),(2,7),(2,8),(2,9),(2,10),(2,11),(0,12)] (fun w'=>∃ p:NW w1,w'=p.w) (by kernel_rfl) (by kernel_rfl) ?_ ?_
 ·exact ⟨⟨_,I.out⟩,rfl⟩
 iterate 4 (refine RP.walkR_any ?_; simp only [dsc_,dz_,tsc_,tz_]; go_big_quiet_step (fail); refine wpQuiet_nil ?_)
 iterate 1 (refine RP.walkR_read ?_; simp only [dsc_,dz_,tsc_,tz_]; go_big_quiet_step (fail); refine wpQuiet_nil ?_)
 iterate 7 (refine RP.walkR_any ?_; simp only [dsc_,dz_,tsc_,tz_]; go_big_quiet_step (fail); refine wpQuiet_nil ?_)
 iterate 1 (refine RP.walkR_move ?_; simp only [dsc_,dz_,tsc_,tz_]; go_wp2_with fail)
 simp only [RP.walkR]
 have HO2:Hid (OwnU (w1.setCell ⟨w.heap.size,i,none⟩ (.int .u64 (x:Nat))).drew w.heap.size (some ⟨w.heap.size,0,none⟩) n ((List.replicate n 0).set i x)):=HO1.out.below (below_drawn _ 1) nr_
 have HB2:Hid (Below w.heap.size w (w1.setCell ⟨w.heap.size,i,none⟩ (.int .u64 (x:Nat))).drew):=below_dn HB1.out 1
 clear HO1 HB1 I hnon q1 ce1 hfe hival0 Hown Hb
 generalize (w1.setCell ⟨w.heap.size,i,none⟩ (.int .u64 (x:Nat))).drew=w2 at *
 by_cases h0:0 < r
 ·have h0':(0:Int) < r:=by omega
  have h64:IntKind.i64.wrap (64 - (r:Int))=((64 - r:Nat):Int):=by rw [show (64:Int) - r=((64 - r:Nat):Int) by omega]; exact iw_ _ (by omega)
  have hi1:IntKind.i64.wrap ((i:Int) + 1)=((i + 1:Nat):Int):=by rw [← Int.natCast_succ]; exact iw_ _ (by omega)
  have hil:((List.replicate n 0).set i x).length=n:=by simp
  have ce2:w2.cell? ⟨w.heap.size,i + 1,none⟩=some (.int .u64 (0:Int)):=by
   obtain ⟨g,hg,hg1,hg2,hg3,hg4,hg5⟩:=HO2.out.open (by simp; omega)
   obtain rfl:w.heap.size=g:=by simpa using hg
   have:=hg4 (i + 1) (by simp; omega)
   rw [List.getD_eq_getElem?_getD,List.getElem?_set_ne (by omega),List.getElem?_replicate,if_pos (by omega)] at this
   exact this
  have fe2:w2.frozen? ⟨w.heap.size,i + 1,none⟩=false:=by
   obtain ⟨g,hg,hg1,hg2,hg3,hg4,hg5⟩:=HO2.out.open (by simp; omega)
   obtain rfl:w.heap.size=g:=by simpa using hg
   exact hg5 _
  obtain ⟨y,hy⟩:∃ y,p / 2 ^ (64 - r)=y:=⟨_,rfl⟩
  have hyp:(p:Int) / 2 ^ (64 - r)=(y:Nat):=by rw [← hy,Int.natCast_ediv,Int.natCast_pow]; rfl
  have hy64:y < 18446744073709551616:=by rw [← hy]; have:=Nat.div_le_self p (2 ^ (64 - r)); omega
  have hor:=bits_or_zero y hy64
  rw [if_pos h0,hy] at hval hwds hlen
  have HV:=hd_ hval
  have HW:=hd_ hwds
  have HL:=hd_ hlen
  have HO3:=hd_ (HO2.out.store (i + 1) y)
  have HB3:=hd_ (HB2.out.setCell (p:=⟨w.heap.size,i + 1,none⟩) nr_ (.int .u64 (y:Nat)))
  have q1:=NW.cell ce2
  have hnon:Nonempty (NW w2):=⟨⟨w2,Below.refl _ _⟩⟩
  have I:Hid (Below w2.heap.size w2 w2.drew):=(Below.refl _ _).drew
  clear hval hwds hlen hy HO2 HB2
  go_wp2_with fail
  refine RP.wp_region_readers 14 [(2,0),(2,1),(2,2),(2,3),(2,4),(1,5),(2,6),(2,7),(2,8),(2,9),(2,10),(2,11),(2,12),(2,13),(0,14)] (fun w'=>∃ p:NW w2,w'=p.w) (by kernel_rfl) (by kernel_rfl) ?_ ?_
  ·exact ⟨⟨_,I.out⟩,rfl⟩
  iterate 5 (refine RP.walkR_any ?_; simp only [dsc_,dz_,tsc_,tz_]; go_big_quiet_step (fail); refine wpQuiet_nil ?_)
  iterate 1 (refine RP.walkR_read ?_; simp only [dsc_,dz_,tsc_,tz_]; go_big_quiet_step (fail); refine wpQuiet_nil ?_)
  iterate 8 (refine RP.walkR_any ?_; simp only [dsc_,dz_,tsc_,tz_]; go_big_quiet_step (fail); refine wpQuiet_nil ?_)
  iterate 1 (refine RP.walkR_move ?_; simp only [dsc_,dz_,tsc_,tz_]; go_wp2_with fail)
  simp only [RP.walkR]
  have HO4:Hid (OwnU (w2.setCell ⟨w.heap.size,i + 1,none⟩ (.int .u64 (y:Nat))).drew w.heap.size (some ⟨w.heap.size,0,none⟩) n (((List.replicate n 0).set i x).set (i + 1) y)):=HO3.out.below (below_drawn _ 1) nr_
  have HB4:Hid (Below w.heap.size w (w2.setCell ⟨w.heap.size,i + 1,none⟩ (.int .u64 (y:Nat))).drew):=below_dn HB3.out 1
  clear HO3 HB3 I hnon q1 ce2 fe2 hor
  generalize (w2.setCell ⟨w.heap.size,i + 1,none⟩ (.int .u64 (y:Nat))).drew=w3 at *
  generalize ((List.replicate n 0).set i x).set (i + 1) y=Ls at *
  have HC:=nclone_any w3 (some ⟨w.heap.size,0,none⟩) n Ls HO4.out.reads (by rw [HL.out]; omega) (by rw [HL.out]; omega)
  rw [HL.out] at HC
  have HC':=hd_ HC
  clear HC
  go_wp2_with fail
  refine cm_ HC'.out ?_
  rintro e w4 ⟨g,d,rfl,ho,hb⟩
  have O1:=hd_ (HO4.out.below hb nr_)
  have O2:=hd_ (ho.mono HB4.out.size)
  have B5:=hd_ (HB4.out.trans (hb.mono HB4.out.size))
  have Hsz:=hd_ B5.out.size
  clear ho hb HC' HO4 HB4
  go_wp2_with fail
  go_ret
  refine ⟨w4.heap.size,rfl,⟨_,_,Ls,_,_,Ls,⟨?_,O1.out.below ((Below.refl _ _).alloc nr_ _) nr_,O2.out.below ((Below.refl _ _).alloc nr_ _) nr_,HW.out,HW.out⟩,Hsz.out,by rw [HL.out]; omega,by rw [HL.out]; omega,HV.out,HV.out⟩,B5.out.alloc Hsz.out _⟩
  have:=heap_alloc_new w4 (.cells #[.slice (some ⟨w.heap.size,0,none⟩) n n,.slice (some ⟨g,0,none⟩) n d,.int .i64 P] 275)
  rw [HL.out]
  exact this
 ·have h0':¬ (0:Int) < r:=by omega
  rw [if_neg h0] at hval hwds hlen
  have HV:=hd_ hval
  have HW:=hd_ hwds
  have HL:=hd_ hlen
  have HO4:=HO2
  have HB4:=HB2
  clear hval hwds hlen HO2 HB2
  generalize w2=w3 at *
  generalize (List.replicate n 0).set i x=Ls at *
  have HC:=nclone_any w3 (some ⟨w.heap.size,0,none⟩) n Ls HO4.out.reads (by rw [HL.out]; omega) (by rw [HL.out]; omega)
  rw [HL.out] at HC
  have HC':=hd_ HC
  clear HC
  go_wp2_with fail
  refine cm_ HC'.out ?_
  rintro e w4 ⟨g,d,rfl,ho,hb⟩
  have O1:=hd_ (HO4.out.below hb nr_)
  have O2:=hd_ (ho.mono HB4.out.size)
  have B5:=hd_ (HB4.out.trans (hb.mono HB4.out.size))
  have Hsz:=hd_ B5.out.size
  clear ho hb HC' HO4 HB4
  go_wp2_with fail
  go_ret
  refine ⟨w4.heap.size,rfl,⟨_,_,Ls,_,_,Ls,⟨?_,O1.out.below ((Below.refl _ _).alloc nr_ _) nr_,O2.out.below ((Below.refl _ _).alloc nr_ _) nr_,HW.out,HW.out⟩,Hsz.out,by rw [HL.out]; omega,by rw [HL.out]; omega,HV.out,HV.out⟩,B5.out.alloc Hsz.out _⟩
  have:=heap_alloc_new w4 (.cells #[.slice (some ⟨w.heap.size,0,none⟩) n n,.slice (some ⟨g,0,none⟩) n d,.int .i64 P] 275)
  rw [HL.out]
  exact this
end Go.Proofs.YtnjedhgcfeoemaaGreatDoor

namespace Go.Proofs.YtnjedhgcfeoemaaGreatDoor
open Go.RowKit
def BitOut (w w':World) (B R P:Nat) (st:Option (Bool×Nat×Nat)) (e:Ending):Prop :=
 w.grownBy w' (some R)∧match st with
  | none=>e = .returned (.tuple #[.bool false,.bool false])
  | some x=>e = .returned (.tuple #[.bool x.1,.bool true])∧MaAt w' B R P x.2.1 x.2.2
theorem grown_below {w w':World} {R:Nat} (h:Below w.heap.size w w'):w.grownBy w' (some R):=⟨h.os,h.tape,h.output,h.size,fun k hk _=>h.block k hk⟩
theorem grown_set (W:World) (R j:Nat) (v:Value):W.grownBy (W.setCell ⟨R,j,none⟩ v) (some R) :=
 ⟨rfl,rfl,rfl,(KeepsWalks.setCell W _ v).size,fun k _ hk=>Below.heap_setCell _ _ _ k (fun e=>hk (by rw [e]))⟩
theorem OwnU.grown {w w':World} {B R:Nat} {a:Option Addr} {c:Nat} {l:List Nat} (h:OwnU w B a c l) (hg:w.grownBy w' (some R)) (hR:R < B):OwnU w' B a c l:=by
 refine World.ownsRow.kept h hg ?_
 cases hv:(Value.slice a l.length c).ownBlock with
 | none=>simp
 | some k =>
  have:=(World.ownsRow.lt h k hv).1
  exact .inr (fun e=>by cases e; omega)
theorem three_set {w:World} {R:Nat} {x y z x' y':Value} {t:TypeId} (h:w.heap[R]?=some (.cells #[x,y,z] t (0,0))) :
  ((w.setCell ⟨R,0,none⟩ x').setCell ⟨R,1,none⟩ y').heap[R]?=some (.cells #[x',y',z] t (0,0)):=by
 have hlt:=lt_of_block h
 have h':w.heap[R] = .cells #[x,y,z] t (0,0):=by simpa [Array.getElem?_eq_getElem hlt] using h
 have e1:(w.setCell ⟨R,0,none⟩ x').heap[R]?=some (.cells #[x',y,z] t (0,0)):=by
  show (w.heap.modify R _)[R]?=_
  rw [Array.getElem?_eq_getElem (by simpa using hlt),Array.getElem_modify_self,h']
  rfl
 have hlt2:=lt_of_block e1
 have h2':(w.setCell ⟨R,0,none⟩ x').heap[R] = .cells #[x',y,z] t (0,0):=by simpa [Array.getElem?_eq_getElem hlt2] using e1
 show ((w.setCell ⟨R,0,none⟩ x').heap.modify R _)[R]?=_
 rw [Array.getElem?_eq_getElem (by simpa using hlt2),Array.getElem_modify_self,h2']
 rfl
theorem MaS.put {w w0:World} {B R P C:Nat} {a1 a2 b1 b2:Option Addr} {c1 c2 d1 d2:Nat} {L H L' H':List Nat} (h:MaS w B R P a1 c1 L a2 c2 H) (hC:R < C) (o1:OwnU w C b1 d1 L') (o2:OwnU w C b2 d2 H') (p1:Wds L') (p2:Wds H') (hg:w0.grownBy w (some R)) :
  MaS ((w.setCell ⟨R,0,none⟩ (.slice b1 L'.length d1)).setCell ⟨R,1,none⟩ (.slice b2 H'.length d2)) C R P b1 d1 L' b2 d2 H'∧w0.grownBy ((w.setCell ⟨R,0,none⟩ (.slice b1 L'.length d1)).setCell ⟨R,1,none⟩ (.slice b2 H'.length d2)) (some R):=by
 have g2:=grown_trans (grown_set w R 0 (.slice b1 L'.length d1)) (grown_set _ R 1 (.slice b2 H'.length d2))
 exact ⟨⟨three_set h.ob,o1.grown g2 hC,o2.grown g2 hC,p1,p2⟩,grown_trans hg g2⟩
theorem MaS.mono {w:World} {B C R P:Nat} {a1 a2:Option Addr} {c1 c2:Nat} {L H:List Nat} (h:MaS w C R P a1 c1 L a2 c2 H) (hB:B≤C):MaS w B R P a1 c1 L a2 c2 H :=
 ⟨h.ob,h.o1.mono hB,h.o2.mono hB,h.p1,h.p2⟩
theorem bit_any (w:World) (B R P lo hi:Nat) (M:MaAt w B R P lo hi) (hP:P≤2000) (hB:B≤w.heap.size) (hle:lo≤hi)
  (hfit:∀ x,stepE (2 ^ P) lo hi=some x→x.2.1 < 18446744073709551616 ^ (P / 64 + 2)∧x.2.2 < 18446744073709551616 ^ (P / 64 + 2)) :
  Calls Tryz.prog 196 #[.pointer (some ⟨R,0,none⟩)] w fun e w'=>BitOut w w' B R P (stepE (2 ^ P) lo hi) e:=by
 obtain ⟨a1,c1,L,a2,c2,H,S,hBR,l1,l2,v1,v2⟩:=M
 obtain ⟨wo,hwo⟩:∃ wo,P / 64=wo:=⟨_,rfl⟩
 obtain ⟨r,hr⟩:∃ r,P % 64=r:=⟨_,rfl⟩
 have hPe:P=64 * wo + r:=by omega
 have hr64:r < 64:=by omega
 have hRs:R < w.heap.size:=(Array.getElem?_eq_some_iff.1 S.ob).1
 obtain ⟨k0,k1,k2,kf⟩:=three_cells S.ob
 rw [l1] at k0
 rw [l2] at k1
 rw [hwo] at k0 k1 l1 l2 hfit
 have HP:=hd_ hPe
 have hwob:wo≤40:=by omega
 have Hwo:=hd_ hwo
 have HQ1:Hid (∀ W,Below w.heap.size w W→Calls Tryz.prog 223 #[.slice a1 (wo + 2) c1] W fun e w'=>∃ a c LL,e = .returned (.slice a (2 * (wo + 2) + 1) c)∧LL.length=2 * (wo + 2) + 1∧OwnU w' W.heap.size a c LL∧Wds LL∧vW LL=lo * lo∧Below W.heap.size W w'):=fun W hW=>by
  have:=square_any W a1 c1 L (S.o1.reads.below hW nr_) S.p1 (by omega)
  rw [l1,v1] at this
  exact this
 have HQ2:Hid (∀ W,Below w.heap.size w W→Calls Tryz.prog 223 #[.slice a2 (wo + 2) c2] W fun e w'=>∃ a c LL,e = .returned (.slice a (2 * (wo + 2) + 1) c)∧LL.length=2 * (wo + 2) + 1∧OwnU w' W.heap.size a c LL∧Wds LL∧vW LL=hi * hi∧Below W.heap.size W w'):=fun W hW=>by
  have:=square_any W a2 c2 H (S.o2.reads.below hW nr_) S.p2 (by omega)
  rw [l2,v2] at this
  exact this
 have HS:=hd_ S
 have HFit:=hd_ hfit
 -- the shifts
 have HSh:Hid (∀ W a c (LL:List Nat) v,ReadsU W a LL→Wds LL→LL.length=2 * (wo + 2) + 1→vW LL=v→Calls Tryz.prog 224 #[.slice a (2 * (wo + 2) + 1) c,.int .i64 P] W fun e w'=>∃ a c S,e = .returned (.slice a (wo + 5) c)∧S.length=wo + 5∧OwnU w' W.heap.size a c S∧Wds S∧vW S=v / 2 ^ P∧Below W.heap.size W w'):=fun W a c LL v h1 h2 h3 h4=>by
  have:=shift_any W a c LL P wo r hPe hr64 h1 h2 (by omega) (by omega)
  rw [h3,show 2 * (wo + 2) + 1 - wo=wo + 5 by omega] at this
  refine this.mono ?_
  rintro e w' ⟨a',c',rfl,ho,hb⟩
  refine ⟨a',c',_,rfl,shW_length ..,ho,shW_wds h2 hr64,?_,hb⟩
  rw [shW_val h2 hr64 (by omega),h4,← hPe]
 have HNx:Hid (∀ W a c (LL:List Nat) k v,ReadsU W a LL→Wds LL→LL.length=k→0 < k→k≤1000→vW LL=v→Calls Tryz.prog 225 #[.slice a k c] W fun e w'=>∃ a c S,e = .returned (.slice a (k + 1) c)∧S.length=k + 1∧OwnU w' W.heap.size a c S∧Wds S∧vW S=v + 1∧Below W.heap.size W w'):=fun W a c LL k v h1 h2 h3 h0 hk h4=>by
  have:=next_any W a c LL h1 h2 (by omega) (by omega)
  rw [h3,h4] at this
  exact this
 have HRe:Hid (∀ W a c (LL:List Nat) k v,ReadsU W a LL→Wds LL→LL.length=k→wo + 2 < k→k≤1000→vW LL=v→Gives Tryz.prog 226 #[.slice a k c,.int .i64 ((P:Int) + 1)] W (.bool (decide (2 * 2 ^ P≤v)))):=fun W a c LL k v h1 h2 h3 h0 hk h4=>by
  have:=reaches_any W a c LL (P + 1) ((P + 1) / 64) ((P + 1) % 64) (by omega) (Nat.mod_lt _ (by decide)) h1 h2 (by omega) (by omega)
  rw [h3,h4,Nat.pow_succ,Nat.mul_comm] at this
  exact this
 have hP1:IntKind.i64.wrap ((P:Int) + 1)=(P:Int) + 1:=iw_ _ (by omega)
 have HS1:Hid (∀ W a c (LL:List Nat) k v,ReadsU W a LL→Wds LL→LL.length=k→0 < k→k≤1000→vW LL=v→Calls Tryz.prog 224 #[.slice a k c,.int .i64 1] W fun e w'=>∃ a c S,e = .returned (.slice a k c)∧S.length=k∧OwnU w' W.heap.size a c S∧Wds S∧vW S=v / 2∧Below W.heap.size W w'):=fun W a c LL k v h1 h2 h3 h0 hk h4=>by
  have:=shift_any W a c LL 1 0 1 rfl (by decide) h1 h2 (by omega) (by omega)
  rw [h3,Nat.sub_zero] at this
  refine this.mono ?_
  rintro e w' ⟨a',c',rfl,ho,hb⟩
  refine ⟨a',c',_,rfl,shW_length ..,ho,shW_wds h2 (by decide),?_,hb⟩
  rw [shW_val h2 (by decide) (by omega),h4]
 have hq:Int.tdiv (P:Int) 64=(wo:Nat):=by rw [Int.tdiv_eq_ediv_of_nonneg (by omega)]; omega
 have hq':(P:Int) / 64=(wo:Nat):=by omega
 have hq3:IntKind.i64.wrap ((wo:Int) + 2)=(wo:Int) + 2:=iw_ _ (by omega)
 have Hmg:Hid (lo * lo / 2 ^ P≤hi * hi / 2 ^ P + 1):=Nat.le_succ_of_le (Nat.div_le_div_right (Nat.mul_le_mul hle hle))
 have Hst:Hid (stepE (2 ^ P) lo hi=if 2 * 2 ^ P≤lo * lo / 2 ^ P then some (true,lo * lo / 2 ^ P / 2,(hi * hi / 2 ^ P + 1) / 2 + 1) else if 2 * 2 ^ P≤hi * hi / 2 ^ P + 1 then none else some (false,lo * lo / 2 ^ P,hi * hi / 2 ^ P + 1)):=rfl
 generalize stepE (2 ^ P) lo hi=st at *
 clear S hfit l1 l2 v1 v2 hPe hwo hr
 have q0:=NW.cell k0
 have q1:=NW.cell k1
 have q2:=NW.cell k2
 have hnon:Nonempty (NW w):=⟨⟨w,Below.refl _ _⟩⟩
 have I:Hid (Below w.heap.size w w.drew):=(Below.refl _ _).drew
 go_enter Tryz.func196,Tryz.ntmps196
 go_wp2_with fail
 refine RP.wp_region_readers 25 [(2,0),(2,1),(2,2),(2,3),(2,4),(1,5),(2,7),(2,8),(2,9),(1,10),(2,12),(2,13),(2,14),(1,15),(2,17),(2,18),(2,19),(1,20),(0,6),(0,11),(0,16),(0,21),(0,22),(2,23),(2,24),(0,25),(2,26),(2,27),(0,28)] (fun w'=>∃ p:NW w,w'=p.w) (by kernel_rfl) (by kernel_rfl) ?_ ?_
 ·exact ⟨⟨_,I.out⟩,rfl⟩
 iterate 5 (refine RP.walkR_any ?_; simp only [dsc_,dz_,tsc_,tz_]; go_big_quiet_step (fail); refine wpQuiet_nil ?_)
 iterate 1 (refine RP.walkR_read ?_; simp only [dsc_,dz_,tsc_,tz_]; go_big_quiet_step (fail); refine wpQuiet_nil ?_)
 iterate 3 (refine RP.walkR_any ?_; simp only [dsc_,dz_,tsc_,tz_]; go_big_quiet_step (fail); refine wpQuiet_nil ?_)
 iterate 1 (refine RP.walkR_read ?_; simp only [dsc_,dz_,tsc_,tz_]; go_big_quiet_step (fail); refine wpQuiet_nil ?_)
 iterate 3 (refine RP.walkR_any ?_; simp only [dsc_,dz_,tsc_,tz_]; go_big_quiet_step (fail); refine wpQuiet_nil ?_)
 iterate 1 (refine RP.walkR_read ?_; simp only [dsc_,dz_,tsc_,tz_]; go_big_quiet_step (fail); refine wpQuiet_nil ?_)
 iterate 3 (refine RP.walkR_any ?_; simp only [dsc_,dz_,tsc_,tz_]; go_big_quiet_step (fail); refine wpQuiet_nil ?_)
 iterate 1 (refine RP.walkR_read ?_; simp only [dsc_,dz_,tsc_,tz_]; go_big_quiet_step (fail); refine wpQuiet_nil ?_)
 clear hnon q0 q1 q2 k0 k1 k2
 refine RP.walkR_move ?_
 simp only [dsc_,dz_,tsc_,tz_]
 go_wp2_with fail
 refine cm_ (HQ1.out _ I.out) ?_
 rintro e w1 ⟨b1,d1,L1,rfl,hl,ho,hp,hv,hb⟩
 have I1:Hid (Below w.heap.size w w1):=I.out.trans (hb.mono I.out.size)
 have HL1:=hd_ (And.intro hl hv)
 have O1:=hd_ ho
 have P1:=hd_ hp
 clear hl ho hp hv hb HQ1 I
 go_wp2_with fail
 refine ⟨⟨⟨_,I1.out⟩,rfl⟩,?_⟩
 refine RP.walkR_move ?_
 simp only [dsc_,dz_,tsc_,tz_]
 go_wp2_with fail
 refine cm_ (HSh.out _ _ _ L1 (lo * lo) O1.out.reads P1.out HL1.out.1 HL1.out.2) ?_
 rintro e w2 ⟨b2,d2,L2,rfl,hl,ho,hp,hv,hb⟩
 have I2:Hid (Below w.heap.size w w2):=I1.out.trans (hb.mono I1.out.size)
 have HL2:=hd_ (And.intro hl hv)
 have O2:=hd_ (ho.mono I1.out.size)
 have P2:=hd_ hp
 clear hl ho hp hv hb HL1 O1 P1 I1
 go_wp2_with fail
 refine ⟨⟨⟨_,I2.out⟩,rfl⟩,?_⟩
 refine RP.walkR_move ?_
 simp only [dsc_,dz_,tsc_,tz_]
 go_wp2_with fail
 refine cm_ (HQ2.out _ I2.out) ?_
 rintro e w3 ⟨b3,d3,L3,rfl,hl,ho,hp,hv,hb⟩
 have I3:Hid (Below w.heap.size w w3):=I2.out.trans (hb.mono I2.out.size)
 have O2':=hd_ (O2.out.below hb nr_)
 have HL3:=hd_ (And.intro hl hv)
 have O3:=hd_ ho
 have P3:=hd_ hp
 clear hl ho hp hv hb HQ2 I2 O2
 go_wp2_with fail
 refine ⟨⟨⟨_,I3.out⟩,rfl⟩,?_⟩
 refine RP.walkR_move ?_
 simp only [dsc_,dz_,tsc_,tz_]
 go_wp2_with fail
 refine cm_ (HSh.out _ _ _ L3 (hi * hi) O3.out.reads P3.out HL3.out.1 HL3.out.2) ?_
 rintro e w4 ⟨b4,d4,L4,rfl,hl,ho,hp,hv,hb⟩
 have I4:Hid (Below w.heap.size w w4):=I3.out.trans (hb.mono I3.out.size)
 have O2:=hd_ (O2'.out.below hb nr_)
 have HL4:=hd_ (And.intro hl hv)
 have O4:=hd_ ho
 have P4:=hd_ hp
 clear hl ho hp hv hb HL3 O3 P3 I3 O2'
 go_wp2_with fail
 refine ⟨⟨⟨_,I4.out⟩,rfl⟩,?_⟩
 refine RP.walkR_move ?_
 simp only [dsc_,dz_,tsc_,tz_]
 go_wp2_with fail
 refine cm_ (HNx.out _ _ _ L4 (wo + 5) (hi * hi / 2 ^ P) O4.out.reads P4.out HL4.out.1 (by omega) (by omega) HL4.out.2) ?_
 rintro e w5 ⟨b5,d5,L5,rfl,hl,ho,hp,hv,hb⟩
 have I5:Hid (Below w.heap.size w w5):=I4.out.trans (hb.mono I4.out.size)
 have O2':=hd_ (O2.out.below hb nr_)
 have HL5:=hd_ (And.intro hl hv)
 have O5:=hd_ (ho.mono I4.out.size)
 have P5:=hd_ hp
 have HS5:=hd_ (HS.out.below I5.out)
 obtain ⟨k0,k1,k2,kf⟩:=three_cells HS5.out.ob
 clear hl ho hp hv hb HL4 O4 P4 I4 O2
 go_wp2_with fail
 refine ⟨⟨⟨_,I5.out⟩,rfl⟩,?_⟩
 iterate 2 (refine RP.walkR_any ?_; simp only [dsc_,dz_,tsc_,tz_]; go_big_quiet_step (fail); refine wpQuiet_nil ?_)
 have hf0:=kf 0
 have hf1:=kf 1
 refine RP.walkR_move ?_
 simp only [dsc_,dz_,tsc_,tz_]
 go_wp2_with fail
 iterate 2 (refine RP.walkR_any ?_; simp only [dsc_,dz_,tsc_,tz_]; go_big_quiet_step (fail); refine wpQuiet_nil ?_)
 refine RP.walkR_move ?_
 simp only [dsc_,dz_,tsc_,tz_]
 go_wp2_with fail
 simp only [RP.walkR]
 have hput:=HS5.out.put hRs O2'.out O5.out P2.out P5.out (grown_below I5.out)
 rw [HL2.out.1,HL5.out.1] at hput
 have hS6:=hput.1
 have G6:=hd_ hput.2
 obtain ⟨k0,k1,k2,kf⟩:=three_cells hS6.ob
 rw [HL2.out.1] at k0
 rw [HL5.out.1] at k1
 have HS6:=hd_ hS6
 clear hput hS6 HS5 O2' O5 hf0 hf1 I5 HS
 generalize (w5.setCell ⟨R,0,none⟩ (.slice b2 (wo + 5) d2)).setCell ⟨R,1,none⟩ (.slice b5 (wo + 5 + 1) d5)=w6 at *
 have q0:=NW.cell k0
 have q1:=NW.cell k1
 have q2:=NW.cell k2
 have hnon:Nonempty (NW w6):=⟨⟨w6,Below.refl _ _⟩⟩
 have I:Hid (Below w6.heap.size w6 w6.drew):=(Below.refl _ _).drew
 go_wp2_with fail
 refine RP.wp_region_readers 19 [(2,0),(2,1),(2,2),(1,3),(2,4),(2,5),(2,6),(1,7),(2,8),(2,10),(2,11),(2,12),(1,13),(2,14),(2,15),(2,16),(1,17),(2,18),(0,9),(0,19),(2,20),(2,21)] (fun w'=>∃ p:NW w6,w'=p.w) (by kernel_rfl) (by kernel_rfl) ?_ ?_
 ·exact ⟨⟨_,I.out⟩,rfl⟩
 iterate 3 (refine RP.walkR_any ?_; simp only [dsc_,dz_,tsc_,tz_]; go_big_quiet_step (fail); refine wpQuiet_nil ?_)
 iterate 1 (refine RP.walkR_read ?_; simp only [dsc_,dz_,tsc_,tz_]; go_big_quiet_step (fail); refine wpQuiet_nil ?_)
 iterate 3 (refine RP.walkR_any ?_; simp only [dsc_,dz_,tsc_,tz_]; go_big_quiet_step (fail); refine wpQuiet_nil ?_)
 iterate 1 (refine RP.walkR_read ?_; simp only [dsc_,dz_,tsc_,tz_]; go_big_quiet_step (fail); refine wpQuiet_nil ?_)
 iterate 4 (refine RP.walkR_any ?_; simp only [dsc_,dz_,tsc_,tz_]; go_big_quiet_step (fail); refine wpQuiet_nil ?_)
 iterate 1 (refine RP.walkR_read ?_; simp only [dsc_,dz_,tsc_,tz_]; go_big_quiet_step (fail); refine wpQuiet_nil ?_)
 iterate 3 (refine RP.walkR_any ?_; simp only [dsc_,dz_,tsc_,tz_]; go_big_quiet_step (fail); refine wpQuiet_nil ?_)
 iterate 1 (refine RP.walkR_read ?_; simp only [dsc_,dz_,tsc_,tz_]; go_big_quiet_step (fail); refine wpQuiet_nil ?_)
 iterate 1 (refine RP.walkR_any ?_; simp only [dsc_,dz_,tsc_,tz_]; go_big_quiet_step (fail); refine wpQuiet_nil ?_)
 clear hnon q0 q1 q2 k0 k1 k2
 refine RP.walkR_move ?_
 simp only [dsc_,dz_,tsc_,tz_]
 go_wp2_with fail
 refine cm_ (HRe.out _ _ _ L2 (wo + 5) (lo * lo / 2 ^ P) ((HS6.out.o1.reads.below I.out nr_)) P2.out HL2.out.1 (by omega) (by omega) HL2.out.2) ?_
 rintro e w7 ⟨rfl,hb⟩
 have I7:Hid (Below w6.heap.size w6 w7):=I.out.trans (hb.mono I.out.size)
 clear hb I
 go_wp2_with fail
 refine ⟨⟨⟨_,I7.out⟩,rfl⟩,?_⟩
 refine RP.walkR_move ?_
 simp only [dsc_,dz_,tsc_,tz_]
 go_wp2_with fail
 refine cm_ (HRe.out _ _ _ L5 (wo + 5 + 1) (hi * hi / 2 ^ P + 1) ((HS6.out.o2.reads.below I7.out nr_)) P5.out HL5.out.1 (by omega) (by omega) HL5.out.2) ?_
 rintro e w8 ⟨rfl,hb⟩
 have I8:Hid (Below w6.heap.size w6 w8):=I7.out.trans (hb.mono I7.out.size)
 clear hb I7 HRe
 go_wp2_with fail
 iterate 2 (refine RP.walkR_any ?_; simp only [dsc_,dz_,tsc_,tz_]; go_big_quiet_step (fail); refine wpQuiet_nil ?_)
 simp only [RP.walkR]
 have HS8:=hd_ (HS6.out.below I8.out)
 have G8:=hd_ (grown_trans G6.out (grown_below (R:=R) I8.out))
 clear HS6 G6 I8
 generalize lo * lo / 2 ^ P=M at *
 generalize hi * hi / 2 ^ P + 1=G at *
 generalize 2 * 2 ^ P=u2 at *
 by_cases cA:u2≤M
 ·have cB:u2≤G:=Nat.le_trans cA Hmg.out
  have hst:st=some (true,M / 2,G / 2 + 1):=by rw [Hst.out,if_pos cA]
  subst hst
  rw [decide_eq_true cA,decide_eq_true cB]
  obtain ⟨k0,k1,k2,kf⟩:=three_cells HS8.out.ob
  rw [HL2.out.1] at k0
  rw [HL5.out.1] at k1
  have q0:=NW.cell k0
  have q1:=NW.cell k1
  have hnon:Nonempty (NW w8):=⟨⟨w8,Below.refl _ _⟩⟩
  have I:Hid (Below w8.heap.size w8 w8.drew):=(Below.refl _ _).drew
  clear k2 kf
  go_wp2_with fail
  refine RP.wp_region_readers 15 [(2,0),(2,1),(2,2),(2,3),(2,4),(1,5),(2,7),(2,8),(2,9),(1,10),(0,6),(0,11),(0,12),(2,13),(2,14),(0,15),(2,16),(2,17),(0,18)] (fun w'=>∃ p:NW w8,w'=p.w) (by kernel_rfl) (by kernel_rfl) ?_ ?_
  ·exact ⟨⟨_,I.out⟩,rfl⟩
  iterate 5 (refine RP.walkR_any ?_; simp only [dsc_,dz_,tsc_,tz_]; go_big_quiet_step (fail); refine wpQuiet_nil ?_)
  iterate 1 (refine RP.walkR_read ?_; simp only [dsc_,dz_,tsc_,tz_]; go_big_quiet_step (fail); refine wpQuiet_nil ?_)
  iterate 3 (refine RP.walkR_any ?_; simp only [dsc_,dz_,tsc_,tz_]; go_big_quiet_step (fail); refine wpQuiet_nil ?_)
  iterate 1 (refine RP.walkR_read ?_; simp only [dsc_,dz_,tsc_,tz_]; go_big_quiet_step (fail); refine wpQuiet_nil ?_)
  clear hnon q0 q1 k0 k1
  refine RP.walkR_move ?_
  simp only [dsc_,dz_,tsc_,tz_]
  go_wp2_with fail
  refine cm_ (HS1.out _ _ _ L2 (wo + 5) M (HS8.out.o1.reads.below I.out nr_) P2.out HL2.out.1 (by omega) (by omega) HL2.out.2) ?_
  rintro e w9 ⟨b6,d6,L6,rfl,hl,ho,hp,hv,hb⟩
  have I9:Hid (Below w8.heap.size w8 w9):=I.out.trans (hb.mono I.out.size)
  have HL6:=hd_ (And.intro hl hv)
  have O6:=hd_ (ho.mono I.out.size)
  have P6:=hd_ hp
  clear hl ho hp hv hb I
  go_wp2_with fail
  refine ⟨⟨⟨_,I9.out⟩,rfl⟩,?_⟩
  refine RP.walkR_move ?_
  simp only [dsc_,dz_,tsc_,tz_]
  go_wp2_with fail
  refine cm_ (HS1.out _ _ _ L5 (wo + 5 + 1) G (HS8.out.o2.reads.below I9.out nr_) P5.out HL5.out.1 (by omega) (by omega) HL5.out.2) ?_
  rintro e w10 ⟨b7,d7,L7,rfl,hl,ho,hp,hv,hb⟩
  have I10:Hid (Below w8.heap.size w8 w10):=I9.out.trans (hb.mono I9.out.size)
  have O6':=hd_ (O6.out.below hb nr_)
  have HL7:=hd_ (And.intro hl hv)
  have O7:=hd_ ho
  have P7:=hd_ hp
  clear hl ho hp hv hb I9 O6
  go_wp2_with fail
  refine ⟨⟨⟨_,I10.out⟩,rfl⟩,?_⟩
  refine RP.walkR_move ?_
  simp only [dsc_,dz_,tsc_,tz_]
  go_wp2_with fail
  refine cm_ (HNx.out _ _ _ L7 (wo + 5 + 1) (G / 2) O7.out.reads P7.out HL7.out.1 (by omega) (by omega) HL7.out.2) ?_
  rintro e w11 ⟨b8,d8,L8,rfl,hl,ho,hp,hv,hb⟩
  have I11:Hid (Below w8.heap.size w8 w11):=I10.out.trans (hb.mono I10.out.size)
  have O6:=hd_ (O6'.out.below hb nr_)
  have HL8:=hd_ (And.intro hl hv)
  have O8:=hd_ (ho.mono I10.out.size)
  have P8:=hd_ hp
  have HS11:=hd_ (HS8.out.below I11.out)
  obtain ⟨k0,k1,k2,kf⟩:=three_cells HS11.out.ob
  have hf0:=kf 0
  have hf1:=kf 1
  have hR8:=hd_ (Nat.lt_of_lt_of_le hRs G8.out.size)
  clear hl ho hp hv hb HL7 O7 P7 I10 O6' HS8
  go_wp2_with fail
  refine ⟨⟨⟨_,I11.out⟩,rfl⟩,?_⟩
  iterate 2 (refine RP.walkR_any ?_; simp only [dsc_,dz_,tsc_,tz_]; go_big_quiet_step (fail); refine wpQuiet_nil ?_)
  refine RP.walkR_move ?_
  simp only [dsc_,dz_,tsc_,tz_]
  go_wp2_with fail
  iterate 2 (refine RP.walkR_any ?_; simp only [dsc_,dz_,tsc_,tz_]; go_big_quiet_step (fail); refine wpQuiet_nil ?_)
  refine RP.walkR_move ?_
  simp only [dsc_,dz_,tsc_,tz_]
  go_wp2_with fail
  simp only [RP.walkR]
  have hput:=HS11.out.put hR8.out O6.out O8.out P6.out P8.out (grown_trans G8.out (grown_below (R:=R) I11.out))
  rw [HL6.out.1,HL8.out.1] at hput
  have HS12:=hd_ hput.1
  have G12:=hd_ hput.2
  have G8b:=hd_ G8.out.size
  clear hput HS11 O6 O8 hf0 hf1 I11 k0 k1 k2 kf G8
  generalize (w11.setCell ⟨R,0,none⟩ (.slice b6 (wo + 5) d6)).setCell ⟨R,1,none⟩ (.slice b8 (wo + 5 + 1 + 1) d8)=w12 at *
  obtain ⟨k0,k1,k2,kf⟩:=three_cells HS12.out.ob
  rw [HL6.out.1] at k0
  rw [HL8.out.1] at k1
  have hcap1:wo + 2≤d6:=by have:=HS12.out.o1.cap; rw [HL6.out.1] at this; omega
  have hcap2:wo + 2≤d8:=by have:=HS12.out.o2.cap; rw [HL8.out.1] at this; omega
  have O1:=HS12.out.o1.cut (wo + 2) (by rw [HL6.out.1]; omega)
  have O2:=HS12.out.o2.cut (wo + 2) (by rw [HL8.out.1]; omega)
  have W1:=HS12.out.p1.take (wo + 2)
  have W2:=HS12.out.p2.take (wo + 2)
  have N1:(L6.take (wo + 2)).length=wo + 2:=by rw [List.length_take,HL6.out.1]; omega
  have N2:(L8.take (wo + 2)).length=wo + 2:=by rw [List.length_take,HL8.out.1]; omega
  have V1:vW (L6.take (wo + 2))=M / 2:=by rw [vW_take HS12.out.p1 (by rw [HL6.out.1]; omega),HL6.out.2]; exact Nat.mod_eq_of_lt (HFit.out _ rfl).1
  have V2:vW (L8.take (wo + 2))=G / 2 + 1:=by rw [vW_take HS12.out.p2 (by rw [HL8.out.1]; omega),HL8.out.2]; exact Nat.mod_eq_of_lt (HFit.out _ rfl).2
  have hput:=(HS12.out.below (below_drawn w12 1)).put hR8.out (O1.below (below_drawn w12 1) nr_) (O2.below (below_drawn w12 1) nr_) W1 W2 (grown_trans G12.out (grown_below (R:=R) (below_drawn w12 1)))
  rw [N1,N2] at hput
  have HF:=hd_ hput
  have HV:=hd_ (And.intro V1 V2)
  have HN:=hd_ (And.intro N1 N2)
  clear O1 O2 W1 W2 N1 N2 V1 V2 hput
  have hf0:(w12.drewN 1).frozen? ⟨R,0,none⟩=false:=kf 0
  have hf1:(w12.drewN 1).frozen? ⟨R,1,none⟩=false:=kf 1
  have q0:=NW.cell k0
  have q1:=NW.cell k1
  have hnon:Nonempty (NW w12):=⟨⟨w12,Below.refl _ _⟩⟩
  have I:Hid (Below w12.heap.size w12 w12.drew):=(Below.refl _ _).drew
  have hlt1:(wo:Int) + 2≤(wo:Int) + 5:=by omega
  have hlt2:(wo:Int) + 2≤(wo:Int) + 5 + 1 + 1:=by omega
  have hm1:min (5:Int) 2=2:=by decide
  have hm2:min ((wo:Int) + 5 + 1 + 1) ((wo:Int) + 2)=(wo:Int) + 2:=by omega
  have htn:((wo:Int) + 2).toNat=wo + 2:=by omega
  go_wp2_with fail
  refine RP.wp_region_readers 28 [(2,0),(2,1),(2,2),(2,3),(2,4),(1,5),(2,6),(2,7),(2,8),(1,9),(2,10),(2,11),(2,12),(2,13),(2,14),(2,15),(2,16),(1,17),(2,18),(2,19),(2,20),(1,21),(2,22),(2,23),(2,24),(2,25),(2,26),(2,27),(0,28),(2,29),(2,30),(0,31)] (fun w'=>∃ p:NW w12,w'=p.w) (by kernel_rfl) (by kernel_rfl) ?_ ?_
  ·exact ⟨⟨_,I.out⟩,rfl⟩
  iterate 5 (refine RP.walkR_any ?_; simp only [dsc_,dz_,tsc_,tz_]; go_big_quiet_step (fail); refine wpQuiet_nil ?_)
  iterate 1 (refine RP.walkR_read ?_; simp only [dsc_,dz_,tsc_,tz_]; go_big_quiet_step (fail); refine wpQuiet_nil ?_)
  iterate 3 (refine RP.walkR_any ?_; simp only [dsc_,dz_,tsc_,tz_]; go_big_quiet_step (fail); refine wpQuiet_nil ?_)
  iterate 1 (refine RP.walkR_read ?_; simp only [dsc_,dz_,tsc_,tz_]; go_big_quiet_step (fail); refine wpQuiet_nil ?_)
  iterate 7 (refine RP.walkR_any ?_; simp only [dsc_,dz_,tsc_,tz_]; go_big_quiet_step (fail); refine wpQuiet_nil ?_)
  iterate 1 (refine RP.walkR_read ?_; simp only [dsc_,dz_,tsc_,tz_]; go_big_quiet_step (fail); refine wpQuiet_nil ?_)
  iterate 3 (refine RP.walkR_any ?_; simp only [dsc_,dz_,tsc_,tz_]; go_big_quiet_step (fail); refine wpQuiet_nil ?_)
  iterate 1 (refine RP.walkR_read ?_; simp only [dsc_,dz_,tsc_,tz_]; go_big_quiet_step (fail); refine wpQuiet_nil ?_)
  iterate 6 (refine RP.walkR_any ?_; simp only [dsc_,dz_,tsc_,tz_]; go_big_quiet_step (fail); refine wpQuiet_nil ?_)
  iterate 1 (refine RP.walkR_move ?_; simp only [dsc_,dz_,tsc_,tz_]; go_wp2_with fail)
  iterate 2 (refine RP.walkR_any ?_; simp only [dsc_,dz_,tsc_,tz_]; go_big_quiet_step (fail); refine wpQuiet_nil ?_)
  iterate 1 (refine RP.walkR_move ?_; simp only [dsc_,dz_,tsc_,tz_]; go_wp2_with fail)
  simp only [RP.walkR]
  go_wp2_with fail
  go_ret2
  refine ⟨HF.out.2,rfl,⟨_,_,_,_,_,_,HF.out.1.mono (Nat.le_trans hB G8b.out),hBR,?_,?_,HV.out.1,HV.out.2⟩⟩
  ·rw [Hwo.out]; exact HN.out.1
  ·rw [Hwo.out]; exact HN.out.2
 ·by_cases cB:u2≤G
  ·have hst:st=none:=by rw [Hst.out,if_neg cA,if_pos cB]
   subst hst
   rw [decide_eq_false cA,decide_eq_true cB]
   go_wp2_with fail
   go_ret2
   exact ⟨G8.out,rfl⟩
  ·have hst:st=some (false,M,G):=by rw [Hst.out,if_neg cA,if_neg cB]
   subst hst
   rw [decide_eq_false cA,decide_eq_false cB]
   obtain ⟨k0,k1,k2,kf⟩:=three_cells HS8.out.ob
   rw [HL2.out.1] at k0
   rw [HL5.out.1] at k1
   have hcap1:wo + 2≤d2:=by have:=HS8.out.o1.cap; rw [HL2.out.1] at this; omega
   have hcap2:wo + 2≤d5:=by have:=HS8.out.o2.cap; rw [HL5.out.1] at this; omega
   have O1:=HS8.out.o1.cut (wo + 2) (by rw [HL2.out.1]; omega)
   have O2:=HS8.out.o2.cut (wo + 2) (by rw [HL5.out.1]; omega)
   have W1:=HS8.out.p1.take (wo + 2)
   have W2:=HS8.out.p2.take (wo + 2)
   have N1:(L2.take (wo + 2)).length=wo + 2:=by rw [List.length_take,HL2.out.1]; omega
   have N2:(L5.take (wo + 2)).length=wo + 2:=by rw [List.length_take,HL5.out.1]; omega
   have V1:vW (L2.take (wo + 2))=M:=by rw [vW_take HS8.out.p1 (by rw [HL2.out.1]; omega),HL2.out.2]; exact Nat.mod_eq_of_lt (HFit.out _ rfl).1
   have V2:vW (L5.take (wo + 2))=G:=by rw [vW_take HS8.out.p2 (by rw [HL5.out.1]; omega),HL5.out.2]; exact Nat.mod_eq_of_lt (HFit.out _ rfl).2
   have hput:=(HS8.out.below (below_drawn w8 1)).put hRs (O1.below (below_drawn w8 1) nr_) (O2.below (below_drawn w8 1) nr_) W1 W2 (grown_trans G8.out (grown_below (R:=R) (below_drawn w8 1)))
   rw [N1,N2] at hput
   have HF:=hd_ hput
   have HV:=hd_ (And.intro V1 V2)
   have HN:=hd_ (And.intro N1 N2)
   clear O1 O2 W1 W2 N1 N2 V1 V2 hput
   have hf0:(w8.drewN 1).frozen? ⟨R,0,none⟩=false:=kf 0
   have hf1:(w8.drewN 1).frozen? ⟨R,1,none⟩=false:=kf 1
   have q0:=NW.cell k0
   have q1:=NW.cell k1
   have hnon:Nonempty (NW w8):=⟨⟨w8,Below.refl _ _⟩⟩
   have I:Hid (Below w8.heap.size w8 w8.drew):=(Below.refl _ _).drew
   have hlt1:(wo:Int) + 2≤(wo:Int) + 5:=by omega
   have hlt2:(wo:Int) + 2≤(wo:Int) + 5 + 1:=by omega
   have hm1:min (5:Int) 2=2:=by decide
   have hm2:min ((wo:Int) + 5 + 1) ((wo:Int) + 2)=(wo:Int) + 2:=by omega
   have htn:((wo:Int) + 2).toNat=wo + 2:=by omega
   go_wp2_with fail
   refine RP.wp_region_readers 28 [(2,0),(2,1),(2,2),(2,3),(2,4),(1,5),(2,6),(2,7),(2,8),(1,9),(2,10),(2,11),(2,12),(2,13),(2,14),(2,15),(2,16),(1,17),(2,18),(2,19),(2,20),(1,21),(2,22),(2,23),(2,24),(2,25),(2,26),(2,27),(0,28),(2,29),(2,30),(0,31)] (fun w'=>∃ p:NW w8,w'=p.w) (by kernel_rfl) (by kernel_rfl) ?_ ?_
   ·exact ⟨⟨_,I.out⟩,rfl⟩
   iterate 5 (refine RP.walkR_any ?_; simp only [dsc_,dz_,tsc_,tz_]; go_big_quiet_step (fail); refine wpQuiet_nil ?_)
   iterate 1 (refine RP.walkR_read ?_; simp only [dsc_,dz_,tsc_,tz_]; go_big_quiet_step (fail); refine wpQuiet_nil ?_)
   iterate 3 (refine RP.walkR_any ?_; simp only [dsc_,dz_,tsc_,tz_]; go_big_quiet_step (fail); refine wpQuiet_nil ?_)
   iterate 1 (refine RP.walkR_read ?_; simp only [dsc_,dz_,tsc_,tz_]; go_big_quiet_step (fail); refine wpQuiet_nil ?_)
   iterate 7 (refine RP.walkR_any ?_; simp only [dsc_,dz_,tsc_,tz_]; go_big_quiet_step (fail); refine wpQuiet_nil ?_)
   iterate 1 (refine RP.walkR_read ?_; simp only [dsc_,dz_,tsc_,tz_]; go_big_quiet_step (fail); refine wpQuiet_nil ?_)
   iterate 3 (refine RP.walkR_any ?_; simp only [dsc_,dz_,tsc_,tz_]; go_big_quiet_step (fail); refine wpQuiet_nil ?_)
   iterate 1 (refine RP.walkR_read ?_; simp only [dsc_,dz_,tsc_,tz_]; go_big_quiet_step (fail); refine wpQuiet_nil ?_)
   iterate 6 (refine RP.walkR_any ?_; simp only [dsc_,dz_,tsc_,tz_]; go_big_quiet_step (fail); refine wpQuiet_nil ?_)
   iterate 1 (refine RP.walkR_move ?_; simp only [dsc_,dz_,tsc_,tz_]; go_wp2_with fail)
   iterate 2 (refine RP.walkR_any ?_; simp only [dsc_,dz_,tsc_,tz_]; go_big_quiet_step (fail); refine wpQuiet_nil ?_)
   iterate 1 (refine RP.walkR_move ?_; simp only [dsc_,dz_,tsc_,tz_]; go_wp2_with fail)
   simp only [RP.walkR]
   go_wp2_with fail
   go_ret2
   refine ⟨HF.out.2,rfl,⟨_,_,_,_,_,_,HF.out.1.mono hB,hBR,?_,?_,HV.out.1,HV.out.2⟩⟩
   ·rw [Hwo.out]; exact HN.out.1
   ·rw [Hwo.out]; exact HN.out.2
end Go.Proofs.YtnjedhgcfeoemaaGreatDoor

namespace Go.Proofs.YtnjedhgcfeoemaaGreatDoor
open Go.RowKit
def bools (l:List Bool):List Value:=l.map Value.bool
theorem bools_length (l:List Bool):(bools l).length=l.length:=by simp [bools]
theorem bools_append (l m:List Bool):bools (l ++ m)=bools l ++ bools m:=by simp [bools]
theorem bools_get (l:List Bool) (j:Nat) (h:j < l.length):(bools l)[j]?=some (.bool (l.getD j false)):=by
 simp [bools,List.getD_eq_getElem?_getD,h]
theorem infoBo:(Tryz.prog.info? 4).map (fun i=>(i.zero,i.size,i.bytes))=some (some (.bool false),1,1):=by kernel_rfl
theorem elBo:ElemOf Tryz.prog 74 4 (.bool false) 1 1:=⟨Tryz.underlying74,info_parts infoBo,rfl,by decide⟩
def OwnBo (w:World) (B:Nat) (a:Option Addr) (c:Nat) (l:List Bool):Prop:=w.ownsRow B 4 1 (.slice a l.length c) l.length (bools l)
structure BoI (w:World) (B:Nat) (a:Option Addr) (c:Nat) (l:List Bool):Prop where
 own:OwnBo w B a c l
 fst:∀ k,(Value.slice a l.length c).ownBlock=some k→∃ b,w.cell? ⟨k,0,none⟩=some (.bool b)
theorem BoI.nil (w:World) (B:Nat):BoI w B none 0 []:=⟨World.ownsRow_nil ..,fun k h=>by simp [Value.ownBlock] at h⟩
theorem BoI.of {w:World} {B:Nat} {a:Option Addr} {c:Nat} {l:List Bool} (h:OwnBo w B a c l) (h0:0 < l.length):BoI w B a c l:=by
 refine ⟨h,fun k hk=>?_⟩
 obtain ⟨g,cap,hv,h1,h2,h3,h4,h5⟩:=own_open h h0
 simp only [Value.slice.injEq] at hv
 obtain ⟨rfl,-,rfl⟩:=hv
 have e:g=k:=by simpa [Value.ownBlock] using hk
 subst e
 have:=h4 0 (by omega)
 rw [bools_get l 0 h0] at this
 exact ⟨_,this⟩
theorem BoI.grown {w w':World} {B R:Nat} {a:Option Addr} {c:Nat} {l:List Bool} (h:BoI w B a c l) (hg:w.grownBy w' (some R)) (hR:∀ b,w.cell? ⟨R,0,none⟩≠some (.bool b)):BoI w' B a c l:=by
 have hne:∀ k,(Value.slice a l.length c).ownBlock=some k→k≠R:=fun k hk e=>by
  obtain ⟨b,hb⟩:=h.fst k hk
  rw [e] at hb
  exact hR b hb
 refine ⟨World.ownsRow.kept h.own hg ?_,fun k hk=>?_⟩
 ·cases hv:(Value.slice a l.length c).ownBlock with
  | none=>simp
  | some k=>exact .inr fun e=>by cases e; exact hne _ hv rfl
 ·obtain ⟨b,hb⟩:=h.fst k hk
  refine ⟨b,?_⟩
  have hs:=block_lt_of_cell hb
  have hbl:=hg.block k hs (fun e=>hne k hk (by cases e; rfl))
  unfold World.cell? at hb ⊢
  simp only at hb hbl ⊢
  rw [hbl]; exact hb
theorem MaAt.notBool {w:World} {B R P lo hi:Nat} (h:MaAt w B R P lo hi):∀ b,w.cell? ⟨R,0,none⟩≠some (.bool b):=fun b hb=>by
 obtain ⟨a1,c1,L,a2,c2,H,S,-⟩:=h
 rw [(three_cells S.ob).1] at hb
 cases hb
theorem MaAt.kept {w w':World} {B R P lo hi:Nat} (h:MaAt w B R P lo hi) {row:Option Nat} (hg:w.grownBy w' row) (hrow:∀ k,row=some k→∃ b,w.cell? ⟨k,0,none⟩=some (.bool b)):MaAt w' B R P lo hi:=by
 obtain ⟨a1,c1,L,a2,c2,H,S,hB,l1,l2,v1,v2⟩:=h
 have key:∀ (a:Option Addr) (c:Nat) (l:List Nat),l.length=P / 64 + 2→OwnU w B a c l→OwnU w' B a c l:=fun a c l hl ho=>by
  refine World.ownsRow.kept ho hg ?_
  obtain ⟨g,rfl,h1,h2,h3,h4,h5⟩:=ho.open (by omega)
  right
  intro e
  obtain ⟨b,hb⟩:=hrow g (show row=some g from e.symm)
  rw [h4 0 (by omega)] at hb
  cases hb
 refine ⟨a1,c1,L,a2,c2,H,⟨?_,key _ _ _ l1 S.o1,key _ _ _ l2 S.o2,S.p1,S.p2⟩,hB,l1,l2,v1,v2⟩
 rw [hg.block R (Array.getElem?_eq_some_iff.1 S.ob).1 (fun e=>?_)]
 ·exact S.ob
 ·obtain ⟨b,hb⟩:=hrow R e.symm
  rw [(three_cells S.ob).1] at hb
  cases hb
def DgOut (w w':World) (p P n:Nat) (e:Ending):Prop :=
 Below w.heap.size w w'∧match digs p P n with
  | some _=>∃ a c,e = .returned (.tuple #[.slice a n c,.bool true])∧OwnBo w' w.heap.size a c (bitsE p P n)
  | none=>e = .returned (.tuple #[.slice none 0 0,.bool false])
structure DgI (w wr:World) (R p P n j lo hi o:Nat) (a:Option Addr) (c:Nat):Prop where
 dg:digs p P j=some (lo,hi,o)
 ma:MaAt wr w.heap.size R P lo hi
 bo:BoI wr w.heap.size a c (bitsE p P j)
 bel:Below w.heap.size w wr
theorem edigits_any (w:World) (p n P:Nat) (hp:2≤p) (hp2:p≤97) (hl:p.log2≤6) (hn:n≤1000) (hP:n + 64≤P) (hP2:P≤1300) :
  Calls Tryz.prog 139 #[.int .i64 p,.int .i64 p.log2,.int .i64 n,.int .i64 P] w fun e w'=>DgOut w w' p P n e:=by
 have HB:=hd_ (begin_any w p p.log2 P (by omega) (by omega) (by omega))
 have H0:Hid (digs p P 0=some (p * 2 ^ (P - p.log2),p * 2 ^ (P - p.log2),p.log2)):=rfl
 have Hbit:Hid (∀ W R j lo hi o,w.heap.size≤W.heap.size→j < n→digs p P j=some (lo,hi,o)→MaAt W w.heap.size R P lo hi→Calls Tryz.prog 196 #[.pointer (some ⟨R,0,none⟩)] W fun e w'=>BitOut W w' w.heap.size R P (stepE (2 ^ P) lo hi) e):=fun W R j lo hi o hW hj hd hM=>by
  refine bit_any W w.heap.size R P lo hi hM (by omega) hW (digs_le j _ hd) fun x hx=>?_
  have h1:=(step_some (b:=x.1) (l':=x.2.1) (g':=x.2.2) hd hx).1
  have h2:=digs_cap (P:=P) (by omega) (by omega) (j + 1) (by omega) (by omega) _ h1
  have h3:=digs_le (j + 1) _ h1
  have h4:=fit_words (P:=P) (n:=j + 1) (by omega) (by omega) h2
  exact ⟨Nat.lt_of_le_of_lt h3 h4,h4⟩
 generalize hk:p.log2=k at *
 have Hk:=hd_ hk
 clear hk
 go_enter Tryz.func139,Tryz.ntmps139
 go_wp2_with fail
 refine cm_ HB.out ?_
 rintro e w1 ⟨R,rfl,hM,hb⟩
 have HD0:Hid (DgI w w1 R p P n 0 _ _ _ none 0):=⟨H0.out,hM,BoI.nil _ _,hb⟩
 clear hM hb HB H0
 go_wp2_with fail
 go_loopw [11,19] (fun v i wr=>∃ (j lo hi o:Nat) (a:Option Addr) (c:Nat),j≤n∧i = .int .i64 j∧v = .slice a j c∧Hid (DgI w wr R p P n j lo hi o a c)) (fun _ i _=>n - (intOf i).toNat)
 case atStart=>exact ⟨0,_,_,_,none,0,Nat.zero_le _,rfl,rfl,HD0⟩
 case round =>
  obtain ⟨j,lo,hi,o,a,c,hj,rfl,rfl,HD⟩:=hrel
  clear HD0
  by_cases hlt:j < n
  ·have hlt':(j:Int) < n:=by omega
   have hjw:IntKind.i64.wrap ((j:Int) + 1)=((j + 1:Nat):Int):=by rw [← Int.natCast_succ]; exact iw_ _ (by omega)
   go_wp2_with fail
   refine cm_ (Hbit.out _ R j lo hi o HD.out.bel.size hlt HD.out.dg HD.out.ma) ?_
   rintro e w2 ⟨hg,hm⟩
   have hBR:w.heap.size≤R:=by obtain ⟨_,_,_,_,_,_,-,h,-⟩:=HD.out.ma; exact h
   have B2:=hd_ (HD.out.bel.grown hg HD.out.bel.size (fun k hk=>by cases hk; exact hBR))
   have BO2:=hd_ (HD.out.bo.grown hg HD.out.ma.notBool)
   have Hsz:=hd_ B2.out.size
   cases hst:stepE (2 ^ P) lo hi with
   | none =>
    rw [hst] at hm
    obtain rfl:=hm
    have Hnone:Hid (digs p P n=none):=digs_none (step_none HD.out.dg hst) hlt
    clear hg hst HD Hbit BO2
    go_wp2_with fail
    go_ret2
    refine ⟨B2.out,?_⟩
    rw [Hnone.out]
    rfl
   | some x =>
    rw [hst] at hm
    obtain ⟨rfl,hM⟩:=hm
    obtain ⟨x1,x2,x3⟩:=x
    obtain ⟨hd2,hb2⟩:=step_some HD.out.dg hst
    have Hd2:=hd_ hd2
    have Hb2:=hd_ hb2
    have HM:=hd_ hM
    clear hg hst HD hM hd2 hb2
    have Hown:Hid (w2.ownsRow w.heap.size 4 1 (.slice a j c) j (bools (bitsE p P j))):=by
     have:=BO2.out.own
     unfold OwnBo at this
     rw [bitsE_length] at this
     exact this
    have Hfst:Hid (∀ k,(Value.slice a j c).ownBlock=some k→∃ b,w2.cell? ⟨k,0,none⟩=some (.bool b)):=by
     have:=BO2.out.fst
     rw [bitsE_length] at this
     exact this
    clear BO2
    go_wp2_with (at_builtin; refine wpList_append_new rfl (.tmp 28) (.tmp 30) 74 rfl elBo _ 1 [.bool x1] rfl rfl Hown.out Hsz.out rfl (by simp [Value.oneCell']) (by omega) (by omega) ?_)
    intro v' w3 hown hgrow hnil
    obtain ⟨a3,d3,rfl⟩:=own_form hown
    have BO3:Hid (OwnBo w3 w.heap.size a3 d3 (bitsE p P (j + 1))):=by
     show OwnBo _ _ _ _ _
     unfold OwnBo
     rw [bitsE_length,bitsE_succ,bools_append,Hb2.out]
     exact hown
    have M3:=hd_ ((show MaAt (w2.alloc (.cells #[.bool x1] 4)) w.heap.size R P x2 x3 from by
     obtain ⟨a1,c1,L,a2,c2,H,S,h1,h2,h3,h4,h5⟩:=HM.out
     exact ⟨a1,c1,L,a2,c2,H,S.below ((Below.refl _ _).alloc nr_ _),h1,h2,h3,h4,h5⟩).kept hgrow (fun k hk=>by
      obtain ⟨b,hb⟩:=Hfst.out k hk
      exact ⟨b,Lib.cell?_alloc_some _ hb⟩))
    have B3:=hd_ ((B2.out.alloc Hsz.out (.cells #[.bool x1] 4)).grown hgrow (by simp; have:=Hsz.out; omega) (fun k hk=>(World.ownsRow.lt Hown.out k hk).1))
    clear hown hgrow hnil HM Hown Hfst B2
    go_wp2_with fail
    go_roundw
    case rel=>exact ⟨j + 1,x2,x3,_,a3,d3,by omega,by go_num,rfl,⟨Hd2.out,M3.out,BoI.of BO3.out (by rw [bitsE_length]; omega),B3.out⟩⟩
    case measure=>simp [intOf]; omega
  ·have hjn:j=n:=by omega
   subst hjn
   have hlt':¬ (j:Int) < j:=by omega
   have Hown:Hid (OwnBo wr w.heap.size a c (bitsE p P j)):=HD.out.bo.own
   go_wp2_with fail
   go_ret2
   refine ⟨HD.out.bel,?_⟩
   rw [HD.out.dg]
   exact ⟨a,c,rfl,Hown.out⟩
end Go.Proofs.YtnjedhgcfeoemaaGreatDoor

namespace Go.Proofs.YtnjedhgcfeoemaaGreatDoor
open Go.RowKit
theorem rd_from {w:World} {b o d:Nat} {V:List Value} (h:Rd w (some ⟨b,o,none⟩) V) (m:Nat) (hd:V.length≤d):Rd w (if d=m then some ⟨b,o,none⟩ else some ⟨b,o + m,none⟩) (V.drop m):=by
 split
 ·left
  rw [List.drop_of_length_le (by omega)]
 ·rcases h with rfl | ⟨b',off,h1,h2,h3⟩
  ·left; simp
  ·simp only [Option.some.injEq,Addr.mk.injEq,and_true] at h1
   obtain ⟨rfl,rfl⟩:=h1
   refine .inr ⟨b,o + m,rfl,h2,fun i v hi=>?_⟩
   rw [List.getElem?_drop] at hi
   rw [Nat.add_assoc]
   exact h3 (m + i) v hi
end Go.Proofs.YtnjedhgcfeoemaaGreatDoor

namespace Go.Proofs.YtnjedhgcfeoemaaGreatDoor
open Go.RowKit
structure DigF (n:Nat) (bl:List Bool) (F:Nat→Nat):Prop where
 len:bl.length=n
 nxt:∀ j,j < n→F (j + 1)=2 * F j + (bl.getD j false).toNat
 sm:∀ j,j≤n→F j < 2 ^ (j + 3)
theorem digF_odd {p P n:Nat} (hp:2≤p) (hp2:p≤97) (hP:64≤P) {s:Nat×Nat×Nat} (h:digs p P n=some s):∃ F,DigF n (bitsE p P n) F∧F 0=p.log2∧F n=s.2.2:=by
 refine ⟨fun j=>match digs p P j with | some s=>s.2.2 | none=>0,⟨bitsE_length p P n,fun j hj=>?_,fun j hj=>?_⟩,rfl,?_⟩
 ·have h1:(digs p P (j + 1)).isSome:=digs_fewer hj (by rw [h]; rfl)
  have h0:(digs p P j).isSome:=digs_fewer (Nat.le_of_lt hj) (by rw [h]; rfl)
  obtain ⟨t,ht⟩:=Option.isSome_iff_exists.1 h1
  obtain ⟨u,hu⟩:=Option.isSome_iff_exists.1 h0
  simp only [ht,hu]
  rw [bitsE_get p P n j hj]
  exact digs_bit hu ht
 ·have h0:(digs p P j).isSome:=digs_fewer hj (by rw [h]; rfl)
  obtain ⟨u,hu⟩:=Option.isSome_iff_exists.1 h0
  simp only [hu]
  exact (digs_b p P hp hp2 hP j _ hu).out
 ·simp only [h]
theorem digF_two (n:Nat):DigF n (List.replicate n false) (fun j=>2 ^ j):=by
 refine ⟨by simp,fun j hj=>?_,fun j hj=>Nat.pow_lt_pow_right (by decide) (by omega)⟩
 have:(List.replicate n false).getD j false=false:=by rw [List.getD_eq_getElem?_getD,List.getElem?_replicate]; split <;> rfl
 rw [this,Nat.pow_succ]
 show _=_ + 0
 omega
/-! The walk. -/
def K10:Nat:=1010
theorem k10:K10=1010:=rfl
theorem made_b (n:Nat) (w:World) (hn:n≤100000000) :
  (Instr.makeSlice 74 (.int .i64 (n:Int)) (.int .i64 (n:Int))).run Tryz.prog w = .ok (.slice (some ⟨w.heap.size,0,none⟩) n n) (w.alloc (.cells (bools (List.replicate n false)).toArray 4)):=by
 have:=run_make_row' (P:=Tryz.prog) 74 4 (.bool false) 1 Tryz.underlying74 infoBo rfl .i64 .i64 n (by omega) (by omega) w
 rw [show madeCells #[.bool false] n=(bools (List.replicate n false)).toArray by apply Array.ext'; rw [toList_madeCells_one]; simp [bools]] at this
 exact this
theorem rd_made_b (w:World) (l:List Bool):Rd (w.alloc (.cells (bools l).toArray 4)) (some ⟨w.heap.size,0,none⟩) (bools l) :=
 .inr ⟨w.heap.size,0,rfl,by simp,fun i v hi=>by
  rw [Nat.zero_add,cell_of_row _ w.heap.size i _ 4 (0,0) (heap_alloc_new w _)]
  simpa using hi⟩
theorem own_rd_b {w:World} {B:Nat} {a:Option Addr} {c:Nat} {l:List Bool} (h:OwnBo w B a c l):Rd w a (bools l):=by
 by_cases hn:0 < l.length
 ·obtain ⟨g,cap,hv,h1,h2,h3,h4,h5⟩:=own_open h hn
  simp only [Value.slice.injEq] at hv
  obtain ⟨rfl,-,-⟩:=hv
  refine .inr ⟨g,0,rfl,h2,fun i v hi=>?_⟩
  have hlt:=(List.getElem?_eq_some_iff.1 hi).1
  rw [bools_length] at hlt
  rw [Nat.zero_add,h4 i (by omega)]; exact hi
 ·obtain rfl:=List.length_eq_zero_iff.1 (Nat.eq_zero_of_not_pos hn)
  exact .inl rfl
structure LoI (w wr:World) (n:Nat) (bl:List Bool) (j:Nat) (a:Option Addr) (c:Nat):Prop where
 rd:Rd wr a (bools (bl.drop j))
 cap:n - j≤c
 bel:Below w.heap.size w wr
theorem elow_any (w:World) (p n:Nat) (hp:p=2∨p∈oddP) (hn:n≤1000) (L:Laid w) :
  Gives Tryz.prog 67 #[.int .i64 p,.int .i64 n] w (.string (dec (lgN p n))):=by
 unfold Gives
 have hp1:2≤p:=by
  rcases hp with h | h
  ·omega
  ·have:=oddP_odd h; have:=oddP_log h; omega
 have hp2:p≤97:=by
  rcases hp with h | h
  ·omega
  ·have:=oddP_odd h; omega
 have hl:=log2_le p hp1 hp2
 have hln:=hd_ (Tryz.bits_Len p w (by omega) (by omega))
 rw [show ((p:Nat):Int).toNat=p from rfl,bitLen_log p (by omega) hp2] at hln
 have hw1:IntKind.i64.wrap (((p.log2 + 1:Nat):Int) - 1)=(p.log2:Int):=by rw [show ((p.log2 + 1:Nat):Int) - 1=(p.log2:Int) by omega]; exact iw_ _ (by omega)
 have hw2:IntKind.u64.wrap (p:Int)=p:=IntWalk.u64_in _ (by omega)
 have HL:=hd_ L
 clear L
 have Hof:Hid (∀ (z:Nat) W,z≤1000000000→Below w.heap.size w W→Gives Tryz.prog 73 #[.int .i64 z] W (.string (dec z))):=fun z W hz hW=>by
  have:=ofz_any W z (by omega) (by omega) (HL.out.below hW)
  rw [itx_nat] at this; exact this
 have Hmul:Hid (∀ (x g:Nat) W,x < 2 ^ K10→g≤28→Below w.heap.size w W→Gives Tryz.prog 115 #[.string (dec x),.string (dec (2 ^ g))] W (.string (dec (x * 2 ^ g)))):=fun x g W hx hg hW =>
  mulD W x (2 ^ g) K10 (by decide) hx (Nat.pow_lt_pow_right (by decide) (by rw [k10]; omega)) (HL.out.below hW)
 have Hadd:Hid (∀ (x a g:Nat) W,x < 2 ^ K10→g≤28→a < 2 ^ g→Below w.heap.size w W→Gives Tryz.prog 20 #[.string (dec (x * 2 ^ g)),.string (dec a)] W (.string (dec (x * 2 ^ g + a)))):=fun x a g W hx hg ha hW=>by
  refine addD W (x * 2 ^ g) a (K10 + 90) (by decide) ?_ ?_ (HL.out.below hW)
  ·refine Nat.lt_of_lt_of_le (Nat.mul_lt_mul_of_pos_right hx (Nat.two_pow_pos g)) ?_
   rw [← Nat.pow_add]
   exact Nat.pow_le_pow_right (by decide) (by omega)
  ·exact Nat.lt_of_lt_of_le ha (Nat.pow_le_pow_right (by decide) (by rw [k10]; omega))
 have Hdg:Hid (p≠2→∀ (P:Nat) W,n + 64≤P→P≤1300→Calls Tryz.prog 139 #[.int .i64 p,.int .i64 p.log2,.int .i64 n,.int .i64 P] W fun e w'=>DgOut W w' p P n e):=fun _ P W h1 h2=>edigits_any W p n P hp1 hp2 hl hn h1 h2
 have Hok:Hid (∀ P,p≠2→1120≤P→digs p P n≠none):=fun P h1 h2 h3=>by
  have:=digs_ok (hp.resolve_left h1) (show n≤1056 by omega) h2
  rw [h3] at this
  cases this
 have Hlg:Hid (∀ (P:Nat) s,p≠2→64≤P→digs p P n=some s→s.2.2=lgN p n):=fun P s h1 h2 h3=>digs_lgN (hp.resolve_left h1) (by omega) (by omega) h3
 have Hlg2:Hid (p=2→lgN p n=2 ^ n):=fun h=>by rw [h]; exact lgN_two n
 have Hp1:=hd_ hp1
 have Hp2:=hd_ hp2
 have Hn:=hd_ hn
 have hpb:p≤97:=hp2
 have hnb:n≤1000:=hn
 obtain ⟨v,hv⟩:∃ v,lgN p n=v:=⟨_,rfl⟩
 rw [hv] at Hlg Hlg2 ⊢
 clear hv hp hp1 hp2 hn
 generalize hk:p.log2=k at *
 have Hk:=hd_ hk
 clear hk
 go_enter Tryz.func67,Tryz.ntmps67
 go_wp2_with fail
 refine cm_ hln.out ?_
 rintro e w1 ⟨rfl,hw1e⟩
 clear hln
 go_wp2_with fail
 clear hw1e
 refine cm_ (Hof.out k w (by omega) (Below.refl _ _)) ?_
 rintro e w2 ⟨rfl,hb⟩
 have B2:=hd_ hb
 clear hb
 by_cases h2:p=2
 ·have Hv:Hid (v=2 ^ n):=Hlg2.out h2
  have Hk1:Hid (k=1):=by
   show _=_
   rw [← Hk.out,h2]; decide +kernel
  subst h2
  have hmk:=made_b n w2 (by omega)
  have Hrd:=hd_ (rd_made_b w2 (List.replicate n false))
  have B3:=hd_ (B2.out.alloc B2.out.size (.cells (bools (List.replicate n false)).toArray 4))
  generalize w2.alloc (.cells (bools (List.replicate n false)).toArray 4)=w3 at *
  clear B2 Hdg Hok Hlg Hlg2
  go_wp2_with fail
  go_loopw [7,8] (fun l q wr=>l = .slice (some ⟨w2.heap.size,0,none⟩) n n∧q = .int .i64 ((n:Int) + 64)∧Hid (wr=w3)) (fun _ _ _=>0)
  case atStart=>exact ⟨rfl,rfl,rfl⟩
  case round =>
   obtain ⟨rfl,rfl,hwr⟩:=hrel
   obtain rfl:=hwr.out
   clear hwr
   obtain ⟨F,hF⟩:∃ F:Nat→Nat,F=fun j=>2 ^ j:=⟨_,rfl⟩
   obtain ⟨bl,hbl⟩:∃ bl,bl=List.replicate n false:=⟨_,rfl⟩
   have HF:Hid (DigF n bl F):=by show DigF n bl F; rw [hbl,hF]; exact digF_two n
   have HFk:Hid (F 0=k):=by show _=_; rw [hF,Hk1.out]
   have HFn:Hid (F n=v):=by show _=_; rw [hF,Hv.out]
   have HR:Hid (LoI w wr n bl 0 (some ⟨w2.heap.size,0,none⟩) n):=⟨by rw [List.drop_zero,hbl]; exact Hrd.out,by omega,B3.out⟩
   clear hF hbl Hv Hk1 Hrd B3
   go_wp2_with fail
   go_loopw [6,7] (fun s l wr=>∃ (j:Nat) (a:Option Addr) (c:Nat),j≤n∧s = .string (dec (F j))∧l = .slice a (n - j) c∧Hid (LoI w wr n bl j a c)) (fun _ l _=>match l with | .slice _ m _=>m | _=>0)
   case atStart=>exact ⟨0,_,_,Nat.zero_le _,by rw [HFk.out],by rw [Nat.sub_zero],HR⟩
   case round =>
    clear HR
    obtain ⟨j,a,c,hj,rfl,rfl,HI⟩:=hrel
    obtain ⟨m,hm⟩:∃ m,n - j=m:=⟨_,rfl⟩
    have hmb:m≤1000:=by omega
    rw [hm]
    by_cases hlt:0 < m
    ·have hlt':(0:Int) < m:=by omega
     obtain ⟨g,hg⟩:∃ g,min m 28=g:=⟨_,rfl⟩
     have hg28:g≤28:=by omega
     have hgm:g≤m:=by omega
     have hg0:0 < g:=by omega
     have hmin:min (m:Int) 28=(g:Nat):=by omega
     have hcap:g≤c:=by have:=HI.out.cap; omega
     have Hjg:=hd_ (show j + g≤n by omega)
     obtain ⟨b,off,rfl,hb1,hcell⟩:=HI.out.rd.open (by rw [bools_length,List.length_drop,HF.out.len]; omega)
     have Hcell:Hid (∀ t,t < g→wr.cell? ⟨b,off + t,none⟩=some (.bool (bl.getD (j + t) false))):=fun t ht=>by
      refine hcell t _ ?_
      rw [bools_get _ _ (by rw [List.length_drop,HF.out.len]; omega)]
      rw [List.getD_eq_getElem?_getD,List.getD_eq_getElem?_getD,List.getElem?_drop]
     clear hcell
     obtain ⟨wo,hwo⟩:∃ wo:World,wo=wr:=⟨_,rfl⟩
     subst hwo
     go_wp2_with fail
     go_loopw [11,49] (fun ad i wr=>∃ t x:Nat,t≤g∧i = .int .i64 t∧ad = .int .i64 x∧x < 268435456∧Hid (x < 2 ^ t∧F (j + t)=F j * 2 ^ t + x)∧Hid (Below wo.heap.size wo wr)) (fun _ i _=>g - (intOf i).toNat)
     case atStart=>exact ⟨0,0,Nat.zero_le _,rfl,rfl,by decide,⟨by decide,by simp⟩,Below.refl _ _⟩
     case round =>
      obtain ⟨t,x,ht,rfl,rfl,hx,HX,HB⟩:=hrel
      by_cases hlt2:t < g
      ·have hlt2':(t:Int) < g:=by omega
       have cb:=Hcell.out t hlt2
       rw [← HB.out.cell (p:=⟨b,off + t,none⟩) hb1] at cb
       have hnx:=HF.out.nxt (j + t) (by have:=Hjg.out; omega)
       have hxt:=HX.out.1
       have hpt:2 ^ (t + 1)≤268435456:=Nat.le_trans (Nat.pow_le_pow_right (by decide) (show t + 1≤28 by omega)) (by decide)
       have hps:2 ^ (t + 1)=2 * 2 ^ t:=by rw [Nat.pow_succ,Nat.mul_comm]
       have hw2':IntKind.i64.wrap ((x:Int) * 2)=((2 * x:Nat):Int):=by rw [show (x:Int) * 2=((2 * x:Nat):Int) by omega]; exact iw_ _ (by omega)
       have hw3':IntKind.i64.wrap (((2 * x:Nat):Int) + 1)=((2 * x + 1:Nat):Int):=by rw [← Int.natCast_succ]; exact iw_ _ (by omega)
       have htw:IntKind.i64.wrap ((t:Int) + 1)=((t + 1:Nat):Int):=by rw [← Int.natCast_succ]; exact iw_ _ (by omega)
       have e1:F j * 2 ^ (t + 1)=2 * (F j * 2 ^ t):=by rw [hps]; exact Nat.mul_left_comm ..
       have hXb:=HX.out.2
       cases hbv:bl.getD (j + t) false with
       | true =>
        have HX2:Hid (2 * x + 1 < 2 ^ (t + 1)∧F (j + (t + 1))=F j * 2 ^ (t + 1) + (2 * x + 1)):=by
         refine ⟨by omega,?_⟩
         rw [hbv] at hnx
         rw [← Nat.add_assoc,hnx,hXb,e1]
         show _ + 1=_
         omega
        have hx2:2 * x + 1 < 268435456:=by have:=HX2.out.1; omega
        rw [hbv] at cb
        clear hnx hbv HX e1 hXb hxt hpt hps
        go_wp2_with fail
        refine ⟨⟨t + 1,2 * x + 1,by omega,by go_num,by go_num,hx2,HX2,HB⟩,by simp [intOf]; omega⟩
       | false =>
        have HX2:Hid (2 * x < 2 ^ (t + 1)∧F (j + (t + 1))=F j * 2 ^ (t + 1) + 2 * x):=by
         refine ⟨by omega,?_⟩
         rw [hbv] at hnx
         rw [← Nat.add_assoc,hnx,hXb,e1]
         show _ + 0=_
         omega
        have hx2:2 * x < 268435456:=by have:=HX2.out.1; omega
        rw [hbv] at cb
        clear hnx hbv HX e1 hXb hxt hpt hps hw3'
        go_wp2_with fail
        refine ⟨⟨t + 1,2 * x,by omega,by go_num,by go_num,hx2,HX2,HB⟩,by simp [intOf]; omega⟩
      ·obtain rfl:t=g:=by omega
       have hlt2':¬ (t:Int) < t:=by omega
       have hFj:=HF.out.sm j hj
       have hF10:F j < 2 ^ K10:=Nat.lt_of_lt_of_le hFj (Nat.pow_le_pow_right (by decide) (by rw [k10]; omega))
       obtain ⟨G,hG⟩:∃ G,2 ^ t=G:=⟨_,rfl⟩
       have hGb:G≤268435456:=by rw [← hG]; exact Nat.le_trans (Nat.pow_le_pow_right (by decide) hg28) (by decide)
       have hGi:(2:Int) ^ t=(G:Nat):=by rw [← hG,Int.natCast_pow]; rfl
       have hsh:IntKind.i64.wrap (G:Int)=(G:Nat):=iw_ _ (by omega)
       have hM:=fun W hW=>Hmul.out (F j) t W hF10 hg28 hW
       have hA:=fun W hW=>Hadd.out (F j) x t W hF10 hg28 HX.out.1 hW
       have hXe:=HX.out.2
       rw [hG] at hM hA hXe
       have BW2:=hd_ (HI.out.bel.trans (HB.out.mono HI.out.bel.size))
       have HM:=hd_ hM
       have HA:=hd_ hA
       have HXe:=hd_ hXe
       have hof1:=hd_ (fun W hW=>Hof.out G W (by omega) hW)
       have hof2:=hd_ (fun W hW=>Hof.out x W (by omega) hW)
       clear hFj hF10 hG hM hA hXe HX
       go_wp2_with fail
       refine cm_ (hof1.out _ BW2.out) ?_
       rintro e w4 ⟨rfl,hb⟩
       have B4:=hd_ (BW2.out.trans (hb.mono BW2.out.size))
       have C4:=hd_ (HB.out.trans (hb.mono HB.out.size))
       clear hb
       go_wp2_with fail
       refine cm_ (HM.out _ B4.out) ?_
       rintro e w5 ⟨rfl,hb⟩
       have B5:=hd_ (B4.out.trans (hb.mono B4.out.size))
       have C5:=hd_ (C4.out.trans (hb.mono C4.out.size))
       clear hb B4 C4
       go_wp2_with fail
       refine cm_ (hof2.out _ B5.out) ?_
       rintro e w6 ⟨rfl,hb⟩
       have B6:=hd_ (B5.out.trans (hb.mono B5.out.size))
       have C6:=hd_ (C5.out.trans (hb.mono C5.out.size))
       clear hb B5 C5
       go_wp2_with fail
       refine cm_ (HA.out _ B6.out) ?_
       rintro e w7 ⟨rfl,hb⟩
       have B7:=hd_ (B6.out.trans (hb.mono B6.out.size))
       have C7:=hd_ (C6.out.trans (hb.mono C6.out.size))
       clear hb B6 C6 hof1 hof2 HM HA HB BW2 Hcell
       have HR7:=hd_ (rd_from (d:=c) (HI.out.rd.below C7.out nr_) t (by rw [bools_length,List.length_drop,HF.out.len]; have:=HI.out.cap; omega))
       have Hcp:=hd_ HI.out.cap
       rw [← HXe.out]
       clear HI HXe
       go_wp2_with fail
       refine ⟨⟨j + t,_,c - t,Hjg.out,rfl,by rw [show n - (j + t)=m - t by omega],⟨?_,by have:=Hcp.out; omega,B7.out⟩⟩,by show m - t < m; omega⟩
       have:=HR7.out
       unfold bools at this
       rw [← List.map_drop,List.drop_drop] at this
       exact this
    ·obtain rfl:j=n:=by omega
     obtain rfl:m=0:=by omega
     go_wp2_with fail
     go_ret
     exact ⟨by rw [HFn.out]; rfl,HI.out.bel⟩
 ·have h2b:((p:Int) == 2)=false:=by rw [beq_eq_false_iff_ne]; omega
  have h2n:((p:Int) != 2)=true:=by rw [bne_iff_ne]; omega
  have Hdg':=hd_ (Hdg.out h2)
  have Hok':=hd_ (fun P h=>Hok.out P h2 h)
  have Hlg':=hd_ (fun P s h=>Hlg.out P s h2 h)
  have Hodd:=hd_ (fun (P:Nat) (s:Nat×Nat×Nat) (h1:64≤P) (h:digs p P n=some s)=>digF_odd Hp1.out Hp2.out h1 h)
  clear Hdg Hok Hlg Hlg2
  have hwn:IntKind.i64.wrap ((n:Int) + 64)=((n + 64:Nat):Int):=by rw [show (n:Int) + 64=((n + 64:Nat):Int) by omega]; exact iw_ _ (by omega)
  go_wp2_with fail
  go_loopw [7,8] (fun l q wr=>∃ P:Nat,n + 64≤P∧P≤1200∧l = .slice none 0 0∧q = .int .i64 P∧Hid (Below w.heap.size w wr)) (fun _ q _=>1300 - (intOf q).toNat)
  case atStart=>exact ⟨n + 64,Nat.le_refl _,by omega,rfl,rfl,B2⟩
  case round =>
   obtain ⟨P,hP1,hP2,rfl,rfl,B3⟩:=hrel
   clear B2
   go_wp2_with fail
   refine cm_ (Hdg'.out P _ hP1 (by omega)) ?_
   rintro e w4 ⟨hb,hm⟩
   have B4:=hd_ (B3.out.trans (hb.mono B3.out.size))
   have hPw:IntKind.i64.wrap ((P:Int) + 64)=((P + 64:Nat):Int):=by rw [show (P:Int) + 64=((P + 64:Nat):Int) by omega]; exact iw_ _ (by omega)
   cases hd:digs p P n with
   | none =>
    rw [hd] at hm
    obtain rfl:=hm
    have hP3:P < 1120:=Nat.lt_of_not_le fun h=>Hok'.out P h hd
    clear hb hd
    go_wp2_with fail
    refine ⟨⟨P + 64,by omega,by omega,rfl,by go_num,B4⟩,by simp [intOf]; omega⟩
   | some s =>
    rw [hd] at hm
    obtain ⟨a0,c0,rfl,ho⟩:=hm
    obtain ⟨F,hF,hFk,hFn⟩:=Hodd.out P s (by omega) hd
    have HR':=hd_ (own_rd_b ho)
    have Hcap0:Hid (n≤c0):=by
     have:OwnBo w4 wr.heap.size a0 c0 (bitsE p P n):=ho
     show n≤c0
     rcases this.2 with ⟨h1,h0⟩ | ⟨g,cap,cur,h1,_,_,h2,_⟩
     ·simp only [Value.slice.injEq] at h1; rw [bitsE_length] at h0; omega
     ·simp only [Value.slice.injEq] at h1; rw [bitsE_length] at h2; omega
    have HFn:Hid (F n=v):=by show _=_; rw [hFn]; exact Hlg'.out P s (by omega) hd
    have HF:=hd_ hF
    have HFk:Hid (F 0=k):=by show _=_; rw [hFk,Hk.out]
    clear hF hFn hFk hb hd ho Hdg' Hok' Hlg' Hodd B3
    generalize bitsE p P n=bl at *
    have HR:Hid (LoI w w4 n bl 0 a0 c0):=⟨by rw [List.drop_zero]; exact HR'.out,by have:=Hcap0.out; omega,B4.out⟩
    clear HR' Hcap0 B4
    go_wp2_with fail
    go_loopw [6,7] (fun s l wr=>∃ (j:Nat) (a:Option Addr) (c:Nat),j≤n∧s = .string (dec (F j))∧l = .slice a (n - j) c∧Hid (LoI w wr n bl j a c)) (fun _ l _=>match l with | .slice _ m _=>m | _=>0)
    case atStart=>exact ⟨0,_,_,Nat.zero_le _,by rw [HFk.out],by rw [Nat.sub_zero],HR⟩
    case round =>
     clear HR
     obtain ⟨j,a,c,hj,rfl,rfl,HI⟩:=hrel
     obtain ⟨m,hm⟩:∃ m,n - j=m:=⟨_,rfl⟩
     have hmb:m≤1000:=by omega
     rw [hm]
     by_cases hlt:0 < m
     ·have hlt':(0:Int) < m:=by omega
      obtain ⟨g,hg⟩:∃ g,min m 28=g:=⟨_,rfl⟩
      have hg28:g≤28:=by omega
      have hgm:g≤m:=by omega
      have hg0:0 < g:=by omega
      have hmin:min (m:Int) 28=(g:Nat):=by omega
      have hcap:g≤c:=by have:=HI.out.cap; omega
      have Hjg:=hd_ (show j + g≤n by omega)
      obtain ⟨b,off,rfl,hb1,hcell⟩:=HI.out.rd.open (by rw [bools_length,List.length_drop,HF.out.len]; omega)
      have Hcell:Hid (∀ t,t < g→wr.cell? ⟨b,off + t,none⟩=some (.bool (bl.getD (j + t) false))):=fun t ht=>by
       refine hcell t _ ?_
       rw [bools_get _ _ (by rw [List.length_drop,HF.out.len]; omega)]
       rw [List.getD_eq_getElem?_getD,List.getD_eq_getElem?_getD,List.getElem?_drop]
      clear hcell
      obtain ⟨wo,hwo⟩:∃ wo:World,wo=wr:=⟨_,rfl⟩
      subst hwo
      go_wp2_with fail
      go_loopw [11,49] (fun ad i wr=>∃ t x:Nat,t≤g∧i = .int .i64 t∧ad = .int .i64 x∧x < 268435456∧Hid (x < 2 ^ t∧F (j + t)=F j * 2 ^ t + x)∧Hid (Below wo.heap.size wo wr)) (fun _ i _=>g - (intOf i).toNat)
      case atStart=>exact ⟨0,0,Nat.zero_le _,rfl,rfl,by decide,⟨by decide,by simp⟩,Below.refl _ _⟩
      case round =>
       obtain ⟨t,x,ht,rfl,rfl,hx,HX,HB⟩:=hrel
       by_cases hlt2:t < g
       ·have hlt2':(t:Int) < g:=by omega
        have cb:=Hcell.out t hlt2
        rw [← HB.out.cell (p:=⟨b,off + t,none⟩) hb1] at cb
        have hnx:=HF.out.nxt (j + t) (by have:=Hjg.out; omega)
        have hxt:=HX.out.1
        have hpt:2 ^ (t + 1)≤268435456:=Nat.le_trans (Nat.pow_le_pow_right (by decide) (show t + 1≤28 by omega)) (by decide)
        have hps:2 ^ (t + 1)=2 * 2 ^ t:=by rw [Nat.pow_succ,Nat.mul_comm]
        have hw2':IntKind.i64.wrap ((x:Int) * 2)=((2 * x:Nat):Int):=by rw [show (x:Int) * 2=((2 * x:Nat):Int) by omega]; exact iw_ _ (by omega)
        have hw3':IntKind.i64.wrap (((2 * x:Nat):Int) + 1)=((2 * x + 1:Nat):Int):=by rw [← Int.natCast_succ]; exact iw_ _ (by omega)
        have htw:IntKind.i64.wrap ((t:Int) + 1)=((t + 1:Nat):Int):=by rw [← Int.natCast_succ]; exact iw_ _ (by omega)
        have e1:F j * 2 ^ (t + 1)=2 * (F j * 2 ^ t):=by rw [hps]; exact Nat.mul_left_comm ..
        have hXb:=HX.out.2
        cases hbv:bl.getD (j + t) false with
        | true =>
         have HX2:Hid (2 * x + 1 < 2 ^ (t + 1)∧F (j + (t + 1))=F j * 2 ^ (t + 1) + (2 * x + 1)):=by
          refine ⟨by omega,?_⟩
          rw [hbv] at hnx
          rw [← Nat.add_assoc,hnx,hXb,e1]
          show _ + 1=_
          omega
         have hx2:2 * x + 1 < 268435456:=by have:=HX2.out.1; omega
         rw [hbv] at cb
         clear hnx hbv HX e1 hXb hxt hpt hps
         go_wp2_with fail
         refine ⟨⟨t + 1,2 * x + 1,by omega,by go_num,by go_num,hx2,HX2,HB⟩,by simp [intOf]; omega⟩
        | false =>
         have HX2:Hid (2 * x < 2 ^ (t + 1)∧F (j + (t + 1))=F j * 2 ^ (t + 1) + 2 * x):=by
          refine ⟨by omega,?_⟩
          rw [hbv] at hnx
          rw [← Nat.add_assoc,hnx,hXb,e1]
          show _ + 0=_
          omega
         have hx2:2 * x < 268435456:=by have:=HX2.out.1; omega
         rw [hbv] at cb
         clear hnx hbv HX e1 hXb hxt hpt hps hw3'
         go_wp2_with fail
         refine ⟨⟨t + 1,2 * x,by omega,by go_num,by go_num,hx2,HX2,HB⟩,by simp [intOf]; omega⟩
       ·obtain rfl:t=g:=by omega
        have hlt2':¬ (t:Int) < t:=by omega
        have hFj:=HF.out.sm j hj
        have hF10:F j < 2 ^ K10:=Nat.lt_of_lt_of_le hFj (Nat.pow_le_pow_right (by decide) (by rw [k10]; omega))
        obtain ⟨G,hG⟩:∃ G,2 ^ t=G:=⟨_,rfl⟩
        have hGb:G≤268435456:=by rw [← hG]; exact Nat.le_trans (Nat.pow_le_pow_right (by decide) hg28) (by decide)
        have hGi:(2:Int) ^ t=(G:Nat):=by rw [← hG,Int.natCast_pow]; rfl
        have hsh:IntKind.i64.wrap (G:Int)=(G:Nat):=iw_ _ (by omega)
        have hM:=fun W hW=>Hmul.out (F j) t W hF10 hg28 hW
        have hA:=fun W hW=>Hadd.out (F j) x t W hF10 hg28 HX.out.1 hW
        have hXe:=HX.out.2
        rw [hG] at hM hA hXe
        have BW2:=hd_ (HI.out.bel.trans (HB.out.mono HI.out.bel.size))
        have HM:=hd_ hM
        have HA:=hd_ hA
        have HXe:=hd_ hXe
        have hof1:=hd_ (fun W hW=>Hof.out G W (by omega) hW)
        have hof2:=hd_ (fun W hW=>Hof.out x W (by omega) hW)
        clear hFj hF10 hG hM hA hXe HX
        go_wp2_with fail
        refine cm_ (hof1.out _ BW2.out) ?_
        rintro e w4 ⟨rfl,hb⟩
        have B4:=hd_ (BW2.out.trans (hb.mono BW2.out.size))
        have C4:=hd_ (HB.out.trans (hb.mono HB.out.size))
        clear hb
        go_wp2_with fail
        refine cm_ (HM.out _ B4.out) ?_
        rintro e w5 ⟨rfl,hb⟩
        have B5:=hd_ (B4.out.trans (hb.mono B4.out.size))
        have C5:=hd_ (C4.out.trans (hb.mono C4.out.size))
        clear hb B4 C4
        go_wp2_with fail
        refine cm_ (hof2.out _ B5.out) ?_
        rintro e w6 ⟨rfl,hb⟩
        have B6:=hd_ (B5.out.trans (hb.mono B5.out.size))
        have C6:=hd_ (C5.out.trans (hb.mono C5.out.size))
        clear hb B5 C5
        go_wp2_with fail
        refine cm_ (HA.out _ B6.out) ?_
        rintro e w7 ⟨rfl,hb⟩
        have B7:=hd_ (B6.out.trans (hb.mono B6.out.size))
        have C7:=hd_ (C6.out.trans (hb.mono C6.out.size))
        clear hb B6 C6 hof1 hof2 HM HA HB BW2 Hcell
        have HR7:=hd_ (rd_from (d:=c) (HI.out.rd.below C7.out nr_) t (by rw [bools_length,List.length_drop,HF.out.len]; have:=HI.out.cap; omega))
        have Hcp:=hd_ HI.out.cap
        rw [← HXe.out]
        clear HI HXe
        go_wp2_with fail
        refine ⟨⟨j + t,_,c - t,Hjg.out,rfl,by rw [show n - (j + t)=m - t by omega],⟨?_,by have:=Hcp.out; omega,B7.out⟩⟩,by show m - t < m; omega⟩
        have:=HR7.out
        unfold bools at this
        rw [← List.map_drop,List.drop_drop] at this
        exact this
     ·obtain rfl:j=n:=by omega
      obtain rfl:m=0:=by omega
      go_wp2_with fail
      go_ret
      exact ⟨by rw [HFn.out]; rfl,HI.out.bel⟩
end Go.Proofs.YtnjedhgcfeoemaaGreatDoor

namespace Go.Proofs.YtnjedhgcfeoemaaGreatDoor.LN
def sg (x:Rat):Int:=if 1 < x then 1 else if x < 1 then -1 else 0
theorem one_le_mul {x y:Rat} (hx:1≤x) (hy:1≤y):1≤x * y:=by
 have h:=Rat.mul_le_mul_of_nonneg_left hy (show 0≤x by grind)
 rw [Rat.mul_one] at h
 exact Rat.le_trans hx h
theorem one_lt_mul {x y:Rat} (hx:1 < x) (hy:1≤y):1 < x * y:=by
 have h:=Rat.mul_le_mul_of_nonneg_left hy (show 0≤x by grind)
 rw [Rat.mul_one] at h
 grind
theorem pow_one_le {x:Rat} (hx:1≤x):∀ m:Nat,1≤x ^ m
 | 0=>by rw [Rat.pow_zero]; exact Rat.le_refl
 | m + 1=>by rw [Rat.pow_succ]; exact one_le_mul (pow_one_le hx m) hx
theorem pow_one_lt {x:Rat} (hx:1 < x) (m:Nat) (hm:0 < m):1 < x ^ m:=by
 obtain ⟨k,rfl⟩:=Nat.exists_eq_succ_of_ne_zero (by omega:m≠0)
 rw [Rat.pow_succ,Rat.mul_comm]
 exact one_lt_mul hx (pow_one_le (by grind) k)
def vp:List Int→List Int→Rat
 | p :: ps,k :: ks=>(p:Rat) ^ k * vp ps ks
 | _,_=>1
theorem natCast_pow (a n:Nat):((a ^ n:Nat):Rat)=(a:Rat) ^ n:=by
 induction n with
 | zero=>rw [Nat.pow_zero,Rat.pow_zero]; rfl
 | succ n ih=>rw [Nat.pow_succ,Rat.pow_succ,Rat.natCast_mul,ih]
theorem mkRat_den' (n:Int) (d:Nat) (h:d≠0):(mkRat n d).den=d / Nat.gcd n.natAbs d:=by
 rw [← Rat.normalize_eq_mkRat h,Rat.den_normalize]
theorem mul_den' (q:Rat):q * (q.den:Rat)=(q.num:Rat):=by
 have h:mkRat q.num q.den=(q.num:Rat) / ((q.den:Nat):Rat):=Rat.mkRat_eq_div _ _
 rw [Rat.mkRat_self] at h
 have h2:((q.den:Nat):Rat)≠0:=by have:=Rat.natCast_pos.2 q.den_pos; grind
 have h3:=Rat.div_mul_cancel (a:=(q.num:Rat)) h2
 rw [← h] at h3
 exact h3
def ex (D:Nat) (q:Rat):Int:=q.num * ((D / q.den:Nat):Int)
theorem ex_eq {D:Nat} {q:Rat} (h:q.den ∣ D):(ex D q:Rat)=q * (D:Rat):=by
 obtain ⟨m,rfl⟩:=h
 unfold ex
 rw [Nat.mul_div_cancel_left _ q.den_pos,Rat.intCast_mul,Rat.intCast_natCast,Rat.natCast_mul]
 have h1:=mul_den' q
 grind
theorem ex_mul {D m:Nat} {a:Rat} (ha:a.den ∣ D):ex (m * D) a=(m:Int) * ex D a:=by
 have:a.den ∣ m * D:=Nat.dvd_trans ha (Nat.dvd_mul_left ..)
 rw [← Rat.intCast_inj,Rat.intCast_mul,ex_eq ha,ex_eq this,Rat.natCast_mul,Rat.intCast_natCast]
 grind
theorem tden_go (l:List Rat):∀ d:Nat,d ∣ l.foldl (fun d q=>Nat.lcm d q.den) d∧∀ q∈l,q.den ∣ l.foldl (fun d q=>Nat.lcm d q.den) d:=by
 induction l with
 | nil=>intro d; exact ⟨Nat.dvd_refl _,by simp⟩
 | cons a l ih =>
  intro d
  obtain ⟨h1,h2⟩:=ih (Nat.lcm d a.den)
  refine ⟨Nat.dvd_trans (Nat.dvd_lcm_left ..) h1,fun q hq=>?_⟩
  rcases List.mem_cons.1 hq with rfl | hq
  ·exact Nat.dvd_trans (Nat.dvd_lcm_right ..) h1
  ·exact h2 q hq
theorem tden_dvd {l:List Rat} {q:Rat} (h:q∈l):q.den ∣ tden l:=(tden_go l 1).2 q h
theorem tden_least (l:List Rat):∀ (D d:Nat),d ∣ D→(∀ q∈l,q.den ∣ D)→l.foldl (fun d q=>Nat.lcm d q.den) d ∣ D:=by
 induction l with
 | nil=>intro D d h _; exact h
 | cons a l ih =>
  intro D d h h2
  exact ih D _ (Nat.lcm_dvd h (h2 a List.mem_cons_self)) fun q hq=>h2 q (List.mem_cons_of_mem _ hq)
theorem tden_min {l:List Rat} {D:Nat} (h:∀ q∈l,q.den ∣ D):tden l ∣ D:=tden_least l D 1 (Nat.one_dvd _) h
theorem tden_pos' (l:List Rat):0 < tden l:=by
 have:∀ (l:List Rat) (d:Nat),0 < d→0 < l.foldl (fun d q=>Nat.lcm d q.den) d:=by
  intro l
  induction l with
  | nil=>intro d h; exact h
  | cons a l ih=>intro d h; exact ih _ (Nat.lcm_pos h a.den_pos)
 exact this l 1 Nat.one_pos
def sz (ps:List Int) (l:List Rat):Int:=signT (tlist (tden l) ps l)
end Go.Proofs.YtnjedhgcfeoemaaGreatDoor.LN

namespace Go.Proofs.YtnjedhgcfeoemaaGreatDoor.LN
theorem zpow_nat_mul {x:Rat} (hx:x≠0) (a:Int):∀ n:Nat,(x ^ a) ^ n=x ^ (a * n)
 | 0=>by simp
 | n + 1=>by
  rw [Rat.pow_succ,zpow_nat_mul hx a n,← Rat.zpow_add hx]
  congr 1
  rw [Int.natCast_add,Int.mul_add]; simp
theorem zpow_mul' {x:Rat} (hx:x≠0) (a b:Int):(x ^ a) ^ b=x ^ (a * b):=by
 rcases Int.eq_nat_or_neg b with ⟨n,rfl | rfl⟩
 ·rw [Rat.zpow_natCast,zpow_nat_mul hx]
 ·rw [Rat.zpow_neg,Rat.zpow_natCast,zpow_nat_mul hx,← Rat.zpow_neg]
  congr 1
  rw [Int.mul_neg]
theorem two_ne:(2:Rat)≠0:=by decide
theorem two_zpow_one_lt {a:Int} (h:0 < a):(1:Rat) < 2 ^ a:=by
 obtain ⟨n,rfl⟩:=Int.eq_ofNat_of_zero_le (Int.le_of_lt h)
 rw [Rat.zpow_natCast]
 exact pow_one_lt (by decide) n (by omega)
theorem two_zpow_lt_one {a:Int} (h:a < 0):(2:Rat) ^ a < 1:=by
 have h1:=two_zpow_one_lt (a := -a) (by omega)
 have h2:(2:Rat) ^ a * 2 ^ (-a)=1:=by rw [← Rat.zpow_add two_ne]; simp [Int.add_right_neg]
 have h3:(0:Rat) < 2 ^ a:=Rat.zpow_pos (by decide)
 refine Rat.not_le.1 fun h4=>?_
 have h5:=Rat.mul_le_mul_of_nonneg_right h4 (c:=2 ^ (-a)) (by grind)
 grind
theorem pow_le_pow' {x y:Rat} (h0:0 < x) (h:x≤y):∀ n:Nat,x ^ n≤y ^ n
 | 0=>by rw [Rat.pow_zero,Rat.pow_zero]; exact Rat.le_refl
 | n + 1=>by
  have ih:=pow_le_pow' h0 h n
  rw [Rat.pow_succ,Rat.pow_succ]
  have h1:=Rat.mul_le_mul_of_nonneg_right ih (c:=x) (by grind)
  have h2:=Rat.mul_le_mul_of_nonneg_left h (c:=y ^ n) (Rat.le_of_lt (Rat.pow_pos (by grind)))
  exact Rat.le_trans h1 h2
theorem inv_le_inv {x y:Rat} (h0:0 < x) (h:x≤y):y⁻¹≤x⁻¹:=by
 have hy:0 < y:=by grind
 have h1:=Rat.inv_pos.2 h0
 have h2:=Rat.inv_pos.2 hy
 have e1:=Rat.mul_inv_cancel x (by grind)
 have e2:=Rat.mul_inv_cancel y (by grind)
 have h3:=Rat.mul_le_mul_of_nonneg_right h (c:=x⁻¹ * y⁻¹) (Rat.le_of_lt (Rat.mul_pos h1 h2))
 have e3:x * (x⁻¹ * y⁻¹)=y⁻¹:=by rw [← Rat.mul_assoc,e1,Rat.one_mul]
 have e4:y * (x⁻¹ * y⁻¹)=x⁻¹:=by rw [Rat.mul_comm x⁻¹,← Rat.mul_assoc,e2,Rat.one_mul]
 rw [e3,e4] at h3
 exact h3
theorem zpow_le_zpow_neg {x y:Rat} (h0:0 < x) (h:x≤y) {j:Int} (hj:j≤0):y ^ j≤x ^ j:=by
 obtain ⟨n,hn⟩:=Int.eq_ofNat_of_zero_le (a := -j) (by omega)
 have e:j = -(n:Int):=by omega
 rw [e,Rat.zpow_neg,Rat.zpow_neg,Rat.zpow_natCast,Rat.zpow_natCast]
 exact inv_le_inv (Rat.pow_pos h0) (pow_le_pow' h0 h n)
structure Btw (v:Rat) (a b:Int):Prop where
 pos:0 < v
 lo:2 ^ a≤v
 hi:v≤2 ^ b
theorem Btw.inv {v:Rat} {a b:Int} (h:Btw v a b):Btw v⁻¹ (-b) (-a):=by
 refine ⟨Rat.inv_pos.2 h.pos,?_,?_⟩
 ·rw [Rat.zpow_neg]; exact inv_le_inv h.pos h.hi
 ·rw [Rat.zpow_neg]; exact inv_le_inv (Rat.zpow_pos (by decide)) h.lo
theorem Btw.zpow_neg {v:Rat} {a b:Int} (h:Btw v a b) {j:Int} (hj:j≤0):Btw (v ^ j) (j * b) (j * a):=by
 refine ⟨Rat.zpow_pos h.pos,?_,?_⟩
 ·rw [Int.mul_comm,← zpow_mul' two_ne]; exact zpow_le_zpow_neg h.pos h.hi hj
 ·rw [Int.mul_comm,← zpow_mul' two_ne]; exact zpow_le_zpow_neg (Rat.zpow_pos (by decide)) h.lo hj
theorem Btw.mul {v u:Rat} {a b c d:Int} (h:Btw v a b) (k:Btw u c d):Btw (v * u) (a + c) (b + d):=by
 refine ⟨Rat.mul_pos h.pos k.pos,?_,?_⟩
 ·rw [Rat.zpow_add two_ne]
  have h1:=Rat.mul_le_mul_of_nonneg_right h.lo (c:=2 ^ c) (Rat.le_of_lt (Rat.zpow_pos (by decide)))
  have h2:=Rat.mul_le_mul_of_nonneg_left k.lo (c:=v) (Rat.le_of_lt h.pos)
  exact Rat.le_trans h1 h2
 ·rw [Rat.zpow_add two_ne]
  have h1:=Rat.mul_le_mul_of_nonneg_right h.hi (c:=u) (Rat.le_of_lt k.pos)
  have h2:=Rat.mul_le_mul_of_nonneg_left k.hi (c:=2 ^ b) (Rat.le_of_lt (Rat.zpow_pos (by decide)))
  exact Rat.le_trans h1 h2
theorem Btw.lt {v:Rat} {a b:Int} (h:Btw v a b) (hb:b < 0):v < 1:=by
 have:=two_zpow_lt_one hb
 have:=h.hi
 grind
def eLo (f:Int→Nat) (l:List (Int×Int)):Int:=(l.map fun x=>if x.2 < 0 then x.2 * (hiL f x.1:Int) else x.2 * (f x.1:Int)).sum
def eHi (f:Int→Nat) (l:List (Int×Int)):Int:=(l.map fun x=>if x.2 < 0 then x.2 * (f x.1:Int) else x.2 * (hiL f x.1:Int)).sum
theorem term_split (k:Int) (a b:Nat):(if k < 0 then k * (b:Int) else k * (a:Int))=((k.toNat * a:Nat):Int) - (((-k).toNat * b:Nat):Int):=by
 by_cases h:k < 0
 ·rw [if_pos h,show k.toNat=0 by omega]
  have e:((-k).toNat:Int) = -k:=Int.toNat_of_nonneg (by omega)
  rw [Int.natCast_mul,Int.natCast_mul,e]
  grind
 ·rw [if_neg h,show (-k).toNat=0 by omega]
  have e:(k.toNat:Int)=k:=Int.toNat_of_nonneg (by omega)
  rw [Int.natCast_mul,Int.natCast_mul,e]
  grind
theorem eLo_eq (f:Int→Nat):∀ l:List (Int×Int),eLo f l=(loS f l:Int) - (hiS f (negT l):Int)
 | []=>rfl
 | x :: l=>by
  have ih:=eLo_eq f l
  unfold eLo at ih ⊢
  have e:negT (x :: l)=(x.1,-x.2) :: negT l:=rfl
  rw [List.map_cons,List.sum_cons,ih,e,loS,hiS,term_split]
  dsimp only
  omega
theorem eHi_eq (f:Int→Nat):∀ l:List (Int×Int),eHi f l=(hiS f l:Int) - (loS f (negT l):Int)
 | []=>rfl
 | x :: l=>by
  have ih:=eHi_eq f l
  unfold eHi at ih ⊢
  have e:negT (x :: l)=(x.1,-x.2) :: negT l:=rfl
  rw [List.map_cons,List.sum_cons,ih,e,hiS,loS,term_split]
  dsimp only
  omega
end Go.Proofs.YtnjedhgcfeoemaaGreatDoor.LN

namespace Go.Proofs.YtnjedhgcfeoemaaGreatDoor
open Go.RowKit Go.Shelf
attribute [local go_sem] Oper.semAt_some
def lf (n:Nat):Int→Nat:=fun p=>lgN p n
structure EndI (B:Nat) (n:Int) (slo shi:ByteArray) (W:World):Prop where
 c3:W.cell? ⟨B + 1,0,none⟩=some (.int .i64 n)
 c4:W.cell? ⟨B + 1 + 1,0,none⟩=some (.string slo)
 c5:W.cell? ⟨B + 1 + 1 + 1,0,none⟩=some (.string shi)
 f4:W.frozen? ⟨B + 1 + 1,0,none⟩=false
 f5:W.frozen? ⟨B + 1 + 1 + 1,0,none⟩=false
 sz:B + 4 < W.heap.size
theorem EndI.below {B:Nat} {n:Int} {slo shi:ByteArray} {W W':World} (h:EndI B n slo shi W) (hb:Below W.heap.size W W'):EndI B n slo shi W' :=
 ⟨(hb.cell (block_lt_of_cell h.c3)).trans h.c3,(hb.cell (block_lt_of_cell h.c4)).trans h.c4,(hb.cell (block_lt_of_cell h.c5)).trans h.c5,
  (hb.frozen (block_lt_of_cell h.c4)).trans h.f4,(hb.frozen (block_lt_of_cell h.c5)).trans h.f5,Nat.lt_of_lt_of_le h.sz hb.size⟩
theorem EndI.kept {B:Nat} {n:Int} {slo shi:ByteArray} {W W':World} {row:Option Nat} (h:EndI B n slo shi W) (hg:W.grownBy W' row) (hr:∀ r,row=some r→∃ o:Obj,W.heap[r]?=some o∧o.isCells=false):EndI B n slo shi W' :=
 ⟨cell_kept h.c3 hg hr,cell_kept h.c4 hg hr,cell_kept h.c5 hg hr,(frozen_kept h.c4 hg hr).trans h.f4,(frozen_kept h.c5 hg hr).trans h.f5,Nat.lt_of_lt_of_le h.sz hg.size⟩
theorem EndI.stored {B:Nat} {n:Int} {slo shi:ByteArray} {W:World} (h:EndI B n slo shi W) (s t:ByteArray) :
  EndI B n s t ((W.setCell ⟨B + 1 + 1,0,none⟩ (.string s)).setCell ⟨B + 1 + 1 + 1,0,none⟩ (.string t)):=by
 refine ⟨?_,?_,?_,?_,?_,?_⟩
 ·rw [World.cell?_setCell_other _ _ _ _ (by simp),World.cell?_setCell_other _ _ _ _ (by simp)]; exact h.c3
 ·rw [World.cell?_setCell_other _ _ _ _ (by simp),World.cell?_setCell_same _ _ _ h.c4]
 ·rw [World.cell?_setCell_same _ _ _ (by rw [World.cell?_setCell_other _ _ _ _ (by simp)]; exact h.c5)]
 ·rw [World.frozen?_setCell,World.frozen?_setCell]; exact h.f4
 ·rw [World.frozen?_setCell,World.frozen?_setCell]; exact h.f5
 ·rw [World.size_setCell,World.size_setCell]; exact h.sz
def PrT (tl:List (Int×Int)):Prop:=∀ x∈tl,∃ q:Nat,x.1=q∧(q=2∨q∈oddP)
theorem lf_lt {n:Nat} {p:Int} (hp:∃ q:Nat,p=q∧(q=2∨q∈oddP)) (hn:n≤1056):lf n p < 2 ^ (n + 3)∧LN.hiL (lf n) p < 2 ^ (n + 3):=by
 obtain ⟨q,rfl,hq⟩:=hp
 have h:=lgN_le hq hn
 have e:2 ^ (n + 3)=8 * 2 ^ n:=by rw [Nat.pow_add,Nat.mul_comm]
 have h1:=Nat.two_pow_pos n
 have h2:lf n q < 7 * 2 ^ n:=h
 refine ⟨by omega,?_⟩
 unfold LN.hiL
 split <;> omega
theorem EndI.cast {B:Nat} {n:Int} {s s' t t':ByteArray} {W:World} (h:EndI B n s t W) (e1:s'=s) (e2:t'=t):EndI B n s' t' W:=by subst e1; subst e2; exact h
end Go.Proofs.YtnjedhgcfeoemaaGreatDoor

namespace Go.Proofs.YtnjedhgcfeoemaaGreatDoor.LN
end Go.Proofs.YtnjedhgcfeoemaaGreatDoor.LN

namespace Go.Proofs.YtnjedhgcfeoemaaGreatDoor
open Go.RowKit
structure TrT (tl:List (Int×Int)):Prop where
 p:PrT tl
 nz:∀ x∈tl,x.2≠0
 nd:(tl.map Prod.fst).Nodup
def Dec (tl:List (Int×Int)):Prop:=0≤LN.eLo (lf 1024) tl∨LN.eHi (lf 1024) tl≤0
end Go.Proofs.YtnjedhgcfeoemaaGreatDoor

namespace Go.Proofs.YtnjedhgcfeoemaaGreatDoor
open Go.RowKit
def smallP:List Int:=[2,3,5,7,11,13]
theorem lg_lgN {p n L:Nat} (hp:p∈oddP) (hn:n≤1056) (h:LN.lg p p.log2 n 1120=some L):lgN p n=L:=by
 rw [lg_digs] at h
 obtain ⟨s,hs,e⟩:=Option.map_eq_some_iff.1 h
 rw [← digs_lgN hp hn (by decide) hs,e]
theorem lg_cert:([3,5,7,11,13]:List Nat).map (fun p=>LN.lg p p.log2 1024 1120)=LN.certL.tail.map fun x=>some x.toNat:=by decide +kernel
theorem certL_head:LN.certL.head?=some (2 ^ 1024):=by decide +kernel
theorem certL_pos:∀ x∈LN.certL,(0:Int)≤x:=by decide +kernel
theorem lf_two (n:Nat):((lf n 2:Nat):Int)=2 ^ n:=by
 show ((lgN 2 n:Nat):Int)=_
 rw [lgN_two,Int.natCast_pow]; rfl
theorem mul_pow_le {a k m:Nat} (ha:a≤100) (h:7 + k≤m):a * 2 ^ k≤2 ^ m:=by
 have:a * 2 ^ k≤2 ^ 7 * 2 ^ k:=Nat.mul_le_mul_right _ (by omega)
 rw [← Nat.pow_add] at this
 exact Nat.le_trans this (Nat.pow_le_pow_right (by decide) h)
theorem certL_eq:smallP.map (fun p=>((lf 1024 p:Nat):Int))=LN.certL:=by
 have h:=lg_cert
 have h0:=certL_head
 have hp:=certL_pos
 obtain ⟨c0,c1,c2,c3,c4,c5,e⟩:∃ c0 c1 c2 c3 c4 c5,LN.certL=[c0,c1,c2,c3,c4,c5]:=⟨_,_,_,_,_,_,rfl⟩
 rw [e] at h h0 hp ⊢
 have key:∀ (p:Nat) (c:Int),p∈oddP→0≤c→LN.lg p p.log2 1024 1120=some c.toNat→((lf 1024 (p:Int):Nat):Int)=c:=fun p c hp h0 h=>by
  have:=lg_lgN hp (by decide) h
  show ((lgN p 1024:Nat):Int)=c
  rw [this]; omega
 simp only [List.map_cons,List.map_nil,List.tail_cons,List.cons.injEq,and_true] at h
 obtain ⟨h1,h2,h3,h4,h5⟩:=h
 simp only [List.head?_cons,Option.some.injEq] at h0
 have p1:=hp c1 (by simp)
 have p2:=hp c2 (by simp)
 have p3:=hp c3 (by simp)
 have p4:=hp c4 (by simp)
 have p5:=hp c5 (by simp)
 have k1:=key 3 c1 (by decide) p1 h1
 have k2:=key 5 c2 (by decide) p2 h2
 have k3:=key 7 c3 (by decide) p3 h3
 have k4:=key 11 c4 (by decide) p4 h4
 have k5:=key 13 c5 (by decide) p5 h5
 have k0:((lf 1024 2:Nat):Int)=c0:=by
  rw [h0]
  exact lf_two 1024
 show [((lf 1024 2:Nat):Int),((lf 1024 3:Nat):Int),((lf 1024 5:Nat):Int),((lf 1024 7:Nat):Int),((lf 1024 11:Nat):Int),((lf 1024 13:Nat):Int)]=_
 rw [k0]
 rw [show ((lf 1024 3:Nat):Int)=c1 from k1,show ((lf 1024 5:Nat):Int)=c2 from k2,show ((lf 1024 7:Nat):Int)=c3 from k3,show ((lf 1024 11:Nat):Int)=c4 from k4,show ((lf 1024 13:Nat):Int)=c5 from k5]
def Kb:Nat:=2 ^ 100
theorem dec_of_cert {tl:List (Int×Int)} (h1:∀ x∈tl,x.1∈smallP) (h0:∀ x∈tl,x.2≠0) (hd:(tl.map Prod.fst).Nodup) (hk:∀ x∈tl,x.2.natAbs≤Kb) (hl:tl.length≤100) (hne:tl≠[]):Dec tl:=by
 have hc:=LN.cert_ok
 rw [← certL_eq] at hc
 have hS:=@mul_pow_le tl.length 100 503 hl (by decide)
 have:=LN.ends_decide hc (by decide) tl hS hne (fun x hx=>⟨h1 x hx,h0 x hx,hk x hx⟩) hd
 unfold Dec
 rw [LN.eLo_eq,LN.eHi_eq]
 omega
def allP:List Int:=[2,3,5,7,11,13,17,19,23,29,31,37,41,43,47,53,59,61,67,71,73,79,83,89,97]
structure Good (ps:List Int) (l:List Rat):Prop where
 pr:∀ p∈ps,p∈allP
 nd:ps.Nodup
 kb:∀ x∈tlQ ps l,x.2.natAbs≤Kb
 dc:ps.length≤100→tlQ ps l≠[]→Dec (tlQ ps l)
theorem tlist_fst (D:Nat):∀ (ps:List Int) (l:List Rat),((tlist D ps l).map Prod.fst).Sublist ps
 | [],_=>by simp [tlist]
 | _ :: _,[]=>by simp [tlist]
 | p :: ps,q :: l=>by
  have ih:=tlist_fst D ps l
  unfold tlist at ih ⊢
  rw [List.zip_cons_cons,List.filterMap_cons]
  by_cases h:q.num=0
  ·simp only [h,if_true]; exact ih.cons _
  ·simp only [h,if_false]; exact ih.cons_cons _
theorem tlQ_nz {ps:List Int} {l:List Rat} {x:Int×Int} (h:x∈tlQ ps l):x.2≠0:=by
 obtain ⟨_,q,hq,hn,he⟩:=tlist_mem h
 rw [he]
 refine Int.mul_ne_zero hn ?_
 have h1:=LN.tden_dvd hq
 have h2:=LN.tden_pos' l
 have h3:0 < tden l / q.den:=Nat.div_pos (Nat.le_of_dvd h2 h1) q.den_pos
 omega
theorem allP_odd:allP=2 :: oddP.map (fun p=>((p:Nat):Int)):=by decide +kernel
theorem allP_pr {p:Int} (h:p∈allP):∃ q:Nat,p=q∧(q=2∨q∈oddP):=by
 rw [allP_odd] at h
 rcases List.mem_cons.1 h with rfl | h
 ·exact ⟨2,rfl,.inl rfl⟩
 ·obtain ⟨q,hq,rfl⟩:=List.mem_map.1 h
  exact ⟨q,rfl,.inr hq⟩
theorem small_all {p:Int} (h:p∈smallP):p∈allP:=by
 have:∀ p∈smallP,p∈allP:=by decide
 exact this p h
theorem trt_of {ps:List Int} {l:List Rat} (h1:∀ p∈ps,p∈allP) (h2:ps.Nodup):TrT (tlQ ps l) :=
 ⟨fun _ hx=>allP_pr (h1 _ (tlist_mem hx).1),fun _ hx=>tlQ_nz hx,(tlist_fst _ ps l).nodup h2⟩
theorem Good.lt {ps:List Int} {l:List Rat} (h:Good ps l):∀ x∈tlQ ps l,x.2.natAbs < 2 ^ 101:=fun x hx=>Nat.lt_of_le_of_lt (h.kb x hx) (by decide)
theorem Good.dec {ps:List Int} {l:List Rat} (h:Good ps l) (hn:ps.length≤100) (hne:tlQ ps l≠[]):Dec (tlQ ps l):=h.dc hn hne
theorem tlQ_len100 {ps:List Int} {l:List Rat} (hn:ps.length≤100):(tlQ ps l).length≤100 :=
 Nat.le_trans (by have:=(tlist_fst (tden l) ps l).length_le; rw [List.length_map] at this; exact this) hn
theorem Good.small {ps:List Int} {l:List Rat} (h1:∀ p∈ps,p∈smallP) (h2:ps.Nodup) (hk:∀ x∈tlQ ps l,x.2.natAbs≤Kb):Good ps l :=
 ⟨fun p hp=>small_all (h1 p hp),h2,hk,fun hn hne=>dec_of_cert (fun _ hx=>h1 _ (tlist_mem hx).1) (trt_of (fun p hp=>small_all (h1 p hp)) h2).nz (trt_of (fun p hp=>small_all (h1 p hp)) h2).nd hk (tlQ_len100 hn) hne⟩
end Go.Proofs.YtnjedhgcfeoemaaGreatDoor

namespace Go.Proofs.YtnjedhgcfeoemaaGreatDoor.LN
theorem dotI_parts (P:Int):∀ l k:List Int,dotI l k=dotI (l.map fun x=>x % P) k + P * dotI (l.map fun x=>x / P) k
 | [],_=>by simp [dotI]
 | _ :: _,[]=>by simp [dotI]
 | x :: l,y :: k=>by
  have ih:=dotI_parts P l k
  simp only [List.map_cons,dotI]
  rw [ih]
  have hx:=Int.emod_add_mul_ediv x P
  generalize x % P=r at *
  generalize x / P=q at *
  subst hx
  grind
def approx (a q:Int) (L:List Int):List Int:=L.map fun l=>(2 * q * l + a) / (2 * a)
theorem approx_length (a q:Int) (L:List Int):(approx a q L).length=L.length:=by simp [approx]
def errA (a q:Int) (L:List Int):Nat:=sumAbs (comb a (approx a q L) q L)
def nearA (a:Int) (L Q:List Int) (K S:Nat):Bool:=decide (0 < a) && Q.all fun q=>decide (errA a q L * K + q.natAbs * S < a.natAbs)
def indA (a:Int) (L Q:List Int) (V:List (List Int)) (P:Int):Bool :=
 decide (1 < P) && decide (V.length=L.length) &&
 (List.range L.length).all fun i=>decide ((combs L.length (V.getD i []) (Q.map fun q=>approx a q L)).map (fun x=>x % P)=unitRow L.length i 1)
theorem dotI_mul (P:Int):∀ u k:List Int,dotI u (k.map fun x=>P * x)=P * dotI u k
 | [],_=>by simp [dotI]
 | _ :: _,[]=>by simp [dotI]
 | a :: u,b :: k=>by
  simp only [List.map_cons,dotI]
  rw [dotI_mul P u k]
  grind
theorem ind_dvd {P:Int} {m:Nat} {U V:List (List Int)} (hU:∀ u∈U,u.length=m) (hI:∀ i,i < m→(combs m (V.getD i []) U).map (fun x=>x % P)=unitRow m i 1) (k:List Int) (hk:k.length=m) (h0:∀ u∈U,dotI u k=0) :
  ∀ x∈k,∃ y,x=P * y:=by
 intro x hx
 obtain ⟨i,hi,rfl⟩:=List.mem_iff_getElem.1 hx
 have h1:=hI i (by omega)
 have h2:=dotI_combs m k (V.getD i []) U hU h0
 rw [dotI_parts P,h1,unitRow,List.range_eq_range',dotI_unit 1 _ i 0 k,if_pos (by omega)] at h2
 rw [Nat.sub_zero,List.getD_eq_getElem?_getD,List.getElem?_eq_getElem hi,Option.getD_some,Int.one_mul] at h2
 generalize k[i]=y at *
 generalize dotI ((combs m (V.getD i []) U).map fun x=>x / P) k=q at *
 exact ⟨-q,by rw [Int.mul_neg]; omega⟩
theorem ind_zero {P:Int} (hP:1 < P) {m:Nat} {U V:List (List Int)} (hU:∀ u∈U,u.length=m) (hI:∀ i,i < m→(combs m (V.getD i []) U).map (fun x=>x % P)=unitRow m i 1) :
  ∀ (n:Nat) (k:List Int),(∀ x∈k,x.natAbs≤n)→k.length=m→(∀ u∈U,dotI u k=0)→∀ x∈k,x=0:=by
 intro n
 induction n using Nat.strongRecOn with
 | ind n ih =>
  intro k hn hk h0
  by_cases hz:n=0
  ·subst hz
   intro x hx
   have:=hn x hx
   omega
  have hd:=ind_dvd hU hI k hk h0
  have e:k=(k.map fun x=>x / P).map fun x=>P * x:=by
   rw [List.map_map]
   refine List.ext_getElem (by simp) fun i h1 h2=>?_
   obtain ⟨y,hy⟩:=hd k[i] (List.getElem_mem h1)
   rw [List.getElem_map,Function.comp_apply,hy,Int.mul_ediv_cancel_left _ (by omega)]
  have h2:∀ u∈U,dotI u (k.map fun x=>x / P)=0:=fun u hu=>by
   have h:=h0 u hu
   rw [e,dotI_mul] at h
   rcases Int.mul_eq_zero.1 h with h | h
   ·omega
   ·exact h
  have h3:∀ x∈k.map (fun x=>x / P),x.natAbs≤n / 2:=fun x hx=>by
   obtain ⟨z,hz1,rfl⟩:=List.mem_map.1 hx
   obtain ⟨y,hy⟩:=hd z hz1
   have h4:=hn z hz1
   rw [hy,Int.mul_ediv_cancel_left _ (by omega)]
   rw [hy,Int.natAbs_mul] at h4
   have h5:2 * y.natAbs≤P.natAbs * y.natAbs:=Nat.mul_le_mul_right _ (by omega)
   omega
  have h4:=ih (n / 2) (by omega) _ h3 (by rw [List.length_map]; exact hk) h2
  intro x hx
  obtain ⟨y,hy⟩:=hd x hx
  have h5:=h4 (x / P) (List.mem_map_of_mem hx)
  rw [hy,Int.mul_ediv_cancel_left _ (by omega)] at h5
  rw [hy,h5,Int.mul_zero]
theorem approx_zero {a:Int} {L Q:List Int} {V:List (List Int)} {P:Int} {K S:Nat} (hn:nearA a L Q K S=true) (hi:indA a L Q V P=true) (k:List Int) (hk:k.length=L.length) (hK:∀ x∈k,x.natAbs≤K) (hS:(dotI L k).natAbs < S) :
  ∀ x∈k,x=0:=by
 unfold nearA at hn
 unfold indA at hi
 simp only [Bool.and_eq_true,decide_eq_true_eq,List.all_eq_true,List.mem_range] at hn hi
 obtain ⟨ha,hQ⟩:=hn
 obtain ⟨⟨hP,hV⟩,hI⟩:=hi
 refine ind_zero hP (m:=L.length) (U:=Q.map fun q=>approx a q L) (V:=V) (fun u hu=>?_) hI (sumAbs k) k (fun x hx=>?_) hk fun u hu=>?_
 ·obtain ⟨q,_,rfl⟩:=List.mem_map.1 hu
  exact approx_length a q L
 ·clear hS hK hk hI hV
  unfold sumAbs
  induction k with
  | nil=>cases hx
  | cons y l ih =>
   rw [List.map_cons,List.sum_cons]
   rcases List.mem_cons.1 hx with rfl | hx
   ·omega
   ·have:=ih hx; omega
 ·obtain ⟨q,hq,rfl⟩:=List.mem_map.1 hu
  have h1:=hQ q hq
  have e:=dotI_comb a q (approx a q L) L k (approx_length a q L)
  have b:=dotI_le K (comb a (approx a q L) q L) k hK
  unfold errA at h1
  generalize dotI (approx a q L) k=f at *
  generalize dotI L k=T at *
  generalize sumAbs (comb a (approx a q L) q L) * K=A at *
  rw [e] at b
  have h3:(a * f).natAbs≤(a * f - q * T).natAbs + (q * T).natAbs:=by omega
  rw [Int.natAbs_mul,Int.natAbs_mul q T] at h3
  have h5:q.natAbs * T.natAbs≤q.natAbs * S:=Nat.mul_le_mul_left _ (by omega)
  have h6:a.natAbs * f.natAbs < a.natAbs * 1:=by omega
  have h7:f.natAbs < 1:=Nat.lt_of_mul_lt_mul_left h6
  omega
def certP25:List Nat:=[2,3,5,7,11,13,17,19,23,29,31,37,41,43,47,53,59,61,67,71,73,79,83,89,97]
def certL25:List Int:=certP25.map fun p=>if p=2 then 2 ^ 1024 else (((lg p p.log2 1024 1120).getD 0:Nat):Int)
def certQ25:List Int:=[-0x390cc4547b4cd34f887aebaadaaef6c9e2c25ec48d8f23b26f2a85d828ff28e8bf9ca1f7cfab0d284288c4b575780f820db978a62a9677ad80c583c592139,-0x260814ef7f5ac50a6006d98cfd70b43cacbe2b44c5a6acba00c9e36e133dfaec54ded4a6dbf2b1ee3d9f0170e9040519515ec50467e78cea24b2a987b6ebe,0xc1fe29faf3a552cd8de28a12e2da45a09a6f6ddd51c9fdf123231365c26467b7f0adb74fd1629cde5109fd2ce82ac31cf6a7159b88cbc009f06beb2efe7f1,0xc4d95d3690e9b65f02a176c883e8ec48cac8f51c6e6ac88155fbb552a8d107e0735dfadeafbd00dc15d7affcd74d1aedcc8b5819242d9f5374d744f37864b,0x2fbe3f25a3a7de9b5b481954d1f6339b2cd20553ab9d3ebec152b19718dccca849fa91bd57f1ef5cf6b3fd1de44fed74095a607713b59e5dab526a5bf2d1a,0xb1d4a89456513f0be0db174271d748684707ab7c465b9b152f9cfd46885d014b0b6313fdb7fb0ac0f8c0cbb84fa1114a2fc1ad81d7b46dc68888c7e484443,0xd4fb67b9eee711061c2f484eaeb6714b80931bf0be34de2758afdcfc8ab8d81f286fc368a34abbdee16567d53c8e00633cd4e3c89dc0919dbd4e6776a43bb,0xc899fb23e590a24b56a2adcd8da665a66ae2ec7e27986cc365cb27f6d6036be68c300e821eb425ea7f34efe116edeeffcaca2af99a0269f5b4261db47c314,-0x11d12dd471b033d8f64d3dd96ce360413127b1e913f3ae0a69f58fd7c784be2b7f4730a1aa0e86d39e38d5da6e24bfecc0540ab55bd835eba83548458d713,0xb926771e4e6fa1b1d854b5141a33d1ea69f18e9493e4bd4e7fc79ec59c41a85d36321c75af04f2583ea8a5d6ed566b5e9fa774026a91431b6a7df578e7459,-0x3c28cc5f354ba5a9fc8d241587fa21af31c3e6e94de0dd06347765459067893f4625b14ba63b900137e634223d3e51fc18e23feb9d937a72459c82f489561,-0xd89ae46dcc2d34099da88c0eeebe45a7fd8e4a5b978d5a347365896f552ec37edac4d764c4c88fe731af3bde3060926f6c408fa08ce000932d017724e19ee,-0x8a91da38a2dcab2db4bf4a851cf4bbad9dd11812fb953cccc63d0e4b2da4b049c2e28f859aff65c2f55d66641eec3465bf2cc38578db652cb80d1be86824c,0x895aa15dcf5659cff1497ef77c5517ab5bc635dc394b344b270487efb0c24dd81130969cbd26c4b2570453e614b36072827d534508273926630d8792f1505,0xec0ed674cca733ecec2ec718589c4165668c921ed200cb18f949421f53adfeaf33ee49b77683fd220fda76c247b919730b89f5c86cc2ae2e7467e6288190d,0x1ad4fa358f8a2b0001052337ff5f965738e9ef08c0ab36887e87053178564d3d4733548ea08b2398fa1c8ef38e9b07acf14183670a7557085e371538399213,-0xcf563fd1ab64de44118f0ef591830a98b4375aefbd7643b50b3a2c7dad2ddda31ea6a961f9ff6856f9af1536f3807caa73d0d8bccd1b1748307caca0b514,0x5076fb700c91eb0ad7590020d977e1805d604885b67160daae909a62406d3f401f66fe04cdb504d8309c6f2062ee41b2c29c45d2c01b4a6959315c698416e,-0xe7e496b0d5dae89fd6671905c3b39792af4f23aa9c33ab499c18e57447823ce03c684e8e0d3686afff015d66b6d57f8e91b97946b1f2fb236c8d62708a18a,-0x1797837a78ad5a7cb425ecd55e66c7f45320c2112aa185855f9ac4fbdd0f1a3f868873233f2a91c500731f84bf864689b9ca4ffc44787f78ed85c25d65bafe,0x1f12b1884e6ed34a5d58fcbbd9b64bb0e3620c645f1107b850710f74df8470506f39df5b2c079d54de688969e9b3be651cc671df4be8b0402deeed04d7136f,0x38773a3f3a38ff2f461cc1a498212e2699f4b44c91c4fc8fe76a273f7433e99ad868606c13df7bb8fbc1a0e307aa2305e1edc5fc67267c33693811a24a115a,-0x468f56cd9688ad4444754dc5516780d8a728601272b981c9e540ae5c7eccc37be9aaea74cc4f68a295024dd153707784d1a0f06af7b3318b43396873b153b9,0x29803f6a11e403f7ab8ab7f301e524fd966b213312929531e43177e8e94c4228b3ff35f744d7a0381b47d50f48de84c56fabfe6825e7c594421d4081a2f909,-0x3ba482035175b55cdd54937fbed1357892e1679104490919122bafa83262d982e03a473fabb598916f8baa291f85413607e809cc262654bd47d7d78594adb]
def certV25:List (List Int):=[[98,118,202,124,83,146,107,201,172,64,12,55,105,153,239,226,195,7,28,1,187,165,30,221,20],[97,27,31,158,30,77,244,51,44,105,139,212,178,232,112,144,112,50,139,194,131,126,250,243,199],[145,223,213,170,95,13,240,130,153,118,135,223,243,186,171,134,207,140,198,195,116,22,35,91,65],[127,43,6,14,138,151,250,70,62,80,184,44,115,51,176,244,145,131,206,236,45,69,179,200,133],[215,29,202,95,72,74,48,4,10,16,59,3,80,6,27,146,155,64,144,191,207,28,47,186,115],[1,23,188,40,44,144,148,45,179,1,2,131,81,130,190,174,102,201,98,127,88,72,69,149,96],[21,40,35,113,140,63,120,23,173,12,30,112,115,247,188,77,109,86,237,6,190,149,14,217,137],[165,242,4,13,24,68,242,68,11,194,105,217,200,25,217,157,134,179,219,36,80,241,64,196,176],[206,4,124,119,72,189,189,146,49,121,239,155,85,23,138,58,180,221,118,48,106,186,171,238,86],[210,99,247,60,139,154,200,40,223,202,137,227,11,116,74,91,113,69,222,174,223,137,100,238,243],[137,154,125,2,209,203,20,147,218,42,113,181,57,132,187,233,7,180,4,13,134,94,179,172,127],[179,210,49,18,55,213,151,96,5,60,141,57,148,95,99,145,82,178,219,173,202,14,84,100,228],[102,62,217,129,14,127,200,224,35,146,125,220,123,9,18,106,211,148,211,96,123,238,196,223,230],[107,242,170,28,59,5,149,152,27,153,45,77,216,213,205,218,113,101,58,81,174,221,44,184,57],[108,175,78,124,22,49,53,21,88,184,52,93,49,179,193,43,94,166,25,71,133,248,120,207,180],[190,12,33,105,31,211,119,39,220,34,3,27,122,55,99,131,239,148,215,72,248,155,198,222,150],[144,6,56,78,4,2,126,114,216,174,212,176,32,191,21,45,218,115,143,120,153,136,150,24,232],[177,196,131,171,223,9,122,185,198,226,118,98,221,101,109,186,72,130,15,250,167,241,109,149,105],[5,109,58,172,46,17,108,71,152,136,247,173,16,175,59,71,120,96,238,26,93,192,136,39,81],[186,19,103,188,193,244,223,99,12,51,155,33,75,7,116,75,27,25,162,116,163,194,41,249,169],[16,165,61,90,34,101,66,39,9,179,6,2,90,243,140,110,154,165,206,43,233,68,70,8,11],[234,230,151,18,15,70,18,94,170,185,103,207,140,194,73,45,240,94,238,202,45,181,231,74,100],[93,157,117,129,100,102,151,37,142,24,195,236,119,121,156,62,96,20,140,202,137,110,136,203,133],[34,56,244,228,180,109,49,144,4,202,26,66,171,139,244,245,65,98,96,38,169,12,38,158,59],[93,79,212,48,179,15,215,149,126,233,223,17,202,226,95,109,96,28,47,201,229,125,122,118,247]]
theorem certL25_head:certL25.head?=some (2 ^ 1024):=by decide +kernel
theorem certL25_len:certL25.length=25:=by unfold certL25; rw [List.length_map]; rfl
theorem near25_ok:nearA (2 ^ 1024) certL25 certQ25 (2 ^ 17) (2 ^ 521)=true:=by decide +kernel
theorem ind25_ok:indA (2 ^ 1024) certL25 certQ25 certV25 251=true:=by decide +kernel
theorem cert25_zero (k:List Int) (hk:k.length=certL25.length) (hK:∀ x∈k,x.natAbs≤2 ^ 17) (hS:(dotI certL25 k).natAbs < 2 ^ 521):∀ x∈k,x=0:=approx_zero near25_ok ind25_ok k hk hK hS
end Go.Proofs.YtnjedhgcfeoemaaGreatDoor.LN

namespace Go.Proofs.YtnjedhgcfeoemaaGreatDoor
open Go.RowKit
theorem LN.ends_decide_of {pr:List Int} {f:Int→Nat} {K S:Nat} (hz:∀ k:List Int,k.length=pr.length→(∀ x∈k,x.natAbs≤K)→(LN.dotI (pr.map fun p=>(f p:Int)) k).natAbs < S→∀ x∈k,x=0) (hp:pr.Nodup) (l:List (Int×Int)) (hl:l.length * K≤S) (hne:l≠[])
  (hm:∀ x∈l,x.1∈pr∧x.2≠0∧x.2.natAbs≤K) (hd:(l.map Prod.fst).Nodup):LN.hiS f (LN.negT l)≤LN.loS f l∨LN.hiS f l≤LN.loS f (LN.negT l):=by
 have h1:=LN.hiS_le f K l fun x hx=>(hm x hx).2.2
 have h2:=LN.hiS_le f K (LN.negT l) (by
  intro x hx
  obtain ⟨y,hy,rfl⟩:=List.mem_map.1 hx
  have:=(hm y hy).2.2
  show (-y.2).natAbs≤K
  omega)
 have e:(LN.negT l).length=l.length:=by simp [LN.negT]
 rw [e] at h2
 have h3:=LN.sumT_eq f l
 by_cases hT:(LN.sumT f l).natAbs < S
 ·exfalso
  rw [← LN.dotI_coef f pr hp l fun x hx=>(hm x hx).1] at hT
  have h4:=hz (pr.map fun p=>LN.coefP p l) (by simp) (by
   intro x hx
   obtain ⟨p,_,rfl⟩:=List.mem_map.1 hx
   exact LN.coefP_le K l hd (fun y hy=>(hm y hy).2.2) p) hT
  match l,hne with
  | x :: r,_ =>
   have h5:=h4 _ (List.mem_map.2 ⟨x.1,(hm x List.mem_cons_self).1,rfl⟩)
   rw [LN.coefP_mem _ hd x List.mem_cons_self] at h5
   exact (hm x List.mem_cons_self).2.1 h5
 ·omega
theorem certL25_pos:∀ x∈LN.certL25,(0:Int)≤x:=by decide +kernel
theorem lg_cert25':oddP.map (fun p=>LN.lg p p.log2 1024 1120)=LN.certL25.tail.map fun x=>some x.toNat:=by decide +kernel
theorem certL25_eq:allP.map (fun p=>((lf 1024 p:Nat):Int))=LN.certL25:=by
 have h:=lg_cert25'
 have h0:=LN.certL25_head
 have hp:=certL25_pos
 obtain ⟨c0,ct,e⟩:∃ c0 ct,LN.certL25=c0 :: ct:=⟨_,_,rfl⟩
 rw [e] at h h0 hp ⊢
 rw [allP_odd,List.map_cons]
 simp only [List.head?_cons,Option.some.injEq] at h0
 rw [lf_two,h0]
 congr 1
 rw [List.tail_cons] at h
 rw [List.map_map]
 have hp':∀ x∈ct,(0:Int)≤x:=fun x hx=>hp x (List.mem_cons_of_mem _ hx)
 clear hp h0 e
 have key:∀ (l:List Nat) (ct:List Int),(∀ p∈l,p∈oddP)→(∀ x∈ct,(0:Int)≤x)→l.map (fun p=>LN.lg p p.log2 1024 1120)=ct.map (fun x=>some x.toNat)→l.map ((fun p=>((lf 1024 p:Nat):Int)) ∘ fun p=>((p:Nat):Int))=ct:=by
  intro l
  induction l with
  | nil =>
   intro ct _ _ h
   cases ct with
   | nil=>rfl
   | cons x r=>simp at h
  | cons p l ih =>
   intro ct hl hc h
   cases ct with
   | nil=>simp at h
   | cons x r =>
    simp only [List.map_cons,List.cons.injEq] at h
    rw [List.map_cons,ih r (fun q hq=>hl q (List.mem_cons_of_mem _ hq)) (fun y hy=>hc y (List.mem_cons_of_mem _ hy)) h.2]
    congr 1
    have:=lg_lgN (hl p (List.mem_cons_self ..)) (by decide) h.1
    have hx:=hc x (List.mem_cons_self ..)
    show ((lgN p 1024:Nat):Int)=x
    rw [this]
    omega
 exact key oddP ct (fun _ h=>h) hp' h
def Ke:Nat:=2 ^ 17
theorem dec_of_cert25 {tl:List (Int×Int)} (h1:∀ x∈tl,x.1∈allP) (h0:∀ x∈tl,x.2≠0) (hd:(tl.map Prod.fst).Nodup) (hk:∀ x∈tl,x.2.natAbs≤Ke) (hl:tl.length≤100) (hne:tl≠[]):Dec tl:=by
 have hS:=@mul_pow_le tl.length 17 521 hl (by decide)
 have hz:∀ k:List Int,k.length=allP.length→(∀ x∈k,x.natAbs≤Ke)→(LN.dotI (allP.map fun p=>((lf 1024 p:Nat):Int)) k).natAbs < 2 ^ 521→∀ x∈k,x=0:=by
  intro k hk hK hT
  rw [certL25_eq] at hT
  exact LN.cert25_zero k (by rw [hk,LN.certL25_len]; rfl) hK hT
 have:=LN.ends_decide_of hz (by decide) tl hS hne (fun x hx=>⟨h1 x hx,h0 x hx,hk x hx⟩) hd
 unfold Dec
 rw [LN.eLo_eq,LN.eHi_eq]
 omega
theorem Good.all {ps:List Int} {l:List Rat} (h1:∀ p∈ps,p∈allP) (h2:ps.Nodup) (hk:∀ x∈tlQ ps l,x.2.natAbs≤Ke):Good ps l :=
 ⟨h1,h2,fun x hx=>Nat.le_trans (hk x hx) (by decide),fun hn hne=>dec_of_cert25 (fun _ hx=>h1 _ (tlist_mem hx).1) (trt_of h1 h2).nz (trt_of h1 h2).nd hk (tlQ_len100 hn) hne⟩
end Go.Proofs.YtnjedhgcfeoemaaGreatDoor

namespace Go.Proofs.YtnjedhgcfeoemaaGreatDoor.LN
end Go.Proofs.YtnjedhgcfeoemaaGreatDoor.LN

namespace Go.Proofs.YtnjedhgcfeoemaaGreatDoor.LN
end Go.Proofs.YtnjedhgcfeoemaaGreatDoor.LN

namespace Go.Proofs.YtnjedhgcfeoemaaGreatDoor
open Go.RowKit
end Go.Proofs.YtnjedhgcfeoemaaGreatDoor

namespace Go.Proofs.YtnjedhgcfeoemaaGreatDoor
open Go.RowKit
end Go.Proofs.YtnjedhgcfeoemaaGreatDoor

namespace Go.Proofs.YtnjedhgcfeoemaaGreatDoor
open Go.RowKit
end Go.Proofs.YtnjedhgcfeoemaaGreatDoor

namespace Go.Proofs.YtnjedhgcfeoemaaGreatDoor
open Go.RowKit
def Sml (N M:Nat) (l:List Rat):Prop:=∀ q∈l,q.den ∣ M∧(LN.ex M q).natAbs≤N
theorem Sml.le {N K M:Nat} {l:List Rat} (h:Sml N M l) (hK:N≤K):Sml K M l:=fun q hq=>⟨(h q hq).1,Nat.le_trans (h q hq).2 hK⟩
theorem ex_den {M:Nat} {q:Rat} (z:Int) (hM:0 < M) (h:q * (M:Rat)=(z:Rat)):q.den ∣ M∧LN.ex M q=z:=by
 have hM':(M:Rat)≠0:=by have:=Rat.natCast_pos.2 hM; grind
 have e:q=mkRat z M:=by
  rw [Rat.mkRat_eq_div]
  have:=Rat.mul_div_cancel (a:=q) hM'
  rw [← h]; exact this.symm
 have hd:q.den ∣ M:=by
  rw [e,LN.mkRat_den' _ _ (by omega)]
  exact Nat.div_dvd_of_dvd (Nat.gcd_dvd_right _ _)
 refine ⟨hd,?_⟩
 rw [← Rat.intCast_inj,LN.ex_eq hd,h]
theorem Sml.comb {N K M:Nat} {la lb:List Rat} (hM:0 < M) (ha:Sml N M la) (hb:Sml K M lb) (f g:Int):Sml (N * f.natAbs + K * g.natAbs) M (combineQ la lb (f:Rat) (g:Rat)):=by
 intro q hq
 obtain ⟨i,hi,rfl⟩:=List.mem_iff_getElem.1 hq
 have hi':i < la.length∧i < lb.length:=by simp [combineQ] at hi; omega
 simp only [combineQ,List.getElem_zipWith]
 obtain ⟨d1,n1⟩:=ha _ (List.getElem_mem hi'.1)
 obtain ⟨d2,n2⟩:=hb _ (List.getElem_mem hi'.2)
 have h:(la[i]'hi'.1 * (f:Rat) + lb[i]'hi'.2 * (g:Rat)) * (M:Rat)=((LN.ex M (la[i]'hi'.1) * f + LN.ex M (lb[i]'hi'.2) * g:Int):Rat):=by
  rw [Rat.intCast_add,Rat.intCast_mul,Rat.intCast_mul,LN.ex_eq d1,LN.ex_eq d2]
  grind
 obtain ⟨r1,r2⟩:=ex_den _ hM h
 refine ⟨r1,?_⟩
 rw [r2]
 refine Nat.le_trans (Int.natAbs_add_le _ _) ?_
 rw [Int.natAbs_mul,Int.natAbs_mul]
 exact Nat.add_le_add (Nat.mul_le_mul_right _ n1) (Nat.mul_le_mul_right _ n2)
end Go.Proofs.YtnjedhgcfeoemaaGreatDoor

namespace Go.Proofs.YtnjedhgcfeoemaaGreatDoor
open Go.RowKit
end Go.Proofs.YtnjedhgcfeoemaaGreatDoor

namespace Go.Proofs.YtnjedhgcfeoemaaGreatDoor
open Go.RowKit
theorem Sml.kb {N M:Nat} {ps:List Int} {l:List Rat} (hM:0 < M) (h:Sml N M l):∀ x∈tlQ ps l,x.2.natAbs≤N:=by
 intro x hx
 obtain ⟨_,q,hq,_,he⟩:=tlist_mem hx
 have e:x.2=LN.ex (tden l) q:=he
 obtain ⟨m,hm⟩:=LN.tden_min (fun q hq=>(h q hq).1)
 have h3:=(h q hq).2
 rw [hm,Nat.mul_comm,LN.ex_mul (LN.tden_dvd hq),Int.natAbs_mul,Int.natAbs_natCast] at h3
 have hm0:0 < m:=by
  rcases Nat.eq_zero_or_pos m with h0 | h0
  ·rw [h0,Nat.mul_zero] at hm; omega
  ·exact h0
 rw [e]
 have h4:1 * (LN.ex (tden l) q).natAbs≤m * (LN.ex (tden l) q).natAbs:=Nat.mul_le_mul_right _ hm0
 omega
theorem Sml.den {N:Nat} {l:List Rat} (h:Sml N 12 l):tden l≤12:=Nat.le_of_dvd (by decide) (LN.tden_min (fun q hq=>(h q hq).1))
end Go.Proofs.YtnjedhgcfeoemaaGreatDoor

namespace Go.Proofs.YtnjedhgcfeoemaaGreatDoor
open Go.RowKit
/-! The numbers of the law. -/
end Go.Proofs.YtnjedhgcfeoemaaGreatDoor

namespace Go.Proofs.YtnjedhgcfeoemaaGreatDoor
open Go.RowKit
def OwnI (w:World) (B:Nat) (a:Option Addr) (c:Nat) (l:List Int):Prop:=w.ownsRow B 3 1 (.slice a l.length c) l.length (ints l)
theorem OwnI.rd {w:World} {B c:Nat} {a:Option Addr} {l:List Int} (h:OwnI w B a c l):Rd w a (ints l):=own_rd h
theorem OwnI.below {w w':World} {B c:Nat} {a:Option Addr} {l:List Int} (h:OwnI w B a c l) {D:Nat} (hb:Below D w w') (hD:w.heap.size≤D):OwnI w' B a c l:=own_below h hb hD
theorem OwnI.nil (w:World) (B:Nat):OwnI w B none 0 []:=World.ownsRow_nil w B _ 1
end Go.Proofs.YtnjedhgcfeoemaaGreatDoor

namespace Go.Proofs.YtnjedhgcfeoemaaGreatDoor
open Go.RowKit
end Go.Proofs.YtnjedhgcfeoemaaGreatDoor

namespace Go.Proofs.YtnjedhgcfeoemaaGreatDoor
open Go.RowKit
end Go.Proofs.YtnjedhgcfeoemaaGreatDoor

namespace Go.Proofs.YtnjedhgcfeoemaaGreatDoor
open Go.RowKit
theorem isPz_all {n:Int} (h:IsPz n):n∈allP:=by
 obtain ⟨h0,h1⟩:=h
 obtain ⟨m,rfl⟩:=Int.eq_ofNat_of_zero_le h0
 rw [Int.toNat_natCast] at h1
 have key:∀ m,m < 98→IsP m→(m:Int)∈allP:=by decide +kernel
 exact key m (by have:=h1.2.1; omega) h1
theorem allP_le {p:Int} (h:p∈allP):2≤p∧p≤97:=by
 have key:∀ q∈allP,2≤q∧q≤97:=by decide
 exact key p h
structure PrOk (ps:List Int):Prop where
 p0:pcode ps=0
 all:∀ p∈ps,p∈allP
 nd:ps.Nodup
 n0:0 < ps.length
 n6:ps.length≤6
theorem PrOk.pr {ps:List Int} (P:PrOk ps):∀ p∈ps,2≤p∧p≤97:=fun p hp=>allP_le (P.all p hp)
theorem PrOk.pos {ps:List Int} (P:PrOk ps):∀ p∈ps,0 < p:=fun p hp=>by have:=P.pr p hp; omega
theorem PrOk.i64 {ps:List Int} (P:PrOk ps):I64s ps:=fun p hp=>by have:=P.pr p hp; omega
def rq (x:List Int):List Rat:=x.map fun x:Int=>(x:Rat)
def Bd (N:Nat) (x:List Int):Prop:=∀ a∈x,a.natAbs≤N
theorem Bd.le {N K:Nat} {x:List Int} (h:Bd N x) (hK:N≤K):Bd K x:=fun a ha=>Nat.le_trans (h a ha) hK
theorem Bd.sm {N D:Nat} {x:List Int} (h:Bd N x) (hD:N < 10 ^ D) (h1:1 < 10 ^ D):∀ q∈rq x,Sm D q:=fun q hq=>by
 obtain ⟨a,ha,rfl⟩:=List.mem_map.1 hq
 exact ⟨by rw [Rat.num_intCast]; exact Nat.lt_of_le_of_lt (h a ha) hD,by rw [Rat.den_intCast]; exact h1⟩
end Go.Proofs.YtnjedhgcfeoemaaGreatDoor

namespace Go.Proofs.YtnjedhgcfeoemaaGreatDoor
open Go.RowKit
def bcode (p n:Int):Int:=if IsPz p then (if n < 0∨1000 < n then 3 else 0) else 25
theorem isPz_pr {p:Int} (h:IsPz p):∃ q:Nat,p=q∧(q=2∨q∈oddP):=allP_pr (isPz_all h)
theorem isP_le {p:Int} (h:IsPz p):2≤p∧p≤97:=by
 obtain ⟨h0,h1,h2,-⟩:=h
 omega
theorem checkBounds_any (w:World) (p n:Int) (p0 : -9223372036854775808≤p) (p1:p≤9223372036854775807) (n0 : -9223372036854775808≤n) (n1:n≤9223372036854775807) :
  Gives Tryz.prog 66 #[.int .i64 p,.int .i64 n] w (.int .i64 (bcode p n)):=by
 unfold Gives
 have HP:=hd_ (isPrimez_any w p p0 p1)
 by_cases h:IsPz p
 ·rw [decide_eq_true h] at HP
  have Hv:Hid (bcode p n=if n < 0∨1000 < n then 3 else 0):=by show _=_; unfold bcode; rw [if_pos h]
  generalize bcode p n=v at *
  clear h
  by_cases h1:n < 0
  ·have Hv2:Hid (v=3):=by show _=_; rw [Hv.out,if_pos (.inl h1)]
   clear Hv
   go_enter Tryz.func66,Tryz.ntmps66
   go_wp2_with fail
   refine cm_ HP.out ?_
   rintro e w1 ⟨rfl,hb⟩
   have B1:=hd_ hb
   clear hb HP
   go_wp2_with fail
   go_ret
   exact ⟨by rw [Hv2.out]; rfl,B1.out⟩
  ·by_cases h2:1000 < n
   ·have Hv2:Hid (v=3):=by show _=_; rw [Hv.out,if_pos (.inr h2)]
    clear Hv
    go_enter Tryz.func66,Tryz.ntmps66
    go_wp2_with fail
    refine cm_ HP.out ?_
    rintro e w1 ⟨rfl,hb⟩
    have B1:=hd_ hb
    clear hb HP
    go_wp2_with fail
    go_ret
    exact ⟨by rw [Hv2.out]; rfl,B1.out⟩
   ·have Hv2:Hid (v=0):=by show _=_; rw [Hv.out,if_neg (by omega)]
    clear Hv
    go_enter Tryz.func66,Tryz.ntmps66
    go_wp2_with fail
    refine cm_ HP.out ?_
    rintro e w1 ⟨rfl,hb⟩
    have B1:=hd_ hb
    clear hb HP
    go_wp2_with fail
    go_ret
    exact ⟨by rw [Hv2.out]; rfl,B1.out⟩
 ·rw [decide_eq_false h] at HP
  have Hv2:Hid (bcode p n=25):=by show _=_; unfold bcode; rw [if_neg h]
  generalize bcode p n=v at *
  clear h
  go_enter Tryz.func66,Tryz.ntmps66
  go_wp2_with fail
  refine cm_ HP.out ?_
  rintro e w1 ⟨rfl,hb⟩
  have B1:=hd_ hb
  clear hb HP
  go_wp2_with fail
  go_ret
  exact ⟨by rw [Hv2.out]; rfl,B1.out⟩
def bndV (p n:Int) (s:ByteArray):Value := .agg #[.int .i64 p,.int .i64 n,.string s]
theorem power_ok (w:World) (n:Nat) (hn:n≤4000) (L:Laid w):Gives Tryz.prog 152 #[.int .i64 n] w (.string (dec (2 ^ n))):=by
 unfold Gives
 have HP:=hd_ (wpow2 w n hn L)
 generalize dec (2 ^ n)=s at *
 go_enter Tryz.func152,Tryz.ntmps152
 go_wp2_with fail
 refine cm_ HP.out ?_
 rintro e w1 ⟨rfl,hb⟩
 have B1:=hd_ hb
 clear hb HP
 go_wp2_with fail
 go_ret
 exact ⟨rfl,B1.out⟩
theorem three_stored {w0 w:World} {B g:Nat} {a b c:Value} (x y z:Value) (k0:w.cell? ⟨g,0,none⟩=some a) (k1:w.cell? ⟨g,1,none⟩=some b) (k2:w.cell? ⟨g,2,none⟩=some c) (hB:B≤g) (hb:Below B w0 w) :
  (((w.setCell ⟨g,0,none⟩ x).setCell ⟨g,1,none⟩ y).setCell ⟨g,2,none⟩ z).cell? ⟨g,0,none⟩=some x∧(((w.setCell ⟨g,0,none⟩ x).setCell ⟨g,1,none⟩ y).setCell ⟨g,2,none⟩ z).cell? ⟨g,1,none⟩=some y∧(((w.setCell ⟨g,0,none⟩ x).setCell ⟨g,1,none⟩ y).setCell ⟨g,2,none⟩ z).cell? ⟨g,2,none⟩=some z ∧
  Below B w0 (((w.setCell ⟨g,0,none⟩ x).setCell ⟨g,1,none⟩ y).setCell ⟨g,2,none⟩ z):=by
 refine ⟨?_,?_,?_,?_⟩
 ·rw [World.cell?_setCell_other _ _ _ _ (by simp),World.cell?_setCell_other _ _ _ _ (by simp),World.cell?_setCell_same _ _ _ k0]
 ·rw [World.cell?_setCell_other _ _ _ _ (by simp),World.cell?_setCell_same _ _ _ (by rw [World.cell?_setCell_other _ _ _ _ (by simp)]; exact k1)]
 ·rw [World.cell?_setCell_same _ _ _ (by rw [World.cell?_setCell_other _ _ _ _ (by simp),World.cell?_setCell_other _ _ _ _ (by simp)]; exact k2)]
 ·exact ((hb.setCell (p:=⟨g,0,none⟩) hB x).setCell (p:=⟨g,1,none⟩) hB y).setCell (p:=⟨g,2,none⟩) hB z
theorem eOf_ok (w:World) (p n:Nat) (hp:p=2∨p∈oddP) (hpz:IsPz p) (hn:n≤1000) (L:Laid w) :
  Gives Tryz.prog 17 #[.int .i64 p,.int .i64 n] w (.tuple #[bndV p n (dec (lgN p n)),.int .i64 0]):=by
 unfold Gives bndV
 have Hb0:=hd_ ((Below.refl w.heap.size w).alloc nr_ (.cells #[.int .i64 0,.int .i64 0,.string ⟨#[]⟩] 27))
 have Hnew:Hid ((w.alloc (.cells #[.int .i64 0,.int .i64 0,.string ⟨#[]⟩] 27)).heap[w.heap.size]?=some (.cells #[.int .i64 0,.int .i64 0,.string ⟨#[]⟩] 27 (0,0))):=heap_alloc_new w _
 have h97:=isP_le hpz
 have HC:=hd_ (fun W=>checkBounds_any W p n (by omega) (by omega) (by omega) (by omega))
 have hb0:bcode p n=0:=by unfold bcode; rw [if_pos hpz,if_neg (by omega)]
 rw [hb0] at HC
 have HLo:=hd_ (fun W (hW:Below w.heap.size w W)=>elow_any W p n hp hn (L.below hW))
 clear hb0 hp hpz L h97 hn
 generalize dec (lgN p n)=s at *
 go_enter Tryz.func17,Tryz.ntmps17
 go_wp2_with fail
 generalize w.alloc (.cells #[.int .i64 0,.int .i64 0,.string ⟨#[]⟩] 27)=W0 at *
 refine cm_ (HC.out _) ?_
 rintro e w1 ⟨rfl,hb⟩
 have B1:=hd_ hb
 have Hbw1:=hd_ (Hb0.out.trans (hb.mono Hb0.out.size))
 clear hb HC
 go_wp2_with fail
 refine cm_ (HLo.out _ Hbw1.out) ?_
 rintro e w2 ⟨rfl,hb⟩
 have B2:=hd_ (B1.out.trans (hb.mono B1.out.size))
 have Hcell:Hid (w2.heap[w.heap.size]?=some (.cells #[.int .i64 0,.int .i64 0,.string ⟨#[]⟩] 27 (0,0))):=by
  show _=_
  rw [B2.out.block _ (Array.getElem?_eq_some_iff.1 Hnew.out).1]; exact Hnew.out
 have Hbw:=hd_ (Hbw1.out.trans (hb.mono Hbw1.out.size))
 obtain ⟨k0,k1,k2,kf⟩:=three_cells Hcell.out
 have f0:=kf 0
 have f1:=kf 1
 have f2:=kf 2
 clear hb HLo kf Hcell Hnew Hb0 B1 B2 Hbw1
 go_wp2
 obtain ⟨c0,c1,c2,hb3⟩:=three_stored (.int .i64 p) (.int .i64 n) (.string s) k0 k1 k2 nr_ Hbw.out
 generalize ((w2.setCell ⟨w.heap.size,0,none⟩ (.int .i64 p)).setCell ⟨w.heap.size,1,none⟩ (.int .i64 n)).setCell ⟨w.heap.size,2,none⟩ (.string s)=w9 at *
 exact bodyPost_ret (v := .tuple #[.agg #[.int .i64 p,.int .i64 n,.string s],.int .i64 0]) (by simp [results,Tryz.results17,go_sem,c0,c1,c2]) rfl ⟨rfl,hb3⟩
end Go.Proofs.YtnjedhgcfeoemaaGreatDoor

namespace Go.Proofs.YtnjedhgcfeoemaaGreatDoor
open Go.RowKit
theorem mkRat_mul_den (z:Int) (d:Nat) (hd:0 < d):mkRat z d * (d:Rat)=(z:Rat):=by
 rw [Rat.mkRat_eq_div]
 exact Rat.div_mul_cancel (by have:=Rat.natCast_pos.2 hd; grind)
end Go.Proofs.YtnjedhgcfeoemaaGreatDoor

namespace Go.Proofs.YtnjedhgcfeoemaaGreatDoor
open Go.RowKit
structure TwoF (w:World) (s t s' t':ByteArray) (W0:World):Prop where
 fa:W0.heap[w.heap.size]?=some (.cells #[.string s,.string t] 42 (0,0))
 fb:W0.heap[w.heap.size + 1]?=some (.cells #[.string s',.string t'] 42 (0,0))
 bel:Below w.heap.size w W0
theorem TwoF.mk' (w:World) (s t s' t':ByteArray):TwoF w s t s' t' ((w.alloc (.cells #[.string s,.string t] 42)).alloc (.cells #[.string s',.string t'] 42)):=by
 have hA:=heap_alloc_new w (.cells #[.string s,.string t] 42)
 have hB:=heap_alloc_new (w.alloc (.cells #[.string s,.string t] 42)) (.cells #[.string s',.string t'] 42)
 have e1:(w.alloc (.cells #[.string s,.string t] 42)).heap.size=w.heap.size + 1:=by simp
 refine ⟨?_,?_,?_⟩
 ·exact stored_cell hA ((Below.refl _ _).alloc nr_ _)
 ·rw [e1] at hB
  exact hB
 ·exact ((Below.refl _ _).alloc nr_ _).alloc (by simp) _
theorem TwoF.next {w W0 W:World} {s t s' t':ByteArray} (h:TwoF w s t s' t' W0) (hb:Below W0.heap.size W0 W):TwoF w s t s' t' W :=
 ⟨stored_cell h.fa hb,stored_cell h.fb hb,h.bel.trans (hb.mono h.bel.size)⟩
theorem cmpZ_mul {n m:Int} {d:Nat} (h:0 < d):cmpZ (n * d) (m * d)=cmpZ n m:=by
 have h':(0:Int) < d:=by omega
 unfold cmpZ
 have e1:n * (d:Int) < m * d↔n < m:=Int.mul_lt_mul_right h'
 have e2:n * (d:Int)=m * d↔n=m:=⟨fun h1=>Int.eq_of_mul_eq_mul_right (by omega) h1,fun h1=>by rw [h1]⟩
 by_cases h1:n < m
 ·rw [if_pos h1,if_pos (e1.2 h1)]
 ·rw [if_neg h1,if_neg (fun h=>h1 (e1.1 h))]
  by_cases h2:n=m
  ·rw [if_pos h2,if_pos (e2.2 h2)]
  ·rw [if_neg h2,if_neg (fun h=>h2 (e2.1 h))]
theorem dec_ne {d e:Nat} (h:d≠e):((dec d).toList == (dec e).toList)=false:=by
 rw [beq_eq_false_iff_ne]
 intro h1
 refine h (dec_inj ?_)
 rw [← lb_dec,← lb_dec]
 rw [← toList_lb,← toList_lb]
 exact h1
theorem compare_frac (w:World) (n m:Int) (d e:Nat) (hn:ZNum n) (hm:ZNum m) (hd:Num d) (he:Num e) (hd0:0 < d)
  (hne:Num (n * e).natAbs) (hmd:Num (m * d).natAbs) (L:Laid w) :
  Gives Tryz.prog 43 #[fv n d,fv m e] w (.int .i64 (cmpZ (n * e) (m * d))):=by
 have H3:=hd_ (TwoF.mk' w (itx n) (dec d) (itx m) (dec e))
 have HL:=hd_ (L.below H3.out.bel)
 clear L
 obtain ⟨v,hv⟩:∃ v,cmpZ (n * e) (m * d)=v:=⟨_,rfl⟩
 have Hv:=hd_ hv
 rw [hv]
 unfold Gives
 have Hm1:Hid (∀ W,Below ((w.alloc (.cells #[.string (itx n),.string (dec d)] 42)).alloc (.cells #[.string (itx m),.string (dec e)] 42)).heap.size ((w.alloc (.cells #[.string (itx n),.string (dec d)] 42)).alloc (.cells #[.string (itx m),.string (dec e)] 42)) W→∀ d' os,Calls Tryz.prog 115 #[.string (itx n),.string (dec e)] (Go.Sort.grow (redrawn W d') os) fun e' w'=>e' = .returned (.string (itx (n * e)))∧∃ p:Regrown,w'=Go.Sort.grow (redrawn W p.d) p.os):=fun W hW d' os=>by
  have:=mulz_any (Go.Sort.grow (redrawn W d') os) n (e:Int) hn (show Num _ from he) hne ((HL.out.below hW).below (below_regrown W d' os))
  rw [itx_nat] at this
  exact Calls.regrown_of this
 have Hm2:Hid (∀ W,Below ((w.alloc (.cells #[.string (itx n),.string (dec d)] 42)).alloc (.cells #[.string (itx m),.string (dec e)] 42)).heap.size ((w.alloc (.cells #[.string (itx n),.string (dec d)] 42)).alloc (.cells #[.string (itx m),.string (dec e)] 42)) W→∀ d' os,Calls Tryz.prog 115 #[.string (itx m),.string (dec d)] (Go.Sort.grow (redrawn W d') os) fun e' w'=>e' = .returned (.string (itx (m * d)))∧∃ p:Regrown,w'=Go.Sort.grow (redrawn W p.d) p.os):=fun W hW d' os=>by
  have:=mulz_any (Go.Sort.grow (redrawn W d') os) m (d:Int) hm (show Num _ from hd) hmd ((HL.out.below hW).below (below_regrown W d' os))
  rw [itx_nat] at this
  exact Calls.regrown_of this
 have Hm3:Hid (∀ W d' os,Calls Tryz.prog 114 #[.string (itx (n * e)),.string (itx (m * d))] (Go.Sort.grow (redrawn W d') os) fun e' w'=>e' = .returned (.int .i64 v)∧∃ p:Regrown,w'=Go.Sort.grow (redrawn W p.d) p.os):=fun W d' os=>by
  have:=comparez_any (Go.Sort.grow (redrawn W d') os) (n * e) (m * d) hne hmd
  rw [hv] at this
  exact Calls.regrown_of this
 have Hm4:Hid (d=e→∀ W,Gives Tryz.prog 114 #[.string (itx n),.string (itx m)] W (.int .i64 v)):=fun h W=>by
  have:=comparez_any W n m hn hm
  rw [← cmpZ_mul hd0,show ((d:Nat):Int)=d from rfl] at this
  subst h
  rw [hv] at this
  exact this
 clear hv
 by_cases h1:(itx n).size≤9∧(dec d).size≤9
 ·have Hc1:=hd_ (both_small n d hn hd h1)
  by_cases h2:(itx m).size≤9∧(dec e).size≤9
  ·have Hc2:=hd_ (both_small m e hm he h2)
   have q1:=itx_lim n 9 (by decide) h1.1
   have q2:=itx_lim m 9 (by decide) h2.1
   have q3:=(dec_length d 9 (by decide)).1 (by rw [← dec_size]; exact h1.2)
   have q4:=(dec_length e 9 (by decide)).1 (by rw [← dec_size]; exact h2.2)
   have q5:(n * e).natAbs≤1000000000 * 1000000000:=by rw [Int.natAbs_mul]; exact Nat.mul_le_mul (by omega) (by omega)
   have q7:(m * d).natAbs≤1000000000 * 1000000000:=by rw [Int.natAbs_mul]; exact Nat.mul_le_mul (by omega) (by omega)
   have hw1:IntKind.i64.wrap (n * e)=n * e:=iw_ _ (by omega)
   have hw3:IntKind.i64.wrap (m * d)=m * d:=iw_ _ (by omega)
   have hlow:n * e < m * d→v = -1:=fun h=>by rw [← Hv.out]; unfold cmpZ; rw [if_pos h]
   have hhigh:m * d < n * e→v=1:=fun h=>by rw [← Hv.out]; unfold cmpZ; rw [if_neg (by omega),if_neg (by omega)]
   have hsame:n * e=m * d→v=0:=fun h=>by rw [← Hv.out]; unfold cmpZ; rw [if_neg (by omega),if_pos h]
   unfold fv at Hc1 Hc2 ⊢
   have Hlow:=hd_ hlow
   have Hhigh:=hd_ hhigh
   have Hsame:=hd_ hsame
   clear Hm1 Hm2 Hm3 Hm4 q1 q2 q3 q4 q5 q7 h1 h2 hne hmd hlow hhigh hsame Hv
   go_enter Tryz.func43,Tryz.ntmps43
   obtain ⟨k0,k1,-,-⟩:=two_cells H3.out.fa
   obtain ⟨k2,k3,-,-⟩:=two_cells H3.out.fb
   go_wp2_with fail
   generalize (w.alloc (.cells #[.string (itx n),.string (dec d)] 42)).alloc (.cells #[.string (itx m),.string (dec e)] 42)=W0 at *
   clear k0 k1 k2 k3
   refine cm_ (Hc1.out _) ?_
   rintro e_ w1 ⟨rfl,hb1⟩
   have Hb1:=hd_ hb1
   clear hb1 Hc1
   obtain ⟨k0,k1,-,-⟩:=two_cells (H3.out.next Hb1.out).fa
   obtain ⟨k2,k3,-,-⟩:=two_cells (H3.out.next Hb1.out).fb
   go_wp2_with fail
   clear k0 k1 k2 k3
   refine cm_ (Hc2.out _) ?_
   rintro e_ w2 ⟨rfl,hb2⟩
   have Hb2:=hd_ (Hb1.out.trans (hb2.mono Hb1.out.size))
   clear hb2 Hb1 Hc2
   have B5:=hd_ (H3.out.bel.trans (Hb2.out.mono H3.out.bel.size))
   by_cases c1:n * (e:Int) < m * (d:Int)
   ·go_wp2_with fail
    go_ret
    exact ⟨by rw [Hlow.out c1]; rfl,B5.out⟩
   ·by_cases c2:m * (d:Int) < n * (e:Int)
    ·go_wp2_with fail
     go_ret
     exact ⟨by rw [Hhigh.out c2]; rfl,B5.out⟩
    ·go_wp2_with fail
     go_ret
     exact ⟨by rw [Hsame.out (by omega)]; rfl,B5.out⟩
  ·obtain ⟨x,y,hc2⟩:=both_large m e hm he h2
   have Hc2:=hd_ hc2
   unfold fv at Hc1 Hc2 ⊢
   clear h1 h2 hc2 hne hmd
   go_enter Tryz.func43,Tryz.ntmps43
   obtain ⟨k0,k1,-,-⟩:=two_cells H3.out.fa
   obtain ⟨k2,k3,-,-⟩:=two_cells H3.out.fb
   go_wp2_with fail
   generalize (w.alloc (.cells #[.string (itx n),.string (dec d)] 42)).alloc (.cells #[.string (itx m),.string (dec e)] 42)=W0 at *
   clear k0 k1 k2 k3
   refine cm_ (Hc1.out _) ?_
   rintro e_ w1 ⟨rfl,hb1⟩
   have Hb1:=hd_ hb1
   clear hb1 Hc1
   obtain ⟨k0,k1,-,-⟩:=two_cells (H3.out.next Hb1.out).fa
   obtain ⟨k2,k3,-,-⟩:=two_cells (H3.out.next Hb1.out).fb
   go_wp2_with fail
   clear k0 k1 k2 k3
   refine cm_ (Hc2.out _) ?_
   rintro e_ w2 ⟨rfl,hb2⟩
   have Hb2:=hd_ (Hb1.out.trans (hb2.mono Hb1.out.size))
   clear hb2 Hb1 Hc2
   by_cases hde:d=e
   ·have Hq:=hd_ (Hm4.out hde)
    obtain ⟨k0,k1,-,-⟩:=two_cells (H3.out.next Hb2.out).fa
    obtain ⟨k2,k3,-,-⟩:=two_cells (H3.out.next Hb2.out).fb
    subst hde
    clear Hm1 Hm2 Hm3 Hm4
    go_wp2_with fail
    clear k0 k1 k2 k3
    refine cm_ (Hq.out _) ?_
    rintro e_ w5 ⟨rfl,hb_⟩
    have B5:=hd_ (H3.out.bel.trans ((Hb2.out.trans (hb_.mono Hb2.out.size)).mono H3.out.bel.size))
    clear hb_ Hq
    go_wp2_with fail
    go_ret
    exact ⟨rfl,B5.out⟩
   ·have hq:=dec_ne hde
    obtain ⟨k0,k1,-,-⟩:=two_cells (H3.out.next Hb2.out).fa
    obtain ⟨k2,k3,-,-⟩:=two_cells (H3.out.next Hb2.out).fb
    have q0:=cell_regrown k0
    have q1:=cell_regrown k1
    have q2:=cell_regrown k2
    have q3:=cell_regrown k3
    have hM1:=Hm1.out w2 Hb2.out
    have hM2:=Hm2.out w2 Hb2.out
    have hM3:=Hm3.out w2
    clear Hm1 Hm2 Hm3 Hm4 hde
    go_wp2_with fail
    clear k0 k1 k2 k3
    refine wp_region_quiet_below (by kernel_rfl) (by kernel_rfl) ?_
    repeat (first | go_big_quiet_step (first | with_reducible exact hM1 _ _ | with_reducible exact hM2 _ _ | with_reducible exact hM3 _ _) | quiet_step (first | with_reducible exact hM1 _ _ | with_reducible exact hM2 _ _ | with_reducible exact hM3 _ _))
    refine wpQuiet_nil ?_
    intro w8 hw8
    obtain ⟨⟨dq,osq⟩,rfl⟩:=hw8
    have B5:=hd_ (H3.out.bel.trans ((Hb2.out.trans ((below_regrown w2 dq osq).mono Hb2.out.size)).mono H3.out.bel.size))
    generalize Go.Sort.grow (redrawn w2 dq) osq=w8 at *
    clear hM1 hM2 hM3 q0 q1 q2 q3
    go_wp2
    go_ret
    exact ⟨rfl,B5.out⟩
 ·obtain ⟨x,y,hc1⟩:=both_large n d hn hd h1
  have Hc1:=hd_ hc1
  unfold fv at Hc1 ⊢
  clear h1 hc1 hne hmd
  go_enter Tryz.func43,Tryz.ntmps43
  obtain ⟨k0,k1,-,-⟩:=two_cells H3.out.fa
  obtain ⟨k2,k3,-,-⟩:=two_cells H3.out.fb
  go_wp2_with fail
  generalize (w.alloc (.cells #[.string (itx n),.string (dec d)] 42)).alloc (.cells #[.string (itx m),.string (dec e)] 42)=W0 at *
  clear k0 k1 k2 k3
  refine cm_ (Hc1.out _) ?_
  rintro e_ w1 ⟨rfl,hb1⟩
  have Hb1:=hd_ hb1
  clear hb1 Hc1
  by_cases hde:d=e
  ·have Hq:=hd_ (Hm4.out hde)
   obtain ⟨k0,k1,-,-⟩:=two_cells (H3.out.next Hb1.out).fa
   obtain ⟨k2,k3,-,-⟩:=two_cells (H3.out.next Hb1.out).fb
   subst hde
   clear Hm1 Hm2 Hm3 Hm4
   go_wp2_with fail
   clear k0 k1 k2 k3
   refine cm_ (Hq.out _) ?_
   rintro e_ w5 ⟨rfl,hb_⟩
   have B5:=hd_ (H3.out.bel.trans ((Hb1.out.trans (hb_.mono Hb1.out.size)).mono H3.out.bel.size))
   clear hb_ Hq
   go_wp2_with fail
   go_ret
   exact ⟨rfl,B5.out⟩
  ·have hq:=dec_ne hde
   obtain ⟨k0,k1,-,-⟩:=two_cells (H3.out.next Hb1.out).fa
   obtain ⟨k2,k3,-,-⟩:=two_cells (H3.out.next Hb1.out).fb
   have q0:=cell_regrown k0
   have q1:=cell_regrown k1
   have q2:=cell_regrown k2
   have q3:=cell_regrown k3
   have hM1:=Hm1.out w1 Hb1.out
   have hM2:=Hm2.out w1 Hb1.out
   have hM3:=Hm3.out w1
   clear Hm1 Hm2 Hm3 Hm4 hde
   go_wp2_with fail
   clear k0 k1 k2 k3
   refine wp_region_quiet_below (by kernel_rfl) (by kernel_rfl) ?_
   repeat (first | go_big_quiet_step (first | with_reducible exact hM1 _ _ | with_reducible exact hM2 _ _ | with_reducible exact hM3 _ _) | quiet_step (first | with_reducible exact hM1 _ _ | with_reducible exact hM2 _ _ | with_reducible exact hM3 _ _))
   refine wpQuiet_nil ?_
   intro w8 hw8
   obtain ⟨⟨dq,osq⟩,rfl⟩:=hw8
   have B5:=hd_ (H3.out.bel.trans ((Hb1.out.trans ((below_regrown w1 dq osq).mono Hb1.out.size)).mono H3.out.bel.size))
   generalize Go.Sort.grow (redrawn w1 dq) osq=w8 at *
   clear hM1 hM2 hM3 q0 q1 q2 q3
   go_wp2
   go_ret
   exact ⟨rfl,B5.out⟩
end Go.Proofs.YtnjedhgcfeoemaaGreatDoor

namespace Go.Proofs.YtnjedhgcfeoemaaGreatDoor
open Go.RowKit
def minR (a b:Rat):Rat:=if b < a then b else a
def maxR (a b:Rat):Rat:=if a < b then b else a
theorem compareR (w:World) (a b:Rat) (D E:Nat) (ha:Sm D a) (hb:Sm E b) (h6:D + E + 2≤1000000) (L:Laid w) :
  Gives Tryz.prog 43 #[fr a,fr b] w (.int .i64 (cmpZ (a.num * b.den) (b.num * a.den))):=by
 have p1:=ha.pos
 have p2:=hb.pos
 have h1:(a.num * (b.den:Int)).natAbs < 10 ^ (D + E):=by rw [Int.natAbs_mul,Int.natAbs_natCast]; exact pow_ten_mul ha.1 hb.2
 have h2:(b.num * (a.den:Int)).natAbs < 10 ^ (D + E):=by rw [Int.natAbs_mul,Int.natAbs_natCast,Nat.add_comm]; exact pow_ten_mul hb.1 ha.2
 exact compare_frac w a.num b.num a.den b.den (num_pow ha.1 p1 (by omega)) (num_pow hb.1 p2 (by omega)) (num_pow ha.2 p1 (by omega)) (num_pow hb.2 p2 (by omega)) a.den_pos
  (num_pow h1 (by omega) (by omega)) (num_pow h2 (by omega) (by omega)) L
theorem lt_num (a b:Rat):a < b↔a.num * b.den < b.num * a.den:=Rat.lt_iff a b
theorem cmpZ_lt (a b:Rat):(cmpZ (a.num * b.den) (b.num * a.den) < 0↔a < b)∧(0 < cmpZ (a.num * b.den) (b.num * a.den)↔b < a):=by
 rw [lt_num,lt_num]
 unfold cmpZ
 split
 ·constructor <;> omega
 ·split
  ·constructor <;> omega
  ·constructor <;> omega
theorem minR_ok (w:World) (a b:Rat) (D E:Nat) (ha:Sm D a) (hb:Sm E b) (h6:D + E + 2≤1000000) (L:Laid w) :
  Gives Tryz.prog 111 #[fr a,fr b] w (fr (minR a b)):=by
 obtain ⟨v,hv⟩:∃ v,cmpZ (b.num * a.den) (a.num * b.den)=v:=⟨_,rfl⟩
 have H3:=hd_ (Three.mk' w (itx a.num) (dec a.den) (itx b.num) (dec b.den))
 have HC:=hd_ (fun W hW=>compareR W b a E D hb ha (by omega) (L.below (H3.out.next (W:=W) hW).bel))
 rw [hv] at HC
 have hlt:=(cmpZ_lt b a).1
 rw [hv] at hlt
 have Hmin:Hid (minR a b=if v < 0 then b else a):=by
  show _=_
  unfold minR
  by_cases h:v < 0
  ·rw [if_pos h,if_pos (hlt.1 h)]
  ·rw [if_neg h,if_neg fun hc=>h (hlt.2 hc)]
 clear hv hlt L ha hb h6
 unfold Gives
 unfold fr fv at HC ⊢
 go_enter Tryz.func111,Tryz.ntmps111
 obtain ⟨k0,k1,-,-⟩:=two_cells H3.out.fa
 obtain ⟨k2,k3,-,-⟩:=two_cells H3.out.fb
 go_wp2_with fail
 generalize ((w.alloc (.cells #[.string (itx a.num),.string (dec a.den)] 42)).alloc (.cells #[.string (itx b.num),.string (dec b.den)] 42)).alloc (.cells #[.string ⟨#[]⟩,.string ⟨#[]⟩] 42)=W0 at *
 clear k0 k1 k2 k3
 refine cm_ (HC.out _ (Below.refl _ _)) ?_
 rintro e w1 ⟨rfl,hb1⟩
 have H4:=hd_ (H3.out.next hb1)
 clear hb1 HC H3
 obtain ⟨k0,k1,-,-⟩:=two_cells H4.out.fa
 obtain ⟨k2,k3,-,-⟩:=two_cells H4.out.fb
 obtain ⟨k4,k5,f4,f5⟩:=two_cells H4.out.fr
 have Hbw:=hd_ H4.out.bel
 clear H4
 by_cases c1:v < 0
 ·have hm:minR a b=b:=by rw [Hmin.out,if_pos c1]
  have Hm:=hd_ hm
  clear hm Hmin
  go_wp2
  obtain ⟨c0,c1,hb3⟩:=two_stored (B:=w.heap.size) (.string (itx b.num)) (.string (dec b.den)) k4 k5 (by omega) Hbw.out
  generalize (w1.setCell ⟨w.heap.size + 1 + 1,0,none⟩ (.string (itx b.num))).setCell ⟨w.heap.size + 1 + 1,1,none⟩ (.string (dec b.den))=w9 at *
  exact bodyPost_ret (v := .agg #[.string (itx b.num),.string (dec b.den)]) (by simp [results,Tryz.results111,go_sem,c0,c1]) rfl ⟨by rw [Hm.out],hb3⟩
 ·have hm:minR a b=a:=by rw [Hmin.out,if_neg c1]
  have Hm:=hd_ hm
  clear hm Hmin
  go_wp2
  obtain ⟨c0,c1,hb3⟩:=two_stored (B:=w.heap.size) (.string (itx a.num)) (.string (dec a.den)) k4 k5 (by omega) Hbw.out
  generalize (w1.setCell ⟨w.heap.size + 1 + 1,0,none⟩ (.string (itx a.num))).setCell ⟨w.heap.size + 1 + 1,1,none⟩ (.string (dec a.den))=w9 at *
  exact bodyPost_ret (v := .agg #[.string (itx a.num),.string (dec a.den)]) (by simp [results,Tryz.results111,go_sem,c0,c1]) rfl ⟨by rw [Hm.out],hb3⟩
theorem maxR_ok (w:World) (a b:Rat) (D E:Nat) (ha:Sm D a) (hb:Sm E b) (h6:D + E + 2≤1000000) (L:Laid w) :
  Gives Tryz.prog 112 #[fr a,fr b] w (fr (maxR a b)):=by
 obtain ⟨v,hv⟩:∃ v,cmpZ (b.num * a.den) (a.num * b.den)=v:=⟨_,rfl⟩
 have H3:=hd_ (Three.mk' w (itx a.num) (dec a.den) (itx b.num) (dec b.den))
 have HC:=hd_ (fun W hW=>compareR W b a E D hb ha (by omega) (L.below (H3.out.next (W:=W) hW).bel))
 rw [hv] at HC
 have hlt:=(cmpZ_lt b a).2
 rw [hv] at hlt
 have Hmin:Hid (maxR a b=if 0 < v then b else a):=by
  show _=_
  unfold maxR
  by_cases h:0 < v
  ·rw [if_pos h,if_pos (hlt.1 h)]
  ·rw [if_neg h,if_neg fun hc=>h (hlt.2 hc)]
 clear hv hlt L ha hb h6
 unfold Gives
 unfold fr fv at HC ⊢
 go_enter Tryz.func112,Tryz.ntmps112
 obtain ⟨k0,k1,-,-⟩:=two_cells H3.out.fa
 obtain ⟨k2,k3,-,-⟩:=two_cells H3.out.fb
 go_wp2_with fail
 generalize ((w.alloc (.cells #[.string (itx a.num),.string (dec a.den)] 42)).alloc (.cells #[.string (itx b.num),.string (dec b.den)] 42)).alloc (.cells #[.string ⟨#[]⟩,.string ⟨#[]⟩] 42)=W0 at *
 clear k0 k1 k2 k3
 refine cm_ (HC.out _ (Below.refl _ _)) ?_
 rintro e w1 ⟨rfl,hb1⟩
 have H4:=hd_ (H3.out.next hb1)
 clear hb1 HC H3
 obtain ⟨k0,k1,-,-⟩:=two_cells H4.out.fa
 obtain ⟨k2,k3,-,-⟩:=two_cells H4.out.fb
 obtain ⟨k4,k5,f4,f5⟩:=two_cells H4.out.fr
 have Hbw:=hd_ H4.out.bel
 clear H4
 by_cases c1:0 < v
 ·have hm:maxR a b=b:=by rw [Hmin.out,if_pos c1]
  have Hm:=hd_ hm
  clear hm Hmin
  go_wp2
  obtain ⟨c0,c1,hb3⟩:=two_stored (B:=w.heap.size) (.string (itx b.num)) (.string (dec b.den)) k4 k5 (by omega) Hbw.out
  generalize (w1.setCell ⟨w.heap.size + 1 + 1,0,none⟩ (.string (itx b.num))).setCell ⟨w.heap.size + 1 + 1,1,none⟩ (.string (dec b.den))=w9 at *
  exact bodyPost_ret (v := .agg #[.string (itx b.num),.string (dec b.den)]) (by simp [results,Tryz.results112,go_sem,c0,c1]) rfl ⟨by rw [Hm.out],hb3⟩
 ·have hm:maxR a b=a:=by rw [Hmin.out,if_neg c1]
  have Hm:=hd_ hm
  clear hm Hmin
  go_wp2
  obtain ⟨c0,c1,hb3⟩:=two_stored (B:=w.heap.size) (.string (itx a.num)) (.string (dec a.den)) k4 k5 (by omega) Hbw.out
  generalize (w1.setCell ⟨w.heap.size + 1 + 1,0,none⟩ (.string (itx a.num))).setCell ⟨w.heap.size + 1 + 1,1,none⟩ (.string (dec a.den))=w9 at *
  exact bodyPost_ret (v := .agg #[.string (itx a.num),.string (dec a.den)]) (by simp [results,Tryz.results112,go_sem,c0,c1]) rfl ⟨by rw [Hm.out],hb3⟩
def nearR (a:Rat):Int:=(a + 1 / 2).floor
theorem half_sm:Sm 1 (1 / 2:Rat):=⟨by decide +kernel,by decide +kernel⟩
theorem half_fr:fr (1 / 2:Rat) = .agg #[.string ⟨#[49]⟩,.string ⟨#[50]⟩]:=by
 have h1:(1 / 2:Rat).num=1:=by decide +kernel
 have h2:(1 / 2:Rat).den=2:=by decide +kernel
 unfold fr fv
 rw [h1,h2,show itx 1=dec 1 from itx_nat 1,dec_one,dec_two]
theorem nearR_ok (w:World) (a:Rat) (D:Nat) (ha:Sm D a) (h6:D + 5≤1000000) (L:Laid w) :
  Gives Tryz.prog 46 #[fr a] w (.string (itx (nearR a))):=by
 have Hb0:=hd_ ((Below.refl w.heap.size w).alloc nr_ (.cells #[.string (itx a.num),.string (dec a.den)] 42))
 have Hnew:Hid ((w.alloc (.cells #[.string (itx a.num),.string (dec a.den)] 42)).heap[w.heap.size]?=some (.cells #[.string (itx a.num),.string (dec a.den)] 42 (0,0))):=heap_alloc_new w _
 have HA:=hd_ (addR (w.alloc (.cells #[.string (itx a.num),.string (dec a.den)] 42)) a (1 / 2) D 1 ha half_sm (by omega) (L.below Hb0.out))
 rw [half_fr] at HA
 have HF:=hd_ (fun W (hW:Below w.heap.size w W)=>floorR W (a + 1 / 2) (D + 1 + 1) (ha.add half_sm) (by omega) (L.below hW))
 clear L ha h6
 unfold Gives
 unfold nearR
 generalize a + 1 / 2=s at *
 unfold fr fv at HA HF ⊢
 go_enter Tryz.func46,Tryz.ntmps46
 obtain ⟨k0,k1,-,-⟩:=two_cells Hnew.out
 go_wp2_with fail
 generalize w.alloc (.cells #[.string (itx a.num),.string (dec a.den)] 42)=W0 at *
 clear k0 k1
 refine cm_ HA.out ?_
 rintro e w1 ⟨rfl,hb1⟩
 have B1:=hd_ (Hb0.out.trans (hb1.mono Hb0.out.size))
 clear hb1 HA
 go_wp2_with fail
 refine cm_ (HF.out _ B1.out) ?_
 rintro e w2 ⟨rfl,hb2⟩
 have B2:=hd_ (B1.out.trans (hb2.mono B1.out.size))
 clear hb2 HF
 go_wp2_with fail
 go_ret
 exact ⟨rfl,B2.out⟩
end Go.Proofs.YtnjedhgcfeoemaaGreatDoor

namespace Go.Proofs.YtnjedhgcfeoemaaGreatDoor
open Go.RowKit
theorem isLg_twice {p N a b:Nat} (h1:IsLg p N a) (h2:IsLg p (2 * N) b):b=2 * a∨b=2 * a + 1:=by
 have hP:p ^ (2 * N)=p ^ N * p ^ N:=by rw [Nat.two_mul,Nat.pow_add]
 have e1:2 ^ (2 * a)≤p ^ (2 * N):=by
  rw [hP,Nat.two_mul,Nat.pow_add]; exact Nat.mul_le_mul h1.1 h1.1
 have e2:p ^ (2 * N) < 2 ^ (2 * a + 2):=by
  rw [hP,show 2 * a + 2=(a + 1) + (a + 1) by omega,Nat.pow_add]; exact Nat.mul_lt_mul'' h1.2 h1.2
 have f1:=(Nat.pow_lt_pow_iff_right (by decide)).1 (Nat.lt_of_le_of_lt e1 h2.2)
 have f2:=(Nat.pow_lt_pow_iff_right (by decide)).1 (Nat.lt_of_le_of_lt h2.1 e2)
 omega
theorem lgN_step {p n:Nat} (hp:p∈oddP) (hn:n + 1≤1056):lgN p (n + 1)=2 * lgN p n∨lgN p (n + 1)=2 * lgN p n + 1:=by
 have h2:=lgN_is hp hn
 rw [Nat.pow_succ,Nat.mul_comm] at h2
 exact isLg_twice (lgN_is hp (by omega)) h2
theorem lgN_cut {p n:Nat} (hp:p=2∨p∈oddP):∀ d,n + d≤1056→lgN p (n + d) / 2 ^ d=lgN p n
 | 0,_=>by simp
 | d + 1,h=>by
  have ih:=lgN_cut hp d (n:=n) (by omega)
  rw [← Nat.add_assoc,Nat.pow_succ,Nat.mul_comm,← Nat.div_div_eq_div_mul]
  have e:lgN p (n + d + 1) / 2=lgN p (n + d):=by
   rcases hp with rfl | hp
   ·rw [show ((2:Nat):Int)=2 from rfl,lgN_two,lgN_two,Nat.pow_succ]; omega
   ·rcases lgN_step hp (n:=n + d) (by omega) with e | e <;> rw [e] <;> omega
  rw [e,ih]
def xE (p:Int) (n:Nat):Rat:=if p=2 then 1 else mkRat ((lgN p n:Nat):Int) (2 ^ n)
def yE (p:Int) (n:Nat):Rat:=if p=2 then 1 else mkRat ((lgN p n + 1:Nat):Int) (2 ^ n)
def loE (n:Nat):List Int→List Rat→Rat
 | p :: ps,c :: l=>minR (c * xE p n) (c * yE p n) + loE n ps l
 | _,_=>0
def hiE (n:Nat):List Int→List Rat→Rat
 | p :: ps,c :: l=>maxR (c * xE p n) (c * yE p n) + hiE n ps l
 | _,_=>0
theorem two_pow_rat (n:Nat):((2 ^ n:Nat):Rat)=2 ^ n:=by
 rw [LN.natCast_pow]; rfl
theorem two_pow_pos_rat (n:Nat):(0:Rat) < 2 ^ n:=Rat.pow_pos (by decide)
theorem xE_mul (p:Int) (n:Nat):xE p n * 2 ^ n=((lgN p n:Nat):Rat):=by
 unfold xE
 by_cases h:p=2
 ·rw [if_pos h,h,lgN_two,two_pow_rat,Rat.one_mul]
 ·rw [if_neg h,← two_pow_rat,← Rat.intCast_natCast (lgN p n),mkRat_mul_den _ _ (Nat.two_pow_pos n)]
theorem yE_mul (p:Int) (n:Nat):yE p n * 2 ^ n=((LN.hiL (lf n) p:Nat):Rat):=by
 unfold yE LN.hiL
 by_cases h:p=2
 ·rw [if_pos h,if_pos h,h]
  unfold lf
  rw [lgN_two,two_pow_rat,Rat.one_mul]
 ·rw [if_neg h,if_neg h]
  unfold lf
  rw [← two_pow_rat,← Rat.intCast_natCast (lgN p n + 1),mkRat_mul_den _ _ (Nat.two_pow_pos n)]
theorem le_of_mul_two {a b:Rat} {n:Nat} (h:a * 2 ^ n≤b * 2 ^ n):a≤b:=Rat.le_of_mul_le_mul_right h (two_pow_pos_rat n)
theorem xE_le_yE (p:Int) (n:Nat):xE p n≤yE p n:=by
 refine le_of_mul_two (n:=n) ?_
 rw [xE_mul,yE_mul]
 refine Rat.natCast_le_natCast.2 ?_
 unfold LN.hiL lf
 split <;> omega
theorem min_neg {c x y:Rat} (h:x≤y) (hc:c < 0):minR (c * x) (c * y)=c * y∧maxR (c * x) (c * y)=c * x:=by
 have h1:c * y≤c * x:=by
  have:=Rat.mul_le_mul_of_nonneg_left h (c := -c) (by grind)
  grind
 unfold minR maxR
 refine ⟨?_,?_⟩
 ·split
  ·rfl
  ·grind
 ·split
  ·grind
  ·rfl
theorem min_pos {c x y:Rat} (h:x≤y) (hc:0≤c):minR (c * x) (c * y)=c * x∧maxR (c * x) (c * y)=c * y:=by
 have h1:c * x≤c * y:=Rat.mul_le_mul_of_nonneg_left h hc
 unfold minR maxR
 refine ⟨?_,?_⟩
 ·split
  ·grind
  ·rfl
 ·split
  ·rfl
  ·grind
theorem xE_up {p n:Nat} (hp:p=2∨p∈oddP) (hn:n + 1≤1056):xE p n≤xE p (n + 1)∧yE p (n + 1)≤yE p n:=by
 rcases hp with rfl | hp
 ·unfold xE yE
  rw [show ((2:Nat):Int)=2 from rfl]
  simp only [if_true]
  exact ⟨Rat.le_refl,Rat.le_refl⟩
 ·have h2:=(oddP_odd hp).2.1
  have hne:¬ ((p:Nat):Int)=2:=by have:=(oddP_odd hp).1; omega
  have e1:=xE_mul p n
  have e2:=yE_mul p n
  have e3:=xE_mul p (n + 1)
  have e4:=yE_mul p (n + 1)
  unfold LN.hiL lf at e2 e4
  rw [if_neg hne] at e2 e4
  have hs:(2:Rat) ^ (n + 1)=2 ^ n * 2:=Rat.pow_succ ..
  constructor
  ·refine le_of_mul_two (n:=n + 1) ?_
   rw [e3,hs,← Rat.mul_assoc,e1]
   have h3:((2 * lgN p n:Nat):Rat)≤((lgN p (n + 1):Nat):Rat):=Rat.natCast_le_natCast.2 (by rcases lgN_step hp hn with e | e <;> omega)
   rw [Rat.natCast_mul] at h3
   have:((2:Nat):Rat)=2:=rfl
   grind
  ·refine le_of_mul_two (n:=n + 1) ?_
   rw [e4,hs,← Rat.mul_assoc,e2]
   have h3:((lgN p (n + 1) + 1:Nat):Rat)≤((2 * (lgN p n + 1):Nat):Rat):=Rat.natCast_le_natCast.2 (by rcases lgN_step hp hn with e | e <;> omega)
   rw [Rat.natCast_mul] at h3
   have:((2:Nat):Rat)=2:=rfl
   grind
theorem ends_up {n:Nat} (hn:n + 1≤1056):∀ (ps:List Int) (l:List Rat),(∀ p∈ps,∃ q:Nat,p=q∧(q=2∨q∈oddP))→loE n ps l≤loE (n + 1) ps l∧hiE (n + 1) ps l≤hiE n ps l
 | [],_,_=>by simp [loE,hiE]
 | _ :: _,[],_=>by simp [loE,hiE]
 | p :: ps,c :: l,h=>by
  obtain ⟨i1,i2⟩:=ends_up hn ps l fun q hq=>h q (List.mem_cons_of_mem _ hq)
  obtain ⟨q,rfl,hq⟩:=h p List.mem_cons_self
  obtain ⟨u1,u2⟩:=xE_up hq hn
  simp only [loE,hiE]
  rcases Decidable.em (c < 0) with hc | hc
  ·obtain ⟨m1,m2⟩:=min_neg (xE_le_yE q n) hc
   obtain ⟨m3,m4⟩:=min_neg (xE_le_yE q (n + 1)) hc
   rw [m1,m2,m3,m4]
   have a1:=Rat.mul_le_mul_of_nonneg_left u1 (c := -c) (by grind)
   have a2:=Rat.mul_le_mul_of_nonneg_left u2 (c := -c) (by grind)
   constructor <;> grind
  ·have hc:=Rat.not_lt.1 hc
   obtain ⟨m1,m2⟩:=min_pos (xE_le_yE q n) hc
   obtain ⟨m3,m4⟩:=min_pos (xE_le_yE q (n + 1)) hc
   rw [m1,m2,m3,m4]
   have a1:=Rat.mul_le_mul_of_nonneg_left u1 hc
   have a2:=Rat.mul_le_mul_of_nonneg_left u2 hc
   constructor <;> grind
theorem ends_le (n:Nat):∀ (ps:List Int) (l:List Rat),loE n ps l≤hiE n ps l
 | [],_=>by simp [loE,hiE]
 | _ :: _,[]=>by simp [loE,hiE]
 | p :: ps,c :: l=>by
  have ih:=ends_le n ps l
  simp only [loE,hiE]
  have h1:minR (c * xE p n) (c * yE p n)≤maxR (c * xE p n) (c * yE p n):=by
   unfold minR maxR
   split <;> split <;> grind
  grind
theorem ends_ups {n:Nat} {ps:List Int} {l:List Rat} (h:∀ p∈ps,∃ q:Nat,p=q∧(q=2∨q∈oddP)):∀ d,n + d≤1056→loE n ps l≤loE (n + d) ps l∧hiE (n + d) ps l≤hiE n ps l
 | 0,_=>⟨Rat.le_refl,Rat.le_refl⟩
 | d + 1,hd=>by
  obtain ⟨i1,i2⟩:=ends_ups h (n:=n) (l:=l) d (by omega)
  obtain ⟨j1,j2⟩:=ends_up (n:=n + d) (by omega) ps l h
  exact ⟨Rat.le_trans i1 j1,Rat.le_trans j2 i2⟩
end Go.Proofs.YtnjedhgcfeoemaaGreatDoor

namespace Go.Proofs.YtnjedhgcfeoemaaGreatDoor
open Go.RowKit
def decE (n:Nat) (ps:List Int) (l:List Rat):Int:=if 0≤loE n ps l then 1 else if hiE n ps l≤0 then -1 else 0
theorem decE_up {n d:Nat} {ps:List Int} {l:List Rat} (h1:∀ p∈ps,p∈allP) (hd:n + d≤1056) (h:decE n ps l≠0):decE (n + d) ps l≠0:=by
 obtain ⟨u1,u2⟩:=ends_ups (n:=n) (ps:=ps) (l:=l) (fun p hp=>allP_pr (h1 p hp)) d hd
 unfold decE at h ⊢
 split
 ·decide
 ·split
  ·decide
  ·rename_i c1 c2
   split at h
   ·rename_i c3
    exact absurd (Rat.le_trans c3 u1) c1
   ·split at h
    ·rename_i c4
     exact absurd (Rat.le_trans u2 c4) c2
    ·exact h
end Go.Proofs.YtnjedhgcfeoemaaGreatDoor

namespace Go.Proofs.YtnjedhgcfeoemaaGreatDoor
open Go.RowKit
theorem ends_zip (n:Nat):∀ (ps:List Int) (l:List Rat) (p:Int) (c:Rat),ps.length=l.length →
  loE n (ps ++ [p]) (l ++ [c])=loE n ps l + minR (c * xE p n) (c * yE p n)∧hiE n (ps ++ [p]) (l ++ [c])=hiE n ps l + maxR (c * xE p n) (c * yE p n)
 | [],[],p,c,_=>by
  show _ + (0:Rat)=0 + _∧_ + (0:Rat)=0 + _
  rw [Rat.add_zero,Rat.zero_add,Rat.add_zero,Rat.zero_add]; exact ⟨rfl,rfl⟩
 | [],_ :: _,_,_,h=>by simp at h
 | _ :: _,[],_,_,h=>by simp at h
 | q :: ps,d :: l,p,c,h=>by
  obtain ⟨i1,i2⟩:=ends_zip n ps l p c (by simpa using h)
  simp only [List.cons_append,loE,hiE]
  rw [i1,i2,Rat.add_assoc,Rat.add_assoc]
  exact ⟨rfl,rfl⟩
theorem ends_take (n:Nat) (ps:List Int) (l:List Rat) (k:Nat) (h:l.length=ps.length) (h1:k < ps.length) (h2:k < l.length) :
  loE n (ps.take (k + 1)) (l.take (k + 1))=loE n (ps.take k) (l.take k) + minR (l[k] * xE ps[k] n) (l[k] * yE ps[k] n) ∧
  hiE n (ps.take (k + 1)) (l.take (k + 1))=hiE n (ps.take k) (l.take k) + maxR (l[k] * xE ps[k] n) (l[k] * yE ps[k] n):=by
 have e1:ps.take (k + 1)=ps.take k ++ [ps[k]]:=by rw [List.take_add_one,List.getElem?_eq_getElem h1]; rfl
 have e2:l.take (k + 1)=l.take k ++ [l[k]]:=by rw [List.take_add_one,List.getElem?_eq_getElem h2]; rfl
 rw [e1,e2]
 exact ends_zip n _ _ _ _ (by simp; omega)
theorem ends_skip (n:Nat) (p:Int):minR ((0:Rat) * xE p n) (0 * yE p n)=0∧maxR ((0:Rat) * xE p n) (0 * yE p n)=0:=by
 rw [Rat.zero_mul,Rat.zero_mul]; exact ⟨rfl,rfl⟩
theorem minR_sm {D:Nat} {a b:Rat} (ha:Sm D a) (hb:Sm D b):Sm D (minR a b):=by unfold minR; split <;> assumption
theorem maxR_sm {D:Nat} {a b:Rat} (ha:Sm D a) (hb:Sm D b):Sm D (maxR a b):=by unfold maxR; split <;> assumption
theorem two_le_ten (n D:Nat) (h:n≤3 * D):2 ^ n≤10 ^ D:=by
 refine Nat.le_trans (Nat.pow_le_pow_right (by decide) h) ?_
 rw [Nat.pow_mul]
 exact Nat.pow_le_pow_left (by decide) D
theorem xE_sm {p:Int} {n:Nat} (hp:∃ q:Nat,p=q∧(q=2∨q∈oddP)) (hn:n≤1056):Sm 355 (xE p n)∧Sm 355 (yE p n):=by
 obtain ⟨h1,h2⟩:=lf_lt hp hn
 obtain ⟨D,hD⟩:∃ D,D=354:=⟨_,rfl⟩
 have e:2 ^ (n + 3)≤10 ^ D:=two_le_ten _ _ (by omega)
 have e2:2 ^ n≤10 ^ D:=two_le_ten _ _ (by omega)
 have e3:(10:Nat) ^ (D + 1)=10 ^ D * 10:=Nat.pow_succ ..
 have h0:0 < (10:Nat) ^ D:=Nat.pow_pos (by decide)
 have h1':lgN p n < 2 ^ (n + 3):=h1
 rw [show 355=D + 1 by omega]
 unfold xE yE
 by_cases h:p=2
 ·rw [if_pos h,if_pos h]
  have:Sm 1 (1:Rat):=⟨by decide,by decide⟩
  exact ⟨this.le (by omega),this.le (by omega)⟩
 ·rw [if_neg h,if_neg h]
  generalize 10 ^ D=T at *
  generalize 2 ^ (n + 3)=U at *
  have hz:2 ^ n≠0:=Nat.ne_of_gt (Nat.two_pow_pos n)
  exact ⟨Sm.mk' hz (by rw [Int.natAbs_natCast,e3]; omega) (by rw [e3]; omega),Sm.mk' hz (by rw [Int.natAbs_natCast,e3]; omega) (by rw [e3]; omega)⟩
theorem ends_sm {D n:Nat} (hn:n≤1056) {ps:List Int} {l:List Rat} (hp:∀ p∈ps,∃ q:Nat,p=q∧(q=2∨q∈oddP)) (hl:l.length=ps.length) (hs:∀ q∈l,Sm D q) :
  ∀ k,k≤ps.length→Sm (1 + k * (D + 356)) (loE n (ps.take k) (l.take k))∧Sm (1 + k * (D + 356)) (hiE n (ps.take k) (l.take k))
 | 0,_=>by
  have:Sm 1 (0:Rat):=⟨by decide,by decide⟩
  rw [Nat.zero_mul]
  exact ⟨this,this⟩
 | k + 1,h=>by
  obtain ⟨i1,i2⟩:=ends_sm hn hp hl hs k (by omega)
  obtain ⟨e1,e2⟩:=ends_take n ps l k hl (by omega) (by omega)
  obtain ⟨s1,s2⟩:=xE_sm (hp _ (List.getElem_mem (show k < ps.length by omega))) hn
  have hc:=hs _ (List.getElem_mem (show k < l.length by omega))
  rw [e1,e2,show 1 + (k + 1) * (D + 356)=1 + k * (D + 356) + (D + 355) + 1 by rw [Nat.add_mul]; omega]
  exact ⟨i1.add (minR_sm (hc.mul s1) (hc.mul s2)),i2.add (maxR_sm (hc.mul s1) (hc.mul s2))⟩
/-! The least number of bits. -/
structure LeastN (T:Nat→Bool) (n:Nat):Prop where
 at_:T n=true
 low:n=0∨T (n - 1)=false
 le:n≤1000
theorem up_all {T:Nat→Bool} (hm:∀ n,n < 1000→T n=true→T (n + 1)=true):∀ d n,n + d≤1000→T n=true→T (n + d)=true
 | 0,_,_,h=>h
 | d + 1,n,hd,h=>hm (n + d) (by omega) (up_all hm d n (by omega) h)
theorem LeastN.uniq {T:Nat→Bool} (hm:∀ n,n < 1000→T n=true→T (n + 1)=true) {n m:Nat} (h1:LeastN T n) (h2:LeastN T m):n=m:=by
 have key:∀ a b,LeastN T a→LeastN T b→¬ a < b:=fun a b ha hb hc=>by
  have h3:=up_all hm (b - 1 - a) a (by have:=hb.le; omega) ha.at_
  rw [show a + (b - 1 - a)=b - 1 by omega] at h3
  rcases hb.low with h4 | h4
  ·omega
  ·rw [h3] at h4; cases h4
 have:=key n m h1 h2
 have:=key m n h2 h1
 omega
end Go.Proofs.YtnjedhgcfeoemaaGreatDoor

namespace Go.Proofs.YtnjedhgcfeoemaaGreatDoor
open Go.RowKit
def lowL (B:Nat) (ps:List Int) (l:List Rat):List ByteArray:=(ps.zip l).map fun x=>if x.2.num=0 then ⟨#[]⟩ else dec (lgN x.1 B)
theorem lowL_length (B:Nat) (ps:List Int) (l:List Rat) (h:l.length=ps.length):(lowL B ps l).length=ps.length:=by
 unfold lowL
 rw [List.length_map,List.length_zip,h,Nat.min_self]
theorem lowL_get (B:Nat) (ps:List Int) (l:List Rat) (h:l.length=ps.length) (k:Nat) (h1:k < ps.length) (h2:k < l.length):(lowL B ps l).getD k ⟨#[]⟩=if l[k].num=0 then ⟨#[]⟩ else dec (lgN ps[k] B):=by
 unfold lowL
 rw [List.getD_eq_getElem?_getD,List.getElem?_map,List.getElem?_eq_getElem (by rw [List.length_zip]; omega),List.getElem_zip]
 rfl
structure LgS (w:World) (R:Nat) (ps:List Int) (l:List Rat) (B:Nat) (a0:Option Addr) (c0:Nat) (a1:Option Addr) (c1:Nat) (a2:Option Addr) (c2:Nat):Prop where
 ob:w.heap[R]?=some (.cells #[.slice a0 ps.length c0,.slice a1 ps.length c1,.int .i64 B,.slice a2 ps.length c2] 146 (0,0))
 rp:Rd w a0 (ints ps)
 rl:Rd w a1 (cellsQ l)
 rs:Rd w a2 (strs (lowL B ps l))
theorem LgS.below {w w':World} {R:Nat} {ps:List Int} {l:List Rat} {B:Nat} {a0 a1 a2:Option Addr} {c0 c1 c2:Nat} (h:LgS w R ps l B a0 c0 a1 c1 a2 c2) (hb:Below w.heap.size w w'):LgS w' R ps l B a0 c0 a1 c1 a2 c2 :=
 ⟨by rw [hb.block R (Array.getElem?_eq_some_iff.1 h.ob).1]; exact h.ob,h.rp.below hb nr_,h.rl.below hb nr_,h.rs.below hb nr_⟩
def LgAt (w:World) (R:Nat) (ps:List Int) (l:List Rat) (B:Nat):Prop:=∃ a0 c0 a1 c1 a2 c2,LgS w R ps l B a0 c0 a1 c1 a2 c2
theorem LgAt.below {w w':World} {R:Nat} {ps:List Int} {l:List Rat} {B:Nat} (h:LgAt w R ps l B) (hb:Below w.heap.size w w'):LgAt w' R ps l B:=by
 obtain ⟨a0,c0,a1,c1,a2,c2,S⟩:=h
 exact ⟨a0,c0,a1,c1,a2,c2,S.below hb⟩
theorem four_cells {w:World} {g:Nat} {a b c d:Value} {t:TypeId} (h:w.heap[g]?=some (.cells #[a,b,c,d] t (0,0))) :
  w.cell? ⟨g,0,none⟩=some a∧w.cell? ⟨g,1,none⟩=some b∧w.cell? ⟨g,2,none⟩=some c∧w.cell? ⟨g,3,none⟩=some d∧(∀ j,w.frozen? ⟨g,j,none⟩=false):=by
 refine ⟨by rw [cell_of_row w g 0 _ t (0,0) h]; rfl,by rw [cell_of_row w g 1 _ t (0,0) h]; rfl,by rw [cell_of_row w g 2 _ t (0,0) h]; rfl,by rw [cell_of_row w g 3 _ t (0,0) h]; rfl,fun j=>?_⟩
 simp [World.frozen?,h]
theorem strs_get (l:List ByteArray) (j:Nat) (h:j < l.length):(strs l)[j]?=some (.string (l.getD j ⟨#[]⟩)):=by
 simp [strs,List.getD_eq_getElem?_getD,h]
theorem at_any (w:World) (R:Nat) (ps:List Int) (l:List Rat) (B b k:Nat) (H:LgAt w R ps l B) (hl:l.length=ps.length) (hn:ps.length≤100) (hk:k < ps.length) (hkl:k < l.length) (hp:∃ q:Nat,ps[k]=q∧(q=2∨q∈oddP)) (hz:l[k].num≠0) (hb:b≤B) (hB:B≤1000) (L:Laid w) :
  Gives Tryz.prog 90 #[.pointer (some ⟨R,0,none⟩),.int .i64 k,.int .i64 b] w (.string (dec (lgN ps[k] b))):=by
 unfold Gives
 obtain ⟨a0,c0,a1,c1,a2,c2,S⟩:=H
 obtain ⟨k0,k1,k2,k3,-⟩:=four_cells S.ob
 have hlen:=lowL_length B ps l hl
 obtain ⟨b2,o2,rfl,hb2,hcell⟩:=S.rs.open (by rw [strs_length,hlen]; omega)
 have ct:=hcell k _ (strs_get _ k (by rw [hlen]; exact hk))
 rw [lowL_get B ps l hl k hk hkl,if_neg hz] at ct
 obtain ⟨q,hq,hq2⟩:=hp
 rw [hq] at ct ⊢
 have hcut:lgN q B / 2 ^ (B - b)=lgN q b:=by
  have:=lgN_cut hq2 (B - b) (n:=b) (by omega)
  rwa [show b + (B - b)=B by omega] at this
 have hw:IntKind.i64.wrap ((B:Int) - b)=((B - b:Nat):Int):=by rw [show (B:Int) - b=((B - b:Nat):Int) by omega]; exact iw_ _ (by omega)
 have HP:=hd_ (fun W (hW:Below w.heap.size w W)=>power_ok W (B - b) (by omega) (L.below hW))
 have hlt:lgN q B < 2 ^ K10:=by
  refine Nat.lt_trans (lgN_le hq2 (by omega)) ?_
  refine Nat.lt_of_lt_of_le (Nat.mul_lt_mul_of_pos_right (show 7 < 2 ^ 3 by decide) (Nat.two_pow_pos B)) ?_
  rw [← Nat.pow_add]
  exact Nat.pow_le_pow_right (by decide) (by rw [k10]; omega)
 have HD:=hd_ (fun W (hW:Below w.heap.size w W)=>divD W (lgN q B) (2 ^ (B - b)) K10 (by decide) hlt (Nat.pow_lt_pow_right (by decide) (by rw [k10]; omega)) (Nat.two_pow_pos _) (L.below hW))
 rw [hcut] at HD
 have hk':k < 100:=by omega
 clear hcut hlt S hlen hcell L hz hl hkl hq2 hq
 generalize dec (lgN q B)=s at *
 generalize dec (lgN q b)=s2 at *
 generalize dec (lgN q B % 2 ^ (B - b))=s3 at *
 generalize dec (2 ^ (B - b))=s4 at *
 generalize B - b=m at *
 generalize ps.length=n at *
 have q0:=NW.cell k3
 have q1:=NW.cell k2
 have q2:=NW.cell ct
 have hnon:Nonempty (NW w):=⟨⟨w,Below.refl _ _⟩⟩
 have I:Hid (Below w.heap.size w w.drew):=(Below.refl _ _).drew
 clear k0 k1 k2 k3 ct
 go_enter Tryz.func90,Tryz.ntmps90
 go_wp2_with fail
 refine RP.wp_region_readers 14 [(2,0),(2,1),(2,2),(1,3),(2,4),(2,5),(1,6),(2,7),(2,8),(2,9),(1,10),(2,11),(2,12),(0,13),(0,14),(2,15),(2,16),(2,17),(2,18),(2,19),(2,20),(2,21)] (fun w'=>∃ p:NW w,w'=p.w) (by kernel_rfl) (by kernel_rfl) ?_ ?_
 ·exact ⟨⟨_,I.out⟩,rfl⟩
 iterate 3 (refine RP.walkR_any ?_; simp only [dsc_,dz_,tsc_,tz_]; go_big_quiet_step (fail); refine wpQuiet_nil ?_)
 iterate 1 (refine RP.walkR_read ?_; simp only [dsc_,dz_,tsc_,tz_]; go_big_quiet_step (fail); refine wpQuiet_nil ?_)
 iterate 2 (refine RP.walkR_any ?_; simp only [dsc_,dz_,tsc_,tz_]; go_big_quiet_step (fail); refine wpQuiet_nil ?_)
 iterate 1 (refine RP.walkR_read ?_; simp only [dsc_,dz_,tsc_,tz_]; go_big_quiet_step (fail); refine wpQuiet_nil ?_)
 iterate 3 (refine RP.walkR_any ?_; simp only [dsc_,dz_,tsc_,tz_]; go_big_quiet_step (fail); refine wpQuiet_nil ?_)
 iterate 1 (refine RP.walkR_read ?_; simp only [dsc_,dz_,tsc_,tz_]; go_big_quiet_step (fail); refine wpQuiet_nil ?_)
 iterate 2 (refine RP.walkR_any ?_; simp only [dsc_,dz_,tsc_,tz_]; go_big_quiet_step (fail); refine wpQuiet_nil ?_)
 clear hnon q0 q1 q2
 refine RP.walkR_move ?_
 simp only [dsc_,dz_,tsc_,tz_]
 go_wp2_with fail
 refine cm_ (HP.out _ I.out) ?_
 rintro e w1 ⟨rfl,hb1⟩
 have I1:Hid (Below w.heap.size w w1):=I.out.trans (hb1.mono I.out.size)
 clear hb1 I HP
 go_wp2_with fail
 refine ⟨⟨⟨_,I1.out⟩,rfl⟩,?_⟩
 refine RP.walkR_move ?_
 simp only [dsc_,dz_,tsc_,tz_]
 go_wp2_with fail
 refine cm_ (HD.out _ I1.out) ?_
 rintro e w2 ⟨rfl,hb1⟩
 have I2:Hid (Below w.heap.size w w2):=I1.out.trans (hb1.mono I1.out.size)
 clear hb1 I1 HD
 go_wp2_with fail
 iterate 7 (refine RP.walkR_any ?_; simp only [dsc_,dz_,tsc_,tz_]; go_big_quiet_step (fail); refine wpQuiet_nil ?_)
 simp only [RP.walkR]
 go_wp2_with fail
 go_ret
 exact ⟨rfl,I2.out⟩
def OwnSt (w:World) (B:Nat) (a:Option Addr) (c:Nat) (l:List ByteArray):Prop:=w.ownsRow B 25 1 (.slice a l.length c) l.length (strs l)
theorem made_s (n:Nat) (w:World) (hn:n≤10000000) :
  (Instr.makeSlice 132 (.int .i64 (n:Int)) (.int .i64 (n:Int))).run Tryz.prog w = .ok (.slice (some ⟨w.heap.size,0,none⟩) n n) (w.alloc (.cells (strs (List.replicate n ⟨#[]⟩)).toArray 25)):=by
 have:=run_make_row' (P:=Tryz.prog) 132 25 (.string ⟨#[]⟩) 16 Tryz.underlying132 infoZ rfl .i64 .i64 n (by omega) (by omega) w
 rw [show madeCells #[.string ⟨#[]⟩] n=(strs (List.replicate n ⟨#[]⟩)).toArray by apply Array.ext'; rw [toList_madeCells_one]; simp [strs]] at this
 exact this
theorem own_madeT (w:World) (l:List ByteArray) (hl:l.length≤100000000):OwnSt (w.alloc (.cells (strs l).toArray 25)) w.heap.size (some ⟨w.heap.size,0,none⟩) l.length l :=
 ⟨by simp [strs_length],.inr ⟨w.heap.size,l.length,(strs l).toArray,rfl,Nat.le_refl _,heap_alloc_new _ _,Nat.le_refl _,by unfold maxLen; omega,by simp [strs_length],by rw [Nat.mul_one]; exact List.take_of_length_le (by simp [strs_length])⟩⟩
theorem OwnSt.open {w:World} {B c:Nat} {a:Option Addr} {l:List ByteArray} (h:OwnSt w B a c l) (hn:0 < l.length) :
  ∃ g,a=some ⟨g,0,none⟩∧B≤g∧g < w.heap.size∧l.length≤c∧(∀ j,j < l.length→w.cell? ⟨g,j,none⟩=some (.string (l.getD j ⟨#[]⟩)))∧(∀ j,w.frozen? ⟨g,j,none⟩=false):=by
 obtain ⟨g,cap,hv,h1,h2,h3,h4,h5⟩:=own_open h hn
 simp only [Value.slice.injEq] at hv
 obtain ⟨rfl,-,rfl⟩:=hv
 exact ⟨g,rfl,h1,h2,h3,fun j hj=>by rw [h4 j (by omega),strs_get l j hj],h5⟩
theorem OwnSt.store {w:World} {B c g:Nat} {l:List ByteArray} (h:OwnSt w B (some ⟨g,0,none⟩) c l) (j:Nat) (x:ByteArray) :
  OwnSt (w.setCell ⟨g,j,none⟩ (.string x)) B (some ⟨g,0,none⟩) c (l.set j x):=by
 have:=(World.ownsRow.stored h j (.string x)).1
 have e:(strs l).set j (.string x)=strs (l.set j x):=by simp [strs,List.map_set]
 rw [e] at this
 unfold OwnSt
 rw [List.length_set]
 exact this
theorem OwnSt.rd {w:World} {B:Nat} {a:Option Addr} {c:Nat} {l:List ByteArray} (h:OwnSt w B a c l):Rd w a (strs l):=by
 by_cases hn:0 < l.length
 ·obtain ⟨g,rfl,h1,h2,h3,h4,h5⟩:=h.open hn
  refine .inr ⟨g,0,rfl,h2,fun i v hi=>?_⟩
  have hlt:=(List.getElem?_eq_some_iff.1 hi).1
  rw [strs_length] at hlt
  rw [strs_get l i hlt] at hi
  rw [Nat.zero_add,← hi]; exact h4 i hlt
 ·obtain rfl:=List.length_eq_zero_iff.1 (Nat.eq_zero_of_not_pos hn)
  exact .inl rfl
def lowK (B:Nat) (ps:List Int) (l:List Rat) (k:Nat):List ByteArray:=(lowL B ps l).take k ++ List.replicate (ps.length - k) ⟨#[]⟩
theorem lowK_length (B:Nat) (ps:List Int) (l:List Rat) (h:l.length=ps.length) (k:Nat) (hk:k≤ps.length):(lowK B ps l k).length=ps.length:=by
 unfold lowK
 rw [List.length_append,List.length_take,lowL_length B ps l h,List.length_replicate]; omega
theorem lowK_set (B:Nat) (ps:List Int) (l:List Rat) (h:l.length=ps.length) (k:Nat) (hk:k < ps.length):(lowK B ps l k).set k ((lowL B ps l).getD k ⟨#[]⟩)=lowK B ps l (k + 1):=by
 have hl:((lowL B ps l).take k).length=k:=by rw [List.length_take,lowL_length B ps l h]; omega
 unfold lowK
 rw [List.set_append_right _ _ (by omega),hl,Nat.sub_self,List.take_add_one,List.getElem?_eq_getElem (by rw [lowL_length B ps l h]; exact hk),show ps.length - k=(ps.length - (k + 1)) + 1 by omega,List.replicate_succ,List.set_cons_zero,List.append_assoc]
 congr 1
 rw [List.getD_eq_getElem?_getD,List.getElem?_eq_getElem (by rw [lowL_length B ps l h]; exact hk)]
 rfl
theorem lowK_at (B:Nat) (ps:List Int) (l:List Rat) (h:l.length=ps.length) (k:Nat) (hk:k < ps.length):(lowK B ps l k).getD k ⟨#[]⟩=⟨#[]⟩:=by
 have hl:((lowL B ps l).take k).length=k:=by rw [List.length_take,lowL_length B ps l h]; omega
 unfold lowK
 rw [List.getD_eq_getElem?_getD,List.getElem?_append_right (by omega),hl,List.getElem?_replicate]
 split <;> rfl
theorem lowK_all (B:Nat) (ps:List Int) (l:List Rat) (h:l.length=ps.length):lowK B ps l ps.length=lowL B ps l:=by
 unfold lowK
 rw [Nat.sub_self,List.replicate_zero,List.append_nil,List.take_of_length_le (by rw [lowL_length B ps l h]; exact Nat.le_refl _)]
theorem lowK_zero (B:Nat) (ps:List Int) (l:List Rat):lowK B ps l 0=List.replicate ps.length ⟨#[]⟩:=by simp [lowK]
structure OpI (w wr:World) (ps:List Int) (l:List Rat) (B k:Nat) (a0:Option Addr) (c0:Nat) (a1:Option Addr) (c1:Nat):Prop where
 ob:wr.heap[w.heap.size + 1]?=some (.cells #[.slice a0 ps.length c0,.slice a1 ps.length c1,.int .i64 B,.slice (some ⟨w.heap.size,0,none⟩) ps.length ps.length] 146 (0,0))
 own:OwnSt wr w.heap.size (some ⟨w.heap.size,0,none⟩) ps.length (lowK B ps l k)
 bel:Below w.heap.size w wr
theorem open_any14 (w:World) (ps:List Int) (l:List Rat) (B:Nat) (a0 a1:Option Addr) (c0 c1:Nat) (rp:Rd w a0 (ints ps)) (rl:Rd w a1 (cellsQ l)) (hl:l.length=ps.length) (hn:ps.length≤100) (hp:∀ p∈ps,∃ q:Nat,p=q∧(q=2∨q∈oddP)) (hB:B≤1000) (L:Laid w) :
  Calls Tryz.prog 79 #[.slice a0 ps.length c0,.slice a1 ps.length c1,.int .i64 B] w fun e w'=>∃ R,e = .returned (.pointer (some ⟨R,0,none⟩))∧LgAt w' R ps l B∧w.heap.size≤R∧Below w.heap.size w w':=by
 have HRp:=hd_ rp
 have HRl:=hd_ rl
 have HL:=hd_ L
 have Hl:=hd_ hl
 have Hlow:=hd_ (fun (k:Nat) (hk:k < ps.length) (W:World) (hW:Below w.heap.size w W)=>show Gives Tryz.prog 67 #[.int .i64 ps[k],.int .i64 B] W (.string (dec (lgN ps[k] B))) from by
  obtain ⟨q,hq,hq2⟩:=hp _ (List.getElem_mem hk)
  rw [hq]
  exact elow_any W q B hq2 hB (L.below hW))
 have Hget:=hd_ (fun k h1 h2=>lowL_get B ps l hl k h1 h2)
 have Hset:=hd_ (fun k h=>lowK_set B ps l hl k h)
 have Hat:=hd_ (fun k h=>lowK_at B ps l hl k h)
 have Hall:=hd_ (lowK_all B ps l hl)
 have hlk:=hd_ (fun k h=>lowK_length B ps l hl k h)
 clear rp rl L hp
 obtain ⟨n,hn'⟩:∃ n,ps.length=n:=⟨_,rfl⟩
 have hmk:=made_s n w (by omega)
 have Hown:Hid (OwnSt (w.alloc (.cells (strs (List.replicate n ⟨#[]⟩)).toArray 25)) w.heap.size (some ⟨w.heap.size,0,none⟩) n (lowK B ps l 0)):=by
  have:=own_madeT w (List.replicate n ⟨#[]⟩) (by simp; omega)
  rw [List.length_replicate] at this
  rw [lowK_zero,hn']; exact this
 have Hb:=hd_ ((Below.refl w.heap.size w).alloc nr_ (.cells (strs (List.replicate n ⟨#[]⟩)).toArray 25))
 have hsz:(w.alloc (.cells (strs (List.replicate n ⟨#[]⟩)).toArray 25)).heap.size=w.heap.size + 1:=by simp
 generalize w.alloc (.cells (strs (List.replicate n ⟨#[]⟩)).toArray 25)=w1 at *
 have HI0:Hid (OpI w (w1.alloc (.cells #[.slice a0 n c0,.slice a1 n c1,.int .i64 B,.slice (some ⟨w.heap.size,0,none⟩) n n] 146)) ps l B 0 a0 c0 a1 c1):=by
  refine ⟨?_,?_,Hb.out.alloc (by omega) _⟩
  ·rw [← hsz,hn']; exact heap_alloc_new w1 _
  ·rw [hn']; exact (show OwnSt _ _ _ _ _ from World.ownsRow.alloc Hown.out _)
 have Hn:=hd_ hn'
 rw [hn']
 clear hn' Hown Hb
 go_enter Tryz.func79,Tryz.ntmps79
 go_wp2_with fail
 go_loopw [20] (fun i wr=>∃ k:Nat,k≤n∧i = .int .i64 k∧Hid (OpI w wr ps l B k a0 c0 a1 c1)) (fun i _=>n - (intOf i).toNat)
 case atStart=>exact ⟨0,Nat.zero_le _,rfl,by rw [hsz] at *; exact HI0⟩
 case round =>
  obtain ⟨k,hk,rfl,HI⟩:=hrel
  clear HI0
  by_cases hlt:k < n
  ·have hlt':(k:Int) < n:=by omega
   have hkp:k < ps.length:=by rw [Hn.out]; exact hlt
   have hkl:k < l.length:=by rw [Hl.out]; exact hkp
   obtain ⟨b0,o0,rfl,hb0,hc0⟩:=HRp.out.open (by rw [ints_length]; omega)
   have cp:=hc0 k _ (ints_get ps k hkp)
   rw [← HI.out.bel.cell (p:=⟨b0,o0 + k,none⟩) hb0] at cp
   obtain ⟨b1,o1,rfl,hb1,hc1⟩:=HRl.out.open (by rw [cellsQ_length]; omega)
   obtain ⟨x0,x1⟩:=cellsS_rd hc1 k (by rw [List.length_map]; exact hkl)
   rw [qs_getD l k hkl] at x0 x1
   rw [← HI.out.bel.cell (p:=⟨b1,o1 + k * 2,none⟩) hb1] at x0
   rw [← HI.out.bel.cell (p:=⟨b1,o1 + k * 2 + 1,none⟩) hb1] at x1
   have Hsg:=hd_ (fun W=>signR W l[k])
   have hkw:IntKind.i64.wrap ((k:Int) + 1)=((k + 1:Nat):Int):=by rw [← Int.natCast_succ]; exact iw_ _ (by omega)
   have hget:=Hget.out k hkp hkl
   have hset:=Hset.out k hkp
   have hat:=Hat.out k hkp
   have hlo:=hd_ (fun W (hW:Below w.heap.size w W)=>Hlow.out k hkp W hW)
   have hlen:=hlk.out k (by rw [Hn.out]; omega)
   clear hc0 hc1
   unfold fr fv at Hsg
   unfold qs at x0 x1
   generalize l[k]=q at *
   generalize ps[k]=pk at *
   simp only at x0 x1
   by_cases hz:q.num=0
   ·rw [hz] at Hsg
    rw [if_pos hz] at hget
    rw [hget] at hset
    have hsame:lowK B ps l (k + 1)=lowK B ps l k:=by
     rw [← hset]
     refine List.ext_getElem? fun i=>?_
     by_cases hi:k=i
     ·subst hi
      rw [List.getElem?_set_self (by rw [hlen]; exact hkp)]
      rw [List.getD_eq_getElem?_getD,List.getElem?_eq_getElem (by rw [hlen]; exact hkp)] at hat
      rw [List.getElem?_eq_getElem (by rw [hlen]; exact hkp)]
      exact congrArg some hat.symm
     ·rw [List.getElem?_set_ne hi]
    rw [hz] at x0
    have HS:=hd_ hsame
    clear hget hset hat hlen hsame hz hlo
    go_wp2_with fail
    refine cm_ (Hsg.out _) ?_
    rintro e w2 ⟨rfl,hb⟩
    have HI2:Hid (OpI w w2 ps l B (k + 1) (some ⟨b0,o0,none⟩) c0 (some ⟨b1,o1,none⟩) c1) :=
     ⟨by rw [hb.block _ (Array.getElem?_eq_some_iff.1 HI.out.ob).1]; exact HI.out.ob,by rw [HS.out]; exact own_below HI.out.own hb nr_,HI.out.bel.trans (hb.mono HI.out.bel.size)⟩
    clear hb Hsg HI HS
    go_wp2_with fail
    refine ⟨⟨k + 1,by omega,by go_num,HI2⟩,by simp [intOf]; omega⟩
   ·rw [if_neg hz] at hget
    rw [hget] at hset
    have hsz':(q.num.sign == 0)=false:=by
     rw [beq_eq_false_iff_ne]
     intro h
     exact hz (Int.sign_eq_zero_iff_zero.1 h)
    have hsn:(q.num.sign != 0)=true:=by
     rw [bne_iff_ne]
     intro h
     exact hz (Int.sign_eq_zero_iff_zero.1 h)
    clear hget hat hlen hz
    go_wp2_with fail
    refine cm_ (Hsg.out _) ?_
    rintro e w2 ⟨rfl,hb⟩
    have HI2:Hid (OpI w w2 ps l B k (some ⟨b0,o0,none⟩) c0 (some ⟨b1,o1,none⟩) c1) :=
     ⟨by rw [hb.block _ (Array.getElem?_eq_some_iff.1 HI.out.ob).1]; exact HI.out.ob,own_below HI.out.own hb nr_,HI.out.bel.trans (hb.mono HI.out.bel.size)⟩
    clear hb Hsg HI x0 x1 cp hsz'
    obtain ⟨k0,k1,k2,k3,-⟩:=four_cells HI2.out.ob
    rw [Hn.out] at k3
    have q0:=NW.cell k3
    have hnon:Nonempty (NW w2):=⟨⟨w2,Below.refl _ _⟩⟩
    have I:Hid (Below w2.heap.size w2 w2.drew):=(Below.refl _ _).drew
    clear k0 k1 k2 k3
    go_wp2_with fail
    refine RP.wp_region_readers 9 [(2,0),(2,1),(2,2),(1,3),(2,4),(2,5),(2,6),(0,7),(2,8),(0,9)] (fun w'=>∃ p:NW w2,w'=p.w) (by kernel_rfl) (by kernel_rfl) ?_ ?_
    ·exact ⟨⟨_,I.out⟩,rfl⟩
    iterate 3 (refine RP.walkR_any ?_; simp only [dsc_,dz_,tsc_,tz_]; go_big_quiet_step (fail); refine wpQuiet_nil ?_)
    iterate 1 (refine RP.walkR_read ?_; simp only [dsc_,dz_,tsc_,tz_]; go_big_quiet_step (fail); refine wpQuiet_nil ?_)
    iterate 3 (refine RP.walkR_any ?_; simp only [dsc_,dz_,tsc_,tz_]; go_big_quiet_step (fail); refine wpQuiet_nil ?_)
    clear hnon q0
    refine RP.walkR_move ?_
    simp only [dsc_,dz_,tsc_,tz_]
    go_wp2_with fail
    refine cm_ (hlo.out _ (HI2.out.bel.trans (I.out.mono HI2.out.bel.size))) ?_
    rintro e w3 ⟨rfl,hb⟩
    have I3:Hid (Below w2.heap.size w2 w3):=I.out.trans (hb.mono I.out.size)
    clear hb I hlo
    have HI3:Hid (OpI w w3 ps l B k (some ⟨b0,o0,none⟩) c0 (some ⟨b1,o1,none⟩) c1) :=
     ⟨by rw [I3.out.block _ (Array.getElem?_eq_some_iff.1 HI2.out.ob).1]; exact HI2.out.ob,own_below HI2.out.own I3.out nr_,HI2.out.bel.trans (I3.out.mono HI2.out.bel.size)⟩
    obtain ⟨g,hg,hg1,hg2,hg3,hg4,hg5⟩:=HI3.out.own.open (by rw [hlk.out k (by rw [Hn.out]; omega)]; omega)
    obtain rfl:w.heap.size=g:=by simpa using hg
    have hce:=hg4 k (by rw [hlk.out k (by rw [Hn.out]; omega)]; exact hkp)
    have hfe:=hg5 k
    clear hg hg3 hg4 hg5
    have HI4:Hid (OpI w (w3.setCell ⟨w.heap.size,k,none⟩ (.string (dec (lgN pk B)))) ps l B (k + 1) (some ⟨b0,o0,none⟩) c0 (some ⟨b1,o1,none⟩) c1) :=
     ⟨by rw [Below.heap_setCell _ _ _ _ (by show w.heap.size + 1≠w.heap.size; omega)]; exact HI3.out.ob,by rw [← hset]; exact HI3.out.own.store k _,HI3.out.bel.setCell (p:=⟨w.heap.size,k,none⟩) nr_ _⟩
    go_wp2_with fail
    refine ⟨⟨⟨_,I3.out⟩,rfl⟩,?_⟩
    clear I3 HI2 HI3
    iterate 1 (refine RP.walkR_any ?_; simp only [dsc_,dz_,tsc_,tz_]; go_big_quiet_step (fail); refine wpQuiet_nil ?_)
    refine RP.walkR_move ?_
    simp only [dsc_,dz_,tsc_,tz_]
    go_wp2_with fail
    simp only [RP.walkR]
    go_wp2_with fail
    refine ⟨⟨k + 1,by omega,by go_num,HI4⟩,by simp [intOf]; omega⟩
  ·obtain rfl:k=n:=by omega
   have hlt':¬ (k:Int) < k:=by omega
   have HR:Hid (LgAt wr (w.heap.size + 1) ps l B):=by
    refine ⟨a0,c0,a1,c1,some ⟨w.heap.size,0,none⟩,ps.length,HI.out.ob,HRp.out.below HI.out.bel nr_,HRl.out.below HI.out.bel nr_,?_⟩
    have:=HI.out.own
    rw [← Hn.out,Hall.out,Hn.out] at this
    have h2:OwnSt wr w.heap.size (some ⟨w.heap.size,0,none⟩) ps.length (lowL B ps l):=by rw [Hn.out]; exact this
    exact h2.rd
   go_wp2_with fail
   go_ret
   exact ⟨w.heap.size + 1,rfl,HR.out,Nat.le_succ _,HI.out.bel⟩
end Go.Proofs.YtnjedhgcfeoemaaGreatDoor
