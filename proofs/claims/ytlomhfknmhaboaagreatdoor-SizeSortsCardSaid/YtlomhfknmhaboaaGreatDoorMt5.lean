/- For any at most 7 sizes with small coefficients over the primes of a number, Sort returns their order, by Compare, and equal ones in the order of the list; Text returns the text of each. No condition: the statement holds for every input. -/
import Derived.StillTail
import Derived.Lib.QuietBelow
import Derived.BigQuiet
import Derived.Test.YtlomhfknmhaboaaGreatDoorCards
import Derived.Test.YtlomhfknmhaboaaGreatDoorTie
import Derived.SevenTiedAt
import Derived.Test.YtlomhfknmhaboaaGreatDoorMt4
namespace Go.Proofs.YtlomhfknmhaboaaGreatDoor
open Go.RowKit
theorem dval_pad (k:Nat):∀ x,dval (pad k x).reverse=x % 10 ^ k:=by
 induction k with
 | zero=>intro x; simp [pad,dval,Nat.mod_one]
 | succ k ih =>
  intro x
  rw [pad_succ,List.reverse_append]
  show dval (UInt8.ofNat (48 + x / 10 ^ k % 10) :: (pad k x).reverse)=_
  rw [dval_cons,ih,List.length_reverse,pad_length,dig_toNat (Nat.mod_lt _ (by decide)),Nat.add_sub_cancel_left,Nat.pow_succ,Nat.mod_mul,Nat.mul_comm,Nat.add_comm]
theorem pad_digs (k:Nat):∀ x,Digs (pad k x):=by
 induction k with
 | zero=>intro x c hc; cases hc
 | succ k ih =>
  intro x c hc
  rcases List.mem_cons.1 hc with rfl | hc
  ·rw [dig_toNat (Nat.mod_lt _ (by decide))]
   have:=Nat.mod_lt x (show 0 < 10 by decide)
   omega
  ·exact ih _ c hc
theorem pre_digs (p:List Nat) (k:Nat):Digs (pre p k):=by
 intro c hc
 obtain ⟨x,_,hx⟩:=List.mem_flatMap.1 hc
 exact pad_digs 9 x c hx
theorem Digs.reverse {l:List UInt8} (h:Digs l):Digs l.reverse:=fun c hc=>h c (List.mem_reverse.1 hc)
theorem dval_pre (p:List Nat) (hp:Pcs p):∀ k,k≤p.length→dval (pre p k).reverse=val (p.take k)
 | 0,_=>by simp [pre,dval,val]
 | k + 1,h=>by
  rw [pre_succ p k h,List.reverse_append,dval_append,dval_pad,dval_pre p hp k (by omega),List.length_reverse,pre_length p k (by omega),val_take_succ p k h,Nat.mod_eq_of_lt (show p.getD k 0 < 10 ^ 9 from hp.getD k),Nat.pow_mul,
   show (10:Nat) ^ 9=1000000000 from rfl,Nat.mul_comm,Nat.add_comm]
structure JAt (w:World) (n:Nat) (T:List UInt8) (wr:World):Prop where
 row:∃ D,RowB wr w.heap.size 5 D∧D.length=9 * n + 1∧(D.getD 0 0).toNat=48∧D.drop (9 * n + 1 - T.length)=T
 bel:Below w.heap.size w wr
theorem JAt.set {w wr:World} {n:Nat} {T:List UInt8} (h:JAt w n T wr) (m x:Nat) (hm:m + T.length=9 * n) (hm0:0 < m) (hx:x < 256):JAt w n (UInt8.ofNat x :: T) (wr.setCell ⟨w.heap.size,m,none⟩ (.int .u8 (x:Nat))):=by
 obtain ⟨D,h1,h2,h3,h4⟩:=h.row
 refine ⟨⟨D.set m (UInt8.ofNat x),h1.set m x hx,by rw [List.length_set]; exact h2,?_,?_⟩,h.bel.setCell nr_ _⟩
 ·rw [List.getD_eq_getElem?_getD,List.getElem?_set_ne (by omega),← List.getD_eq_getElem?_getD]; exact h3
 ·have e:9 * n + 1 - (UInt8.ofNat x :: T).length=m:=by simp; omega
  rw [e,List.drop_eq_getElem_cons (by simp; omega),List.getElem_set_self,List.drop_set,if_pos (by omega)]
  congr 1
  rw [← h4]
  congr 1
  omega
theorem JAt.cell {w wr:World} {n:Nat} {T:List UInt8} (h:JAt w n T wr) (m:Nat) (hm:m≤9 * n):(∃ x:Nat,wr.cell? ⟨w.heap.size,m,none⟩=some (.int .u8 x))∧wr.frozen? ⟨w.heap.size,m,none⟩=false:=by
 obtain ⟨D,h1,h2,_,_⟩:=h.row
 exact ⟨⟨_,h1.cell (by omega)⟩,h1.frozen m⟩
theorem JAt.done {w wr:World} {n:Nat} {T:List UInt8} (h:JAt w n T wr) (hT:T.length=9 * n) (hd:Digs T):∃ D,RowB wr w.heap.size 5 D∧D.length=9 * n + 1∧Digs D∧dval D=dval T:=by
 obtain ⟨D,h1,h2,h3,h4⟩:=h.row
 have e:9 * n + 1 - T.length=1:=by omega
 rw [e] at h4
 match D,h2,h3,h4 with
 | c :: D,h2,h3,h4 =>
  obtain rfl:D=T:=by simpa using h4
  have hc:c.toNat=48:=by simpa using h3
  refine ⟨_,h1,h2,fun y hy=>?_,?_⟩
  ·rcases List.mem_cons.1 hy with rfl | hy
   ·omega
   ·exact hd y hy
  ·rw [dval_cons,hc]; simp
theorem jat_start (w:World) (n:Nat):JAt w n [] ((w.alloc (.cells (madeCells #[.int .u8 0] (9 * n + 1)) 5)).setCell ⟨w.heap.size,0,none⟩ (.int .u8 (48:Nat))):=by
 have h0:RowB (w.alloc (.cells (madeCells #[.int .u8 0] (9 * n + 1)) 5)) w.heap.size 5 (List.replicate (9 * n + 1) 0):=by
  unfold RowB
  rw [List.length_replicate]
  refine (World.rowIs_made w (.int .u8 0) (9 * n + 1) 5).congr fun j hj=>?_
  rw [List.getD_eq_getElem?_getD,List.getElem?_replicate,if_pos hj]; rfl
 refine ⟨⟨(List.replicate (9 * n + 1) 0).set 0 (UInt8.ofNat 48),h0.set 0 48 (by decide),by simp,by simp [List.replicate_succ],by simp⟩,((Below.refl _ _).alloc nr_ _).setCell nr_ _⟩
set_option maxRecDepth 100000 in
set_option maxHeartbeats 4000000 in
theorem refJoin_any (w:World) (a:Option Addr) (c:Nat) (p:List Nat) (h1:ReadsU w a p) (p1:Pcs p) (l1:p.length≤1000000) :
  Gives Tryz.prog 113 #[.slice a p.length c] w (.string (dec (val p))):=by
 unfold Gives
 have H1:=Lib.hid h1
 have P1:=Lib.hid p1
 clear h1 p1
 generalize hn:p.length=n at *
 have Hn:=Lib.hid hn
 clear hn
 have hmk:=run_make_row' (P:=Tryz.prog) 142 5 (.int .u8 0) 1 Tryz.underlying142 infoB rfl .i64 .i64 (9 * n + 1) (by omega) (by omega) w
 have HJ:=Lib.hid (jat_start w n)
 have hc0:(w.alloc (.cells (madeCells #[.int .u8 0] (9 * n + 1)) 5)).cell? ⟨w.heap.size,0,none⟩=some (.int .u8 0):=World.rowIs.cell (World.rowIs_made w (.int .u8 0) (9 * n + 1) 5) (by omega)
 have hf0:(w.alloc (.cells (madeCells #[.int .u8 0] (9 * n + 1)) 5)).frozen? ⟨w.heap.size,0,none⟩=false:=World.rowIs.frozen (World.rowIs_made w (.int .u8 0) (9 * n + 1) 5) 0
 push_cast at hmk
 generalize w.alloc (.cells (madeCells #[.int .u8 0] (9 * n + 1)) 5)=w1 at *
 go_enter Tryz.func113,Tryz.ntmps113
 go_wp2_with fail
 go_loopw [4] (fun z wr=>∃ k:Nat,k≤n∧z = .int .i64 k∧Hid (JAt w n (pre p k).reverse wr)) (fun z _=>n - (intOf z).toNat)
 case atStart=>exact ⟨0,Nat.zero_le _,rfl,by show JAt _ _ _ _; simpa [pre] using HJ.out⟩
 case round =>
  obtain ⟨k,hk,rfl,HK⟩:=hrel
  clear HJ hc0 hf0 hmk
  by_cases hlt:k < n
  ·obtain ⟨b1,o1,rfl,hb1,hc1⟩:=H1.out.open (by rw [Hn.out]; omega)
   have cx:=hc1 k (by rw [Hn.out]; exact hlt)
   rw [← HK.out.bel.cell (p:=⟨b1,o1 + k,none⟩) hb1] at cx
   have hx:=P1.out.getD k
   have Hsc:=Lib.hid (pre_succ p k (by rw [Hn.out]; exact hlt))
   have Hpl:=Lib.hid (pre_length p k (by rw [Hn.out]; omega))
   clear hc1
   generalize p.getD k 0=x at *
   have hlt':(k:Int) < n:=by omega
   go_wp2_with fail
   go_loopw [5,6] (fun u z wr=>∃ i m y:Nat,i≤9∧m + (9 * k + i)=9 * n∧z = .int .i64 i∧u = .int .u64 y∧y < 1000000000∧Hid (y=x / 10 ^ i)∧Hid (JAt w n ((pad i x).reverse ++ (pre p k).reverse) wr)) (fun _ z _=>9 - (intOf z).toNat)
   case atStart=>exact ⟨0,9 * n - 9 * k,x,by omega,by omega,rfl,rfl,hx,by show _=_; simp,by show JAt _ _ _ _; simpa [pad] using HK.out⟩
   case round =>
    obtain ⟨i,m,y,hi,hm,rfl,rfl,hy,Hy,HI⟩:=hrel
    by_cases hlt2:i < 9
    ·obtain ⟨⟨x0,hcm⟩,hfm⟩:=HI.out.cell m (by omega)
     have hm0:0 < m:=by omega
     have hst:=HI.out.set m (48 + y % 10) (by simp only [List.length_append,List.length_reverse,pad_length,Hpl.out]; omega) hm0 (by omega)
     have ev:((48 + y % 10:Nat):Int)=48 + (y:Int) % 10:=by omega
     rw [ev] at hst
     have HS:Hid (JAt w n ((pad (i + 1) x).reverse ++ (pre p k).reverse) (wr.setCell ⟨w.heap.size,m,none⟩ (.int .u8 (48 + (y:Int) % 10)))):=by
      rw [pad_succ,List.reverse_append]
      have:=hst
      rw [Hy.out] at this ⊢
      exact this
     have Hyn:Hid (y / 10=x / 10 ^ (i + 1)):=by show _=_; rw [Hy.out,Nat.div_div_eq_div_mul,Nat.pow_succ]
     clear hst
     have hix:(9 * (n:Int) - 9 * k - i)=m:=by omega
     have hlt2':(i:Int) < 9:=by omega
     go_wp2
     go_roundw
     case rel=>exact ⟨i + 1,m - 1,y / 10,by omega,by omega,by go_num,by go_num,by omega,Hyn.out,HS.out⟩
     case measure=>simp [intOf]; omega
    ·obtain rfl:i=9:=by omega
     have HS:Hid (JAt w n (pre p (k + 1)).reverse wr):=by
      rw [Hsc.out,List.reverse_append]; exact HI.out
     go_wp2
     go_roundw
     case rel=>exact ⟨k + 1,by omega,by go_num,HS⟩
     case measure=>simp [intOf]; omega
  ·obtain rfl:k=n:=by omega
   obtain ⟨D,hD1,hD2,hD3,hD4⟩:=HK.out.done (by rw [List.length_reverse,pre_length p k (by rw [Hn.out]; omega)]) (pre_digs p k).reverse
   have hv:=dval_pre p P1.out k (by rw [Hn.out]; omega)
   have et:p.take k=p:=by rw [← Hn.out,List.take_length]
   rw [et] at hv
   have htr:=refTrim_any wr w.heap.size 5 D (val p) hD1 hD3 (by omega) (by omega) (hD4.trans hv)
   rw [hD2] at htr
   have Htr:=Lib.hid htr
   clear htr hD1 hD2 hD3 hD4 hv et
   push_cast at Htr
   go_wp2_with fail
   refine (Htr.out).mono ?_
   rintro e w2 ⟨rfl,hb2⟩
   have Hb2:=Lib.hid (HK.out.bel.trans (hb2.mono HK.out.bel.size))
   clear hb2 Htr
   go_wp2
   go_ret
   exact ⟨rfl,Hb2.out⟩
end Go.Proofs.YtlomhfknmhaboaaGreatDoor

namespace Go.Proofs.YtlomhfknmhaboaaGreatDoor
open Go.RowKit
theorem made_u64 (n:Nat) (w:World) (hn:n≤100000000) :
  (Instr.makeSlice 145 (.int .i64 (n:Int)) (.int .i64 (n:Int))).run Tryz.prog w = .ok (.slice (some ⟨w.heap.size,0,none⟩) n n) (w.alloc (.cells (u64s (List.replicate n 0)).toArray 112)):=by
 have:=run_make_row' (P:=Tryz.prog) 145 112 (.int .u64 0) 8 Tryz.underlying145 infoU rfl .i64 .i64 n (by omega) (by omega) w
 rw [made_zeros] at this
 exact this
structure ROut (p q:List Nat) (B k:Nat) (L:List Nat) (w wr:World):Prop where
 len:L.length=p.length + q.length + 1
 pcs:Pcs L
 v:val L=val (p.take k) * val q
 z:∀ j,k + q.length≤j→L.getD j 0=0
 own:OwnU wr B (some ⟨B,0,none⟩) (p.length + q.length + 1) L
 bel:Below B w wr
structure RIn (p q L:List Nat) (B i m cc:Nat) (M:List Nat) (w wr:World):Prop where
 len:M.length=p.length + q.length + 1
 pcs:Pcs M
 v:val M + 1000000000 ^ (i + m) * cc=val L + 1000000000 ^ i * (p.getD i 0 * val (q.take m))
 z:∀ j,i + q.length≤j→M.getD j 0=0
 own:OwnU wr B (some ⟨B,0,none⟩) (p.length + q.length + 1) M
 bel:Below B w wr
theorem digs_dec (n:Nat):Digs (lb (dec n)):=dec_digs n
theorem refQuickV_form (n:Nat):∃ (u:Nat) (b:Bool),refQuickV (dec n) = .tuple #[.int .u64 u,.bool b]∧(b=true→u=n)∧(b=true↔(dec n).size≤18):=by
 unfold refQuickV
 by_cases h:(dec n).size≤18
 ·rw [if_pos h]
  exact ⟨_,_,rfl,fun _=>dval_dec n,by simp [h]⟩
 ·rw [if_neg h]
  exact ⟨_,_,rfl,by simp,by simp [h]⟩
set_option maxRecDepth 100000 in
set_option maxHeartbeats 16000000 in
theorem refMul_any (w:World) (x y:Nat) (hx:Num x) (hy:Num y) :
  Gives Tryz.prog 72 #[.string (dec x),.string (dec y)] w (.string (dec (x * y))):=by
 unfold Gives
 have hx1:(dec x).size≤1000000:=hx
 have hy1:(dec y).size≤1000000:=hy
 have Hq1:=Lib.hid fun w:World=>refQuick_any w (dec x) (digs_dec x) (by omega)
 have Hq2:=Lib.hid fun w:World=>refQuick_any w (dec y) (digs_dec y) (by omega)
 obtain ⟨u1,b1,e1,f1,g1⟩:=refQuickV_form x
 obtain ⟨u2,b2,e2,f2,g2⟩:=refQuickV_form y
 rw [e1] at Hq1
 rw [e2] at Hq2
 clear e1 e2
 by_cases hs:(dec x).size + (dec y).size≤18
 ·obtain rfl:=g1.2 (by omega)
  obtain rfl:=g2.2 (by omega)
  obtain rfl:=f1 rfl
  obtain rfl:=f2 rfl
  have d1:=(dec_length u1 (dec u1).size (by rw [dec_size]; exact dec_pos u1)).1 (by rw [dec_size]; exact Nat.le_refl _)
  have d2:=(dec_length u2 (dec u2).size (by rw [dec_size]; exact dec_pos u2)).1 (by rw [dec_size]; exact Nat.le_refl _)
  have d3:u1 * u2 < 10 ^ ((dec u1).size + (dec u2).size):=by rw [Nat.pow_add]; exact Nat.mul_lt_mul_of_lt_of_lt d1 d2
  have d4:10 ^ ((dec u1).size + (dec u2).size)≤10 ^ 18:=Nat.pow_le_pow_right (by decide) hs
  have d5:u1 * u2 < 18446744073709551616:=by omega
  have hw1:IntKind.u64.wrap ((u1:Int) * (u2:Int))=((u1 * u2:Nat):Int):=by rw [← Int.natCast_mul]; exact wrap_u _ d5
  have HOf:=Lib.hid fun w:World=>refOf_any w (u1 * u2) d5
  have hs':((dec u1).size:Int) + (dec u2).size≤18:=by omega
  clear f1 f2 g1 g2 d1 d2 d3 d4 d5 hx hy hx1 hy1
  generalize dec (u1 * u2)=r at *
  generalize u1 * u2=u at *
  generalize dec u1=s1 at *
  generalize dec u2=s2 at *
  go_enter Tryz.func72,Tryz.ntmps72
  go_wp2_with fail
  refine (Hq1.out _).mono ?_
  rintro e w1 ⟨rfl,hb1⟩
  have Hb1:=Lib.hid hb1
  clear hb1
  go_wp2_with fail
  refine (Hq2.out _).mono ?_
  rintro e w2 ⟨rfl,hb2⟩
  have Hb2:=Lib.hid (Hb1.out.trans (hb2.mono Hb1.out.size))
  clear hb2
  go_wp2_with fail
  refine (HOf.out _).mono ?_
  rintro e w3 ⟨rfl,hb3⟩
  have Hb3:=Lib.hid (Hb2.out.trans (hb3.mono Hb2.out.size))
  clear hb3
  go_wp2
  go_ret
  exact ⟨rfl,Hb3.out⟩
 ·have hs':¬ ((dec x).size:Int) + (dec y).size≤18:=by omega
  have HL1:=Lib.hid fun w:World=>refLimbs_any (dec x) w (digs_dec x) (by omega)
  have HL2:=Lib.hid fun w:World=>refLimbs_any (dec y) w (digs_dec y) (by omega)
  have ev1:dval (lb (dec x))=x:=dval_dec x
  have ev2:dval (lb (dec y))=y:=dval_dec y
  rw [ev1] at HL1
  rw [ev2] at HL2
  clear f1 f2 g1 g2 ev1 ev2 hx hy
  obtain ⟨r,hr⟩:∃ r,dec (x * y)=r:=⟨_,rfl⟩
  rw [hr]
  have Hr2:Hid (r=dec (x * y)):=hr.symm
  clear hr
  generalize dec x=s1 at *
  generalize dec y=s2 at *
  unfold GivesL at HL1 HL2
  go_enter Tryz.func72,Tryz.ntmps72
  go_wp2_with fail
  refine (Hq1.out _).mono ?_
  rintro e w1 ⟨rfl,hb1⟩
  have Hb1:=Lib.hid hb1
  clear hb1
  go_wp2_with fail
  refine (Hq2.out _).mono ?_
  rintro e w2 ⟨rfl,hb2⟩
  have Hb2:=Lib.hid (Hb1.out.trans (hb2.mono Hb1.out.size))
  clear hb2 Hq1 Hq2
  cases b1 <;> cases b2
  all_goals
   go_wp2_with fail
   refine Calls.mono (HL1.out _) ?_
   rintro e w3 ⟨a1,c1,p,rfl,ho1,hb3,p1,v1,n1⟩
   have Hb3:=Lib.hid (Hb2.out.trans (hb3.mono Hb2.out.size))
   clear hb3
   go_wp2_with fail
   refine Calls.mono (HL2.out _) ?_
   rintro e w4 ⟨a2,c2,q,rfl,ho2,hb4,p2,v2,n2⟩
   have H1:=Lib.hid (ho1.reads.below hb4 nr_)
   have H2:=Lib.hid ho2.reads
   have Hb4:=Lib.hid (Hb3.out.trans (hb4.mono Hb3.out.size))
   have P1:=Lib.hid p1
   have P2:=Lib.hid p2
   have V1:=Lib.hid v1
   have V2:=Lib.hid v2
   clear ho1 ho2 hb4 p1 p2 v1 v2 HL1 HL2
   generalize hn:p.length=n at *
   generalize hm:q.length=m at *
   have Hn:=Lib.hid hn
   have Hm:=Lib.hid hm
   have hnm:n + m≤500000:=by omega
   clear hn hm n1 n2
   have hmk:=made_u64 (n + m + 1) w4 (by omega)
   have Hown:=Lib.hid (own_made w4 (List.replicate (n + m + 1) 0) (by simp; omega))
   have Hb:=Lib.hid ((Below.refl w4.heap.size w4).alloc nr_ (.cells (u64s (List.replicate (n + m + 1) 0)).toArray 112))
   push_cast at hmk
   generalize w4.alloc (.cells (u64s (List.replicate (n + m + 1) 0)).toArray 112)=w5 at *
   go_wp2_with fail
   go_loopw [12] (fun i wr=>∃ (k:Nat) (L:List Nat),k≤n∧i = .int .i64 k∧Hid (ROut p q w4.heap.size k L w4 wr)) (fun i _=>n - (intOf i).toNat)
   case atStart =>
    refine ⟨0,List.replicate (n + m + 1) 0,Nat.zero_le _,rfl,?_⟩
    refine ⟨by simp [Hn.out,Hm.out],Pcs.zeros _,by simp [val_zeros,val],fun j _=>?_,?_,Hb.out⟩
    ·rw [List.getD_eq_getElem?_getD,List.getElem?_replicate]; split <;> rfl
    ·have:=Hown.out
     rw [List.length_replicate] at this
     rw [Hn.out,Hm.out]; exact this
   case round =>
    obtain ⟨k,L,hk,rfl,HT⟩:=hrel
    clear Hown Hb hmk
    by_cases hlt:k < n
    ·obtain ⟨b1,o1,rfl,hb1,hc1⟩:=H1.out.open (by rw [Hn.out]; omega)
     have hlt':(k:Int) < n:=by omega
     go_wp2_with fail
     go_loopw [13,14] (fun c j wr=>∃ (t cc:Nat) (M:List Nat),t≤m∧cc < 1000000000∧j = .int .i64 t∧c = .int .u64 cc∧Hid (RIn p q L w4.heap.size k t cc M w4 wr)) (fun _ j _=>m - (intOf j).toNat)
     case atStart =>
      refine ⟨0,0,L,Nat.zero_le _,by omega,rfl,rfl,?_⟩
      exact ⟨HT.out.len,HT.out.pcs,by simp [val],HT.out.z,HT.out.own,HT.out.bel⟩
     case round =>
      obtain ⟨t,cc,M,ht,hcc,rfl,rfl,HI⟩:=hrel
      obtain ⟨g,hg,hg1,hg2,hg3,hg4,hg5⟩:=HI.out.own.open (by rw [HI.out.len]; omega)
      obtain rfl:w4.heap.size=g:=by simpa using hg
      clear hg
      by_cases hlt2:t < m
      ·have cx:=hc1 k (by rw [Hn.out]; exact hlt)
       rw [← HI.out.bel.cell (p:=⟨b1,o1 + k,none⟩) hb1] at cx
       have hx:=P1.out.getD k
       obtain ⟨x,hxx⟩:∃ x,p.getD k 0=x:=⟨_,rfl⟩
       rw [hxx] at cx hx
       have Hxx:=Lib.hid hxx
       clear hxx
       obtain ⟨b2,o2,rfl,hb2,hc2⟩:=H2.out.open (by rw [Hm.out]; omega)
       have cy:=hc2 t (by rw [Hm.out]; exact hlt2)
       rw [← HI.out.bel.cell (p:=⟨b2,o2 + t,none⟩) hb2] at cy
       have hy:=P2.out.getD t
       have ce:=hg4 (k + t) (by rw [HI.out.len,Hn.out,Hm.out]; omega)
       have he:=HI.out.pcs.getD (k + t)
       have fe:=hg5 (k + t)
       have hxy:=mul_lt hx hy
       have hstep:=times_step M q k t x cc (val L) (by rw [Hm.out]; exact hlt2) (by rw [HI.out.len,Hn.out,Hm.out]; omega) (by have:=HI.out.v; rw [Hxx.out] at this; exact this)
       have hw1:IntKind.u64.wrap ((x:Int) * (q.getD t 0:Nat))=((x * q.getD t 0:Nat):Int):=by
        rw [← Int.natCast_mul]; exact wrap_u _ (by omega)
       have HI2:Hid (∀ nq,RIn p q L w4.heap.size k (t + 1) ((cc + (M.getD (k + t) 0 + x * q.getD t 0)) / 1000000000) (M.set (k + t) ((cc + (M.getD (k + t) 0 + x * q.getD t 0)) % 1000000000)) w4 ((wr.drewN nq).setCell ⟨w4.heap.size,k + t,none⟩ (.int .u64 ((cc + (M.getD (k + t) 0 + x * q.getD t 0)) % 1000000000:Nat)))) :=
        fun nq=>⟨by rw [List.length_set]; exact HI.out.len,HI.out.pcs.set _ _ (Nat.mod_lt _ (by decide)),by rw [Hxx.out]; exact hstep,fun j hj=>by rw [limb_set_ne _ _ _ _ (by have:=Hm.out; omega)]; exact HI.out.z j hj,(HI.out.own.below (below_dn (Below.refl _ _) nq) nr_).store (k + t) _,(below_dn HI.out.bel nq).setCell (p:=⟨w4.heap.size,k + t,none⟩) nr_ _⟩
       clear hstep hc2 hg4 hg5
       generalize M.getD (k + t) 0=e at *
       generalize q.getD t 0=y at *
       generalize x * y=xy at *
       have hd1:((e:Int) + (xy:Int) + (cc:Int)) % 1000000000=(((cc + (e + xy)) % 1000000000:Nat):Int):=by omega
       have hd2:((e:Int) + (xy:Int) + (cc:Int)) / 1000000000=(((cc + (e + xy)) / 1000000000:Nat):Int):=by omega
       have hd3:(cc + (e + xy)) / 1000000000 < 1000000000:=by omega
       have hd4:(cc + (e + xy)) % 1000000000 < 1000000000:=Nat.mod_lt _ (by decide)
       generalize (cc + (e + xy)) / 1000000000=c2 at *
       generalize (cc + (e + xy)) % 1000000000=d at *
       have hlt2':(t:Int) < m:=by omega
       go_wp2_with fail
       go_quiet (fail)
       go_wp2
       go_roundw
       case rel=>exact ⟨t + 1,c2,_,by omega,hd3,by go_num,by rw [hd2],HI2.out _⟩
       case measure=>simp [intOf]; omega
      ·obtain rfl:t=m:=by omega
       have fe:=hg5 (k + t)
       have ce:=hg4 (k + t) (by rw [HI.out.len,Hn.out,Hm.out]; omega)
       have hz0:M.getD (k + t) 0=0:=HI.out.z _ (by rw [Hm.out]; exact Nat.le_refl _)
       rw [hz0] at ce
       have hrow:=times_row L M p q k cc (by rw [Hn.out]; exact hlt) (by rw [HI.out.len,Hn.out,Hm.out]; omega) (by rw [Hm.out]; exact hz0) HT.out.v (by rw [Hm.out]; exact HI.out.v)
       rw [Hm.out] at hrow
       have HT2:Hid (ROut p q w4.heap.size (k + 1) (M.set (k + t) cc) w4 (wr.setCell ⟨w4.heap.size,k + t,none⟩ (.int .u64 (cc:Nat)))) :=
        ⟨by rw [List.length_set]; exact HI.out.len,HI.out.pcs.set _ _ hcc,hrow,fun j hj=>by rw [limb_set_ne _ _ _ _ (by have:=Hm.out; omega)]; exact HI.out.z j (by omega),HI.out.own.store (k + t) cc,HI.out.bel.setCell (p:=⟨w4.heap.size,k + t,none⟩) nr_ _⟩
       clear hrow hg4 hg5 hlt2 HT hz0
       go_wp2
       go_roundw
       case rel=>exact ⟨k + 1,_,by omega,by go_num,HT2⟩
       case measure=>simp [intOf]; omega
    ·obtain rfl:k=n:=by omega
     have hv:val L=x * y:=by
      have:=HT.out.v
      rw [← Hn.out,List.take_length,V1.out,V2.out] at this
      exact this
     have htr:=refJoin_any wr (some ⟨w4.heap.size,0,none⟩) (k + m + 1) L HT.out.own.reads HT.out.pcs (by rw [HT.out.len,Hn.out,Hm.out]; omega)
     rw [HT.out.len,Hn.out,Hm.out,hv,← Hr2.out] at htr
     have Htr:=Lib.hid htr
     clear htr hv hlt
     push_cast at Htr
     go_wp2_with fail
     refine (Htr.out).mono ?_
     rintro e w6 ⟨rfl,hb6⟩
     have Hb6:=Lib.hid (Hb4.out.trans ((HT.out.bel.trans (hb6.mono HT.out.bel.size)).mono Hb4.out.size))
     clear hb6 Htr
     go_wp2
     go_ret
     exact ⟨rfl,Hb6.out⟩
end Go.Proofs.YtlomhfknmhaboaaGreatDoor

namespace Go.Proofs.YtlomhfknmhaboaaGreatDoor
open Go.RowKit
set_option maxRecDepth 100000 in
set_option maxHeartbeats 4000000 in
theorem refPower_any (w:World) (a n:Nat) (ha:2≤a) (most:Nat) (hm:most≤100000) (hm0:0 < most) (hd:(dec (a ^ n)).size≤most) (hn:n≤1000000) :
  Gives Tryz.prog 70 #[.string (dec a),.int .i64 n,.int .i64 most] w (.tuple #[.string (dec (a ^ n)),.bool true]):=by
 unfold Gives
 have H1:Hid (dec 1=⟨#[49]⟩):=by
  show _=_
  unfold dec
  rw [dec_small (by omega)]; rfl
 have hne0:=is_zero a
 have hne1:=is_one a
 rw [decide_eq_false (by omega)] at hne0 hne1
 have HM:=Lib.hid fun (w:World) (k:Nat) (hk:k < n)=>refMul_any w (a ^ k) a (Nat.le_trans (dec_mono (Nat.pow_le_pow_right (by omega) (Nat.le_of_lt hk))) (Nat.le_trans hd (by omega))) (by
  show (dec a).size≤_
  have h1:a≤a ^ n:=by
   have:=Nat.pow_le_pow_right (n:=a) (by omega) (show 1≤n by omega)
   rwa [Nat.pow_one] at this
  exact Nat.le_trans (dec_mono h1) (Nat.le_trans hd (by omega)))
 have HD:=Lib.hid fun (k:Nat) (hk:k≤n)=>Nat.le_trans (dec_mono (Nat.pow_le_pow_right (n:=a) (by omega) hk)) hd
 have Hp0:Hid (dec (a ^ 0)=dec 1):=by show _=_; rw [Nat.pow_zero]
 clear hd
 generalize dec a=s at *
 go_enter Tryz.func70,Tryz.ntmps70
 go_wp2_with fail
 go_loopw [8,9] (fun o z wr=>∃ k:Nat,k≤n∧z = .int .i64 k∧o = .string (dec (a ^ k))∧Hid (Below w.heap.size w wr)) (fun _ z _=>n - (intOf z).toNat)
 case atStart=>exact ⟨0,Nat.zero_le _,rfl,by rw [Hp0.out,H1.out],Below.refl _ _⟩
 case round =>
  obtain ⟨k,hk,rfl,rfl,HB⟩:=hrel
  by_cases hlt:k < n
  ·have Hc:=Lib.hid (HM.out wr k hlt)
   have hsz:=HD.out (k + 1) hlt
   rw [Nat.pow_succ] at hsz
   have Hps:Hid (dec (a ^ (k + 1))=dec (a ^ k * a)):=by show _=_; rw [Nat.pow_succ]
   generalize dec (a ^ k)=s1 at *
   generalize dec (a ^ k * a)=s2 at *
   have hlt':(k:Int) < n:=by omega
   have hsz':¬ (most:Int) < s2.size:=by omega
   go_wp2_with fail
   refine (Hc.out).mono ?_
   rintro e w2 ⟨rfl,hb2⟩
   have Hb2:=Lib.hid (HB.out.trans (hb2.mono HB.out.size))
   clear hb2 Hc
   go_wp2
   go_roundw
   case rel=>exact ⟨k + 1,by omega,by go_num,by rw [Hps.out],Hb2.out⟩
   case measure=>simp [intOf]; omega
  ·obtain rfl:k=n:=by omega
   go_wp2
   go_ret2
   exact ⟨rfl,HB.out⟩
end Go.Proofs.YtlomhfknmhaboaaGreatDoor

namespace Go.Proofs.YtlomhfknmhaboaaGreatDoor
open Go.RowKit
def smallQ (q:Rat):Bool:=decide ((dec q.num.natAbs).size≤18) && decide ((dec q.den).size≤18)
theorem small_num {q:Rat} (h:smallQ q=true):q.num.natAbs < 1000000000000000000∧q.den < 1000000000000000000:=by
 unfold smallQ at h
 rw [Bool.and_eq_true,decide_eq_true_eq,decide_eq_true_eq,dec_size,dec_size,dec_length _ _ (by decide),dec_length _ _ (by decide)] at h
 exact h
set_option maxRecDepth 100000 in
set_option maxHeartbeats 8000000 in
theorem smallF_any (w:World) (q:Rat) (L:Laid w) :
  Gives Tryz.prog 68 #[fr q] w (if smallQ q=true then .tuple #[.int .i64 q.num,.int .i64 q.den,.bool true] else .tuple #[.int .i64 0,.int .i64 0,.bool false]):=by
 unfold Gives
 have Ha:=Lib.hid (fun W=>abs_any W q.num)
 have Hs1:Hid (smallQ q=true→∀ W,Below w.heap.size w W→Gives Tryz.prog 110 #[.string (itx q.num)] W (.tuple #[.int .i64 q.num,.bool true])):=fun h W hW=>by
  have hb:=small_num h
  unfold smallQ at h
  rw [Bool.and_eq_true,decide_eq_true_eq,decide_eq_true_eq] at h
  have:=smallz_any W q.num (show (dec _).size≤_ by omega) (L.below hW)
  rw [if_pos (by omega)] at this
  exact this
 have Hs2:Hid (smallQ q=true→∀ W,Below w.heap.size w W→Gives Tryz.prog 110 #[.string (dec q.den)] W (.tuple #[.int .i64 q.den,.bool true])):=fun h W hW=>by
  have hb:=small_num h
  unfold smallQ at h
  rw [Bool.and_eq_true,decide_eq_true_eq,decide_eq_true_eq] at h
  have:=smallz_any W (q.den:Int) (show (dec _).size≤_ by rw [Int.natAbs_natCast]; omega) (L.below hW)
  rw [if_pos (by omega),itx_nat] at this
  exact this
 have Hv:Hid (smallQ q=(decide ((dec q.num.natAbs).size≤18) && decide ((dec q.den).size≤18))):=rfl
 unfold fr fv
 have B0:=Lib.hid ((Below.refl w.heap.size w).alloc nr_ (.cells #[.string (itx q.num),.string (dec q.den)] 30))
 have N0:=Lib.hid (heap_at w #[.string (itx q.num),.string (dec q.den)] 30 _ rfl)
 clear L
 generalize smallQ q=ok at *
 generalize itx q.num=s at *
 generalize dec q.num.natAbs=s1 at *
 generalize dec q.den=t at *
 by_cases h1:s1.size≤18
 ·have h1':¬ (18:Int) < s1.size:=by omega
  by_cases h2:t.size≤18
  ·have h2':¬ (18:Int) < t.size:=by omega
   obtain rfl:ok=true:=by rw [Hv.out]; simp [h1,h2]
   rw [if_pos rfl]
   generalize q.num=x at *
   generalize q.den=y at *
   go_enter Tryz.func68,Tryz.ntmps68
   obtain ⟨k0,k1,-,-⟩:=two_cells N0.out
   go_wp2_with fail
   generalize w.alloc (.cells #[.string s,.string t] 30)=W0 at *
   clear k0 k1
   refine Calls.mono (Ha.out _) ?_
   rintro e w1 ⟨rfl,hb1⟩
   have B1:=Lib.hid (B0.out.trans (hb1.mono B0.out.size))
   have N1:=Lib.hid (heap_kept N0.out hb1 nr_)
   clear hb1 Ha B0 N0
   obtain ⟨k0,k1,-,-⟩:=two_cells N1.out
   go_wp2_with fail
   refine Calls.mono (Hs1.out trivial _ B1.out) ?_
   rintro e w2 ⟨rfl,hb2⟩
   have B2:=Lib.hid (B1.out.trans (hb2.mono B1.out.size))
   have N2:=Lib.hid (heap_kept N1.out hb2 nr_)
   clear hb2 Hs1 B1 N1 k0 k1
   obtain ⟨k0,k1,-,-⟩:=two_cells N2.out
   go_wp2_with fail
   refine Calls.mono (Hs2.out trivial _ B2.out) ?_
   rintro e w3 ⟨rfl,hb3⟩
   have B3:=Lib.hid (B2.out.trans (hb3.mono B2.out.size))
   clear hb3 Hs2 B2 N2 k0 k1
   go_wp2_with fail
   go_ret3
   exact ⟨rfl,B3.out⟩
  ·have h2':(18:Int) < t.size:=by omega
   obtain rfl:ok=false:=by rw [Hv.out]; simp [h2]
   rw [if_neg (by decide)]
   go_enter Tryz.func68,Tryz.ntmps68
   obtain ⟨k0,k1,-,-⟩:=two_cells N0.out
   go_wp2_with fail
   generalize w.alloc (.cells #[.string s,.string t] 30)=W0 at *
   clear k0 k1
   refine Calls.mono (Ha.out _) ?_
   rintro e w1 ⟨rfl,hb1⟩
   have B1:=Lib.hid (B0.out.trans (hb1.mono B0.out.size))
   have N1:=Lib.hid (heap_kept N0.out hb1 nr_)
   clear hb1 Ha B0 N0
   obtain ⟨k0,k1,-,-⟩:=two_cells N1.out
   go_wp2_with fail
   go_ret3
   exact ⟨rfl,B1.out⟩
 ·have h1':(18:Int) < s1.size:=by omega
  obtain rfl:ok=false:=by rw [Hv.out]; simp [h1]
  rw [if_neg (by decide)]
  go_enter Tryz.func68,Tryz.ntmps68
  obtain ⟨k0,k1,-,-⟩:=two_cells N0.out
  go_wp2_with fail
  generalize w.alloc (.cells #[.string s,.string t] 30)=W0 at *
  clear k0 k1
  refine Calls.mono (Ha.out _) ?_
  rintro e w1 ⟨rfl,hb1⟩
  have B1:=Lib.hid (B0.out.trans (hb1.mono B0.out.size))
  clear hb1 Ha B0 N0
  go_wp2_with fail
  go_ret3
  exact ⟨rfl,B1.out⟩
set_option maxHeartbeats 4000000 in
theorem lgcd_any (w:World) (a b:Nat) (ha:a≤1000000000) (hb:b≤1000000000) :
  Gives Tryz.prog 69 #[.int .i64 a,.int .i64 b] w (.int .i64 (Nat.gcd a b:Nat)):=by
 unfold Gives
 have Hg:Hid (Nat.gcd a b=Nat.gcd a b):=rfl
 obtain ⟨g,hg⟩:∃ g,Nat.gcd a b=g:=⟨_,rfl⟩
 rw [hg]
 have HG:=Lib.hid hg
 clear hg Hg
 go_enter Tryz.func69,Tryz.ntmps69
 go_wp2_with fail
 go_loopw [0,1] (fun x y wr=>∃ u v:Nat,x = .int .i64 u∧y = .int .i64 v∧u≤1000000000∧v≤1000000000∧Hid (Nat.gcd u v=g)∧Hid (Below w.heap.size w wr)) (fun _ y _=>(intOf y).toNat)
 case atStart=>exact ⟨a,b,rfl,rfl,ha,hb,HG.out,Below.refl _ _⟩
 case round =>
  obtain ⟨u,v,rfl,rfl,hu,hv,HU,HB⟩:=hrel
  by_cases h:v=0
  ·subst h
   have hge:g=u:=by rw [← HU.out,Nat.gcd_zero_right]
   subst hge
   go_wp2
   go_ret
   exact ⟨rfl,HB.out⟩
  ·have hp:(0:Int) < v:=by omega
   have hlt:=Nat.mod_lt u (show 0 < v by omega)
   have Hn:Hid (Nat.gcd v (u % v)=g):=by
    show _=_
    rw [← HU.out,Nat.gcd_comm v,← Nat.gcd_rec,Nat.gcd_comm]
   have hvz:((v:Int) == 0)=false:=by rw [beq_eq_false_iff_ne]; omega
   have em:(u:Int) % (v:Int)=((u % v:Nat):Int):=by omega
   generalize u % v=r at *
   go_wp2_with fail
   go_quiet (fail)
   go_wp2
   go_roundw
   case rel=>exact ⟨v,r,rfl,by rw [em],hv,by omega,Hn.out,below_dn HB.out _⟩
   case measure=>simp [intOf]; omega
end Go.Proofs.YtlomhfknmhaboaaGreatDoor

namespace Go.Proofs.YtlomhfknmhaboaaGreatDoor.LN
def upP:List Int→List Int→Nat
 | p :: ps,k :: ks=>p.toNat ^ k.toNat * upP ps ks
 | _,_=>1
theorem upP_pos:∀ (ps ks:List Int),(∀ p∈ps,0 < p)→0 < upP ps ks
 | [],_,_=>by simp [upP]
 | _ :: _,[],_=>by simp [upP]
 | p :: ps,k :: ks,h=>by
  have hp:=h p List.mem_cons_self
  simp only [upP]
  exact Nat.mul_pos (Nat.pow_pos (by omega)) (upP_pos ps ks fun q hq=>h q (List.mem_cons_of_mem _ hq))
theorem upP_vp:∀ (ps ks:List Int),(∀ p∈ps,0 < p)→((upP ps ks:Nat):Rat)=vp ps ks * ((upP ps (ks.map fun k => -k):Nat):Rat)
 | [],_,_=>by simp [upP,vp]
 | _ :: _,[],_=>by simp [upP,vp]
 | p :: ps,k :: ks,h=>by
  have ih:=upP_vp ps ks fun q hq=>h q (List.mem_cons_of_mem _ hq)
  have hx:=h p List.mem_cons_self
  rw [List.map_cons]
  simp only [upP,vp]
  rw [Rat.natCast_mul,Rat.natCast_mul,ih,natCast_pow,natCast_pow]
  have hp:((p.toNat:Nat):Rat)=(p:Rat):=by
   rw [← Rat.intCast_natCast,Int.toNat_of_nonneg (by omega)]
  rw [hp]
  have hp0:(p:Rat)≠0:=by have:=Rat.intCast_pos.2 hx; grind
  have key:(p:Rat) ^ k.toNat=(p:Rat) ^ k * (p:Rat) ^ (-k).toNat:=by
   rw [← Rat.zpow_natCast,← Rat.zpow_natCast,← Rat.zpow_add hp0]
   congr 1
   omega
  rw [key]
  grind
theorem sg_quot {a b:Nat} {x:Rat} (hb:0 < b) (e:(a:Rat)=x * (b:Rat)):sg x=if a < b then -1 else if a=b then 0 else 1:=by
 have hd:(0:Rat) < (b:Rat):=Rat.natCast_pos.2 hb
 have c1:b < a↔1 < x:=by
  rw [← Rat.natCast_lt_natCast,e]
  constructor
  ·intro h1
   refine Rat.lt_of_mul_lt_mul_right (c:=(b:Rat)) ?_ (Rat.le_of_lt hd)
   rw [Rat.one_mul]; exact h1
  ·intro h1
   have:=Rat.mul_lt_mul_of_pos_right h1 hd
   rw [Rat.one_mul] at this
   exact this
 have c2:a < b↔x < 1:=by
  rw [← Rat.natCast_lt_natCast,e]
  constructor
  ·intro h1
   refine Rat.lt_of_mul_lt_mul_right (c:=(b:Rat)) ?_ (Rat.le_of_lt hd)
   rw [Rat.one_mul]; exact h1
  ·intro h1
   have:=Rat.mul_lt_mul_of_pos_right h1 hd
   rw [Rat.one_mul] at this
   exact this
 rcases Nat.lt_trichotomy a b with h | h | h
 ·rw [if_pos h]; exact sg_low.2 (c2.1 h)
 ·rw [if_neg (by omega),if_pos h]
  refine sg_zero.2 (Rat.le_antisymm (Rat.not_lt.1 fun h2=>?_) (Rat.not_lt.1 fun h2=>?_))
  ·have:=c1.2 h2; omega
  ·have:=c2.2 h2; omega
 ·rw [if_neg (by omega),if_neg (by omega)]; exact sg_pos.2 (c1.1 h)
theorem sz_prod {ps:List Int} {l:List Rat} {D:Nat} (hp:∀ p∈ps,0 < p) (hD:0 < D) (h:∀ q∈l,q.den ∣ D) :
  sz ps l=cmpN (upP ps (l.map (ex D))) (upP ps ((l.map (ex D)).map fun k => -k)):=by
 rw [sz_eq hp hD h,sg_quot (upP_pos ps _ hp) (upP_vp ps _ hp)]
 rfl
theorem upP_snoc:∀ (ps ks:List Int) (p k:Int),ps.length=ks.length→upP (ps ++ [p]) (ks ++ [k])=upP ps ks * p.toNat ^ k.toNat
 | [],[],p,k,_=>by simp [upP]
 | q :: ps,m :: ks,p,k,h=>by
  have ih:=upP_snoc ps ks p k (by simpa using h)
  simp only [List.cons_append,upP]
  rw [ih,Nat.mul_assoc]
theorem upP_le (K:Nat):∀ (ps ks:List Int),(∀ p∈ps,2≤p∧p≤97)→(∀ k∈ks,k≤(K:Int))→upP ps ks < 10 ^ (2 * K * ps.length + 1)
 | [],_,_,_=>by simp [upP]
 | _ :: _,[],_,_=>by
  simp only [upP]
  exact Nat.one_lt_pow (by omega) (by decide)
 | p :: ps,k :: ks,h,h2=>by
  have ih:=upP_le K ps ks (fun q hq=>h q (List.mem_cons_of_mem _ hq)) fun q hq=>h2 q (List.mem_cons_of_mem _ hq)
  obtain ⟨a,b⟩:=h p List.mem_cons_self
  have hk:=h2 k List.mem_cons_self
  simp only [upP]
  have h3:p.toNat ^ k.toNat≤100 ^ k.toNat:=Nat.pow_le_pow_left (by omega) _
  have h4:100 ^ k.toNat≤100 ^ K:=Nat.pow_le_pow_right (by decide) (by omega)
  have h5:(100:Nat) ^ K=10 ^ (2 * K):=by rw [show (100:Nat)=10 ^ 2 from rfl,← Nat.pow_mul]
  rw [h5] at h4
  have e:10 ^ (2 * K * (p :: ps).length + 1)=10 ^ (2 * K) * 10 ^ (2 * K * ps.length + 1):=by rw [← Nat.pow_add]; congr 1; rw [List.length_cons,Nat.mul_add]; omega
  rw [e]
  exact Nat.mul_lt_mul_of_le_of_lt (Nat.le_trans h3 h4) ih (Nat.pow_pos (by decide))
end Go.Proofs.YtlomhfknmhaboaaGreatDoor.LN

namespace Go.Proofs.YtlomhfknmhaboaaGreatDoor
open Go.RowKit
theorem pow_size {P m K:Nat} (hP:P≤100) (hm:2 * m + 1≤K):(dec (P ^ m)).size≤K:=by
 rw [dec_size,dec_length _ _ (by omega)]
 have h1:P ^ m≤100 ^ m:=Nat.pow_le_pow_left hP m
 have h2:(100:Nat) ^ m=10 ^ (2 * m):=by rw [show (100:Nat)=10 ^ 2 from rfl,← Nat.pow_mul]
 have h3:10 ^ (2 * m) < 10 ^ K:=Nat.pow_lt_pow_right (by decide) (by omega)
 omega
structure UpAt (ps ks:List Int) (k u d:Nat):Prop where
 up:u=LN.upP (ps.take k) (ks.take k)
 dn:d=LN.upP (ps.take k) ((ks.map fun z => -z).take k)
 le:∀ z∈ks.take k,z≤500 ∧ -500≤z
theorem take_next {α:Type} (l:List α) (k:Nat) (h:k < l.length):l.take (k + 1)=l.take k ++ [l[k]]:=List.take_succ_eq_append_getElem h
theorem UpAt.next {ps ks:List Int} {k u d:Nat} (h:UpAt ps ks k u d) (h1:k < ps.length) (hk:k < ks.length) (hz:ks[k]≤500 ∧ -500≤ks[k]) :
  UpAt ps ks (k + 1) (u * ps[k].toNat ^ ks[k].toNat) (d * ps[k].toNat ^ (-ks[k]).toNat):=by
 refine ⟨?_,?_,?_⟩
 ·rw [take_next ps k h1,take_next ks k hk,LN.upP_snoc _ _ _ _ (by simp; omega),← h.up]
 ·have hk2:k < (ks.map fun z => -z).length:=by simpa using hk
  rw [take_next ps k h1,take_next _ k hk2,LN.upP_snoc _ _ _ _ (by simp; omega),← h.dn,List.getElem_map]
 ·intro z hz2
  rw [take_next ks k hk] at hz2
  rcases List.mem_append.1 hz2 with h3 | h3
  ·exact h.le z h3
  ·obtain rfl:=List.mem_singleton.1 h3
   exact hz
theorem UpAt.num {ps ks:List Int} {k u d:Nat} (h:UpAt ps ks k u d) (hp:∀ p∈ps,2≤p∧p≤97) (hn:ps.length≤100):Num u∧Num d:=by
 have hl:(ps.take k).length≤100:=by simp; omega
 have hb:2 * 500 * (ps.take k).length + 1≤1000000:=by omega
 have hp':∀ p∈ps.take k,2≤p∧p≤97:=fun p hp1=>hp p (List.mem_of_mem_take hp1)
 refine ⟨?_,?_⟩
 ·rw [h.up]
  exact num_pow (LN.upP_le 500 _ _ hp' fun z hz=>by have:=h.le z hz; omega) (by omega) hb
 ·rw [h.dn]
  refine num_pow (LN.upP_le 500 _ _ hp' fun z hz=>?_) (by omega) hb
  rw [← List.map_take] at hz
  obtain ⟨y,hy,rfl⟩:=List.mem_map.1 hz
  have:=h.le y hy
  omega
set_option maxRecDepth 100000 in
set_option maxHeartbeats 16000000 in
theorem lsign_any (w:World) (ps:List Int) (a0 a1:Option Addr) (c0 c1 D:Nat) (l:List Rat) (A:SizeOk w ps a0 a1 l D) (L:Laid w) :
  Calls Tryz.prog 29 #[.slice a0 ps.length c0,.slice a1 ps.length c1] w fun e w'=>∃ (v:Int) (ok:Bool),e = .returned (.tuple #[.int .i64 v,.bool ok])∧(ok=true→v=LN.sz ps l)∧Below w.heap.size w w':=by
 have HF:=Lib.hid fun (W:World) (hW:Below w.heap.size w W) (q:Rat)=>smallF_any W q (L.below hW)
 have hps:∀ p∈ps,0 < p:=fun p hp=>by have:=A.pr p hp; omega
 have Hz:Hid (∀ u d,UpAt ps (l.map (LN.ex (tden l))) ps.length u d→cmpN u d=LN.sz ps l):=fun u d h=>by
  rw [LN.sz_prod hps (LN.tden_pos' l) fun q hq=>LN.tden_dvd hq,h.up,h.dn]
  rw [List.take_length,List.take_of_length_le (by rw [List.length_map,A.len]; omega),List.take_of_length_le (by rw [List.length_map,List.length_map,A.len]; omega)]
 have Hnum:=Lib.hid fun (k u d:Nat) (h:UpAt ps (l.map (LN.ex (tden l))) k u d)=>h.num A.pr A.n
 have Hnx:=Lib.hid fun (k u d:Nat) (h:UpAt ps (l.map (LN.ex (tden l))) k u d) (h1:k < ps.length) (h2:k < (l.map (LN.ex (tden l))).length)=>h.next h1 h2
 have Hex:Hid (∀ k (h:k < l.length) (h2:k < (l.map (LN.ex (tden l))).length),(l.map (LN.ex (tden l)))[k]=l[k].num * ((tden l / l[k].den:Nat):Int)):=fun k h h2=>by rw [List.getElem_map]; rfl
 have Hdv:Hid (∀ k (h:k < l.length),l[k].den ∣ tden l):=fun k h=>LN.tden_dvd (List.getElem_mem h)
 have Hm:Hid ((l.map (LN.ex (tden l))).length=l.length):=List.length_map ..
 have Htd:=Lib.hid (tden_succ l)
 have Htp:=Lib.hid (tden_pos l)
 have Hall:Hid (l.take ps.length=l):=by show _=_; rw [← A.len,List.take_length]
 have HA:=Lib.hid A
 have hn:=A.n
 clear L hps A
 generalize l.map (LN.ex (tden l))=ks at *
 obtain ⟨n,hnn⟩:∃ n,ps.length=n:=⟨_,rfl⟩
 rw [hnn] at hn Hz Hall ⊢
 have Hn:=Lib.hid hnn
 clear hnn
 go_enter Tryz.func29,Tryz.ntmps29
 go_wp2_with fail
 go_loopw [8,9] (fun cm i wr=>∃ k c:Nat,k≤n∧i = .int .i64 k∧cm = .int .i64 c∧0 < c∧c≤5000∧Hid (c=tden (l.take k))∧Hid (∀ j (h:j < l.length),j < k→smallQ l[j]=true∧l[j].den≤5000)∧Hid (Below w.heap.size w wr)) (fun _ i _=>n - (intOf i).toNat)
 case atStart=>exact ⟨0,1,Nat.zero_le _,rfl,rfl,by omega,by omega,rfl,fun j _ hj=>absurd hj (Nat.not_lt_zero _),Below.refl _ _⟩
 case round =>
  obtain ⟨k,c,hk,rfl,rfl,hc0,hc5,HC,HS,HB⟩:=hrel
  by_cases hlt:k < n
  ·have hlt':(k:Int) < n:=by omega
   have hkl:k < l.length:=by rw [HA.out.len,Hn.out]; exact hlt
   obtain ⟨b,off,rfl,hb,hcells⟩:=HA.out.rl.open (by rw [cellsQ_length]; omega)
   obtain ⟨x0,x1⟩:=cellsS_rd hcells k (by rw [List.length_map]; exact hkl)
   rw [← HB.out.cell (p:=⟨b,off + k * 2,none⟩) hb,qs_getD _ k hkl] at x0
   rw [← HB.out.cell (p:=⟨b,off + k * 2 + 1,none⟩) hb,qs_getD _ k hkl] at x1
   have Hst:=Lib.hid (Htd.out k hkl)
   have HS2:Hid (smallQ l[k]=true→l[k].den≤5000→∀ j (h:j < l.length),j < k + 1→smallQ l[j]=true∧l[j].den≤5000):=fun h1 h2 j hj hjk=>by
    rcases Nat.lt_or_ge j k with h | h
    ·exact HS.out j hj h
    ·obtain rfl:j=k:=by omega
     exact ⟨h1,h2⟩
   clear hcells
   have hd0:=l[k].den_pos
   simp only [qs] at x0 x1
   generalize l[k]=q at *
   have Hf:=HF.out wr HB.out q
   unfold fr fv at Hf
   by_cases hs:smallQ q=true
   ·rw [if_pos hs] at Hf
    have Hf:=Lib.hid Hf
    have hnd:=small_num hs
    go_wp2_with fail
    refine Calls.mono Hf.out ?_
    rintro e w2 ⟨rfl,hb2⟩
    have B2:=Lib.hid (HB.out.trans (hb2.mono HB.out.size))
    clear hb2 Hf x0 x1
    by_cases h5:q.den≤5000
    ·have h5':¬ (5000:Int) < q.den:=by omega
     have Hg:=Lib.hid fun W=>lgcd_any W c q.den (by omega) (by omega)
     have hg0:0 < Nat.gcd c q.den:=Nat.gcd_pos_of_pos_left _ hc0
     have hlq:=lcm_quot c q.den (by omega)
     have hlp:=Nat.lcm_pos hc0 hd0
     have hle:Nat.lcm c q.den≤5000 * 5000:=by
      rw [← hlq]
      exact Nat.mul_le_mul (Nat.le_trans (Nat.div_le_self _ _) hc5) h5
     rw [← HC.out] at Hst
     generalize Nat.lcm c q.den=m at *
     generalize Nat.gcd c q.den=g at *
     have HS3:=Lib.hid (HS2.out hs h5)
     generalize q.den=y at *
     obtain ⟨r,hr⟩:∃ r,c / g=r:=⟨_,rfl⟩
     have hr5:r≤5000:=by rw [← hr]; exact Nat.le_trans (Nat.div_le_self _ _) hc5
     have er:(c:Int) / (g:Int)=(r:Int):=by rw [← Int.natCast_ediv,hr]
     have hm1:(r:Int) * (y:Int)=(m:Int):=by rw [← Int.natCast_mul,← hr,hlq]
     clear hr
     have hgz:((g:Int) == 0)=false:=by rw [beq_eq_false_iff_ne]; omega
     clear hlq
     go_wp2_with fail
     refine Calls.mono (Hg.out _) ?_
     rintro e w3 ⟨rfl,hb3⟩
     have B3:=Lib.hid (B2.out.trans (hb3.mono B2.out.size))
     clear hb3 Hg B2
     by_cases hm5:m≤5000
     ·have hm5':¬ (5000:Int) < m:=by omega
      go_wp2
      go_roundw
      case rel=>exact ⟨k + 1,m,by omega,by go_num,rfl,hlp,hm5,Hst.out.symm,HS3.out,B3.out⟩
      case measure=>simp [intOf]; omega
     ·have hm5':(5000:Int) < m:=by omega
      go_wp2
      go_ret2
      exact ⟨0,false,rfl,by simp,B3.out⟩
    ·have h5':(5000:Int) < q.den:=by omega
     go_wp2
     go_ret2
     exact ⟨0,false,rfl,by simp,B2.out⟩
   ·rw [if_neg hs] at Hf
    have Hf:=Lib.hid Hf
    go_wp2_with fail
    refine Calls.mono Hf.out ?_
    rintro e w2 ⟨rfl,hb2⟩
    have B2:=Lib.hid (HB.out.trans (hb2.mono HB.out.size))
    clear hb2 Hf x0 x1
    go_wp2
    go_ret2
    exact ⟨0,false,rfl,by simp,B2.out⟩
  ·obtain rfl:k=n:=by omega
   rw [Hall.out] at HC
   clear Htd Htp Hall
   go_wp2_with fail
   go_loopw [6,7,13] (fun up dn i wr=>∃ j u d:Nat,j≤k∧i = .int .i64 j∧up = .string (dec u)∧dn = .string (dec d)∧Hid (UpAt ps ks j u d)∧Hid (Below w.heap.size w wr)) (fun _ _ i _=>k - (intOf i).toNat)
   case atStart=>exact ⟨0,1,1,Nat.zero_le _,rfl,by rw [dec_one],by rw [dec_one],⟨by simp [LN.upP],by simp [LN.upP],by simp⟩,HB.out⟩
   case round =>
    obtain ⟨j,u,d,hj,rfl,rfl,rfl,HU,HB⟩:=hrel
    by_cases hlt:j < k
    ·have hlt':(j:Int) < k:=by omega
     have hkl:j < l.length:=by rw [HA.out.len,Hn.out]; exact hlt
     have hkp:j < ps.length:=by rw [Hn.out]; exact hlt
     have hkk:j < ks.length:=by rw [Hm.out]; exact hkl
     obtain ⟨b,off,rfl,hb,hcells⟩:=HA.out.rl.open (by rw [cellsQ_length]; omega)
     obtain ⟨x0,x1⟩:=cellsS_rd hcells j (by rw [List.length_map]; exact hkl)
     rw [← HB.out.cell (p:=⟨b,off + j * 2,none⟩) hb,qs_getD _ j hkl] at x0
     rw [← HB.out.cell (p:=⟨b,off + j * 2 + 1,none⟩) hb,qs_getD _ j hkl] at x1
     obtain ⟨bp,op,rfl,hbp,hcp⟩:=HA.out.rp.open (by rw [ints_length]; omega)
     have Hcp:Hid (w.cell? ⟨bp,op + j,none⟩=some (.int .i64 ps[j])):=hcp j _ (ints_get ps j hkp)
     have Hpr:=Lib.hid (HA.out.pr ps[j] (List.getElem_mem hkp))
     obtain ⟨hs,h5⟩:=HS.out j hkl hlt
     have Hks:=Lib.hid (Hex.out j hkl hkk)
     have Hnx2:=Lib.hid (Hnx.out j u d HU.out hkp hkk)
     have hdv:=Hdv.out j hkl
     rw [← HC.out] at hdv Hks
     obtain ⟨hu,hd⟩:=Hnum.out j u d HU.out
     have hd0:=l[j].den_pos
     have hnd:=small_num hs
     clear hcells hcp
     simp only [qs] at x0 x1
     generalize l[j]=q at *
     have Hf:=HF.out wr HB.out q
     unfold fr fv at Hf
     rw [if_pos hs] at Hf
     have Hf:=Lib.hid Hf
     go_wp2_with fail
     refine Calls.mono Hf.out ?_
     rintro e w2 ⟨rfl,hb2⟩
     have B2:=Lib.hid (HB.out.trans (hb2.mono HB.out.size))
     clear hb2 Hf x0 x1
     have hcq:(c / q.den:Nat)≤c:=Nat.div_le_self _ _
     have ecq:(c:Int) / (q.den:Int)=((c / q.den:Nat):Int):=(Int.natCast_ediv _ _).symm
     generalize c / q.den=f at *
     generalize q.den=y at *
     have hyz:((y:Int) == 0)=false:=by rw [beq_eq_false_iff_ne]; omega
     generalize q.num=x at *
     by_cases g1:(5000:Int) < x
     ·go_wp2
      go_ret2
      exact ⟨0,false,rfl,by simp,B2.out⟩
     ·by_cases g2:x < -5000
      ·go_wp2
       go_ret2
       exact ⟨0,false,rfl,by simp,B2.out⟩
      ·have hf5:f≤5000:=by omega
       obtain ⟨z,hz⟩:∃ z,x * (f:Int)=z:=⟨_,rfl⟩
       have hzb:z.natAbs≤25000000:=by
        rw [← hz,Int.natAbs_mul,Int.natAbs_natCast]
        exact Nat.mul_le_mul (show x.natAbs≤5000 by omega) hf5
       rw [hz] at Hks
       by_cases g3:(500:Int) < z
       ·go_wp2
        go_ret2
        exact ⟨0,false,rfl,by simp,B2.out⟩
       ·by_cases g4:z < -500
        ·go_wp2
         go_ret2
         exact ⟨0,false,rfl,by simp,B2.out⟩
        ·rw [Hks.out] at Hnx2
         have Hn3:=Lib.hid (Hnx2.out ⟨by omega,by omega⟩)
         clear Hks Hnx2
         have cp:=Hcp.out
         have hpr:=Hpr.out
         rw [← B2.out.cell (p:=⟨bp,op + j,none⟩) hbp] at cp
         clear Hcp Hpr
         generalize ps[j]=pj at *
         obtain ⟨P,rfl⟩:∃ P:Nat,pj=P:=⟨pj.toNat,by omega⟩
         obtain ⟨m,hm⟩:∃ m,z.natAbs=m:=⟨_,rfl⟩
         have hmx:max z (-z)=(m:Int):=by omega
         have hm5:m≤500:=by omega
         have HOf:=Lib.hid fun W=>refOf_any W P (by omega)
         have hps:=pow_size (P:=P) (m:=m) (K:=5000) (by omega) (by omega)
         have HPw:=Lib.hid fun W=>refPower_any W P m (by omega) 5000 (by decide) (by decide) hps (by omega)
         have Hmu:=Lib.hid fun W=>refMul_any W u (P ^ m) hu (Nat.le_trans hps (by decide))
         have Hmd:=Lib.hid fun W=>refMul_any W d (P ^ m) hd (Nat.le_trans hps (by decide))
         clear hps
         by_cases g5:0 < z
         ·have Hup:Hid (UpAt ps ks (j + 1) (u * P ^ m) d):=by
           have:=Hn3.out
           rw [show (-z).toNat=0 by omega,show z.toNat=m by omega,Int.toNat_natCast,Nat.pow_zero,Nat.mul_one] at this
           exact this
          clear Hn3 Hmd
          go_wp2_with fail
          refine Calls.mono (HOf.out _) ?_
          rintro e w3 ⟨rfl,hb3⟩
          have B3:=Lib.hid (B2.out.trans (hb3.mono B2.out.size))
          clear hb3 B2 HOf cp
          go_wp2_with fail
          refine Calls.mono (HPw.out _) ?_
          rintro e w4 ⟨rfl,hb4⟩
          have B4:=Lib.hid (B3.out.trans (hb4.mono B3.out.size))
          clear hb4 B3 HPw
          go_wp2_with fail
          refine Calls.mono (Hmu.out _) ?_
          rintro e w5 ⟨rfl,hb5⟩
          have B5:=Lib.hid (B4.out.trans (hb5.mono B4.out.size))
          clear hb5 B4 Hmu
          go_wp2
          go_roundw
          case rel=>exact ⟨j + 1,_,_,by omega,by go_num,rfl,rfl,Hup.out,B5.out⟩
          case measure=>simp [intOf]; omega
         ·have Hup:Hid (UpAt ps ks (j + 1) u (d * P ^ m)):=by
           have:=Hn3.out
           rw [show (-z).toNat=m by omega,show z.toNat=0 by omega,Int.toNat_natCast,Nat.pow_zero,Nat.mul_one] at this
           exact this
          clear Hn3 Hmu
          go_wp2_with fail
          refine Calls.mono (HOf.out _) ?_
          rintro e w3 ⟨rfl,hb3⟩
          have B3:=Lib.hid (B2.out.trans (hb3.mono B2.out.size))
          clear hb3 B2 HOf cp
          go_wp2_with fail
          refine Calls.mono (HPw.out _) ?_
          rintro e w4 ⟨rfl,hb4⟩
          have B4:=Lib.hid (B3.out.trans (hb4.mono B3.out.size))
          clear hb4 B3 HPw
          go_wp2_with fail
          refine Calls.mono (Hmd.out _) ?_
          rintro e w5 ⟨rfl,hb5⟩
          have B5:=Lib.hid (B4.out.trans (hb5.mono B4.out.size))
          clear hb5 B4 Hmd
          go_wp2
          go_roundw
          case rel=>exact ⟨j + 1,_,_,by omega,by go_num,rfl,rfl,Hup.out,B5.out⟩
          case measure=>simp [intOf]; omega
    ·obtain rfl:j=k:=by omega
     have Hcm:=Lib.hid fun W=>refCmp_any W u d
     have Hval:=Lib.hid (Hz.out u d HU.out)
     generalize cmpN u d=r at *
     go_wp2_with fail
     refine Calls.mono (Hcm.out _) ?_
     rintro e w3 ⟨rfl,hb3⟩
     have B3:=Lib.hid (HB.out.trans (hb3.mono HB.out.size))
     clear hb3 Hcm
     go_wp2
     go_ret2
     exact ⟨r,true,rfl,fun _=>Hval.out,B3.out⟩
end Go.Proofs.YtlomhfknmhaboaaGreatDoor

namespace Go.Proofs.YtlomhfknmhaboaaGreatDoor.RY
open Go Go.Sort Go.Proofs.YtlomhfknmhaboaaGreatDoor
section
variable {P:Program} {ops:Array Oper} {md:Region.Mode} {C:World→Prop}
def noEnter:Op→Bool
 | .move _ | .assign _ | .load _ _ | .fieldAddr _ _ _ | .indexAddr _ _ _ | .extract _ _ | .binOp _ _ _ _ _ | .convert _ _ _=>true
 | .call c=>match c.callee with
  | .builtin .min | .builtin .max | .builtin .len=>true
  | _=>false
 | _=>false
theorem value_no_enter {s:Sem Value} {w w':World} {f:FuncId} {args:Array Value} (h:(do pure (Next.value (← s)):Sem Next).run P w = .ok (.enter f args) w'):False:=by
 simp only [Sem.run_bind,Sem.run_pure] at h
 cases hs:s.run P w with
 | ok v w1=>rw [hs] at h; simp [Result.andThen] at h
 | halt x w1=>rw [hs] at h; simp [Result.andThen] at h
theorem no_enter {o:Oper} {a:Act} {w w':World} {f:FuncId} {args:Array Value} (ho:noEnter o.op=true) (h:(execOp a.eval o).run P w = .ok (.enter f args) w'):False:=by
 have cases5:(∃ x,o.op = .move x)∨(∃ x,o.op = .assign x)∨(∃ t x,o.op = .load t x)∨(∃ t x k,o.op = .fieldAddr t x k)∨(∃ t x y,o.op = .indexAddr t x y)∨(∃ x k,o.op = .extract x k)∨(∃ b t x y r,o.op = .binOp b t x y r)∨(∃ s d x,o.op = .convert s d x)∨(∃ c,o.op = .call c):=by
  cases hop:o.op <;> rw [hop] at ho <;> first | (simp [noEnter] at ho; done) | simp
 rcases cases5 with ⟨x,hop⟩ | ⟨x,hop⟩ | ⟨t,x,hop⟩ | ⟨t,x,k,hop⟩ | ⟨t,x,y,hop⟩ | ⟨x,k,hop⟩ | ⟨b,t,x,y,r,hop⟩ | ⟨s,d,x,hop⟩ | ⟨c,hop⟩
 ·rw [BigFrame.run_move x hop] at h; cases h
 ·rw [BigFrame.run_assign x hop] at h; cases h
 ·unfold execOp at h; rw [hop] at h; exact value_no_enter h
 ·unfold execOp at h; rw [hop] at h; exact value_no_enter h
 ·unfold execOp at h; rw [hop] at h; exact value_no_enter h
 ·unfold execOp at h; rw [hop] at h; exact value_no_enter h
 ·unfold execOp at h; rw [hop] at h; exact value_no_enter h
 ·unfold execOp at h; rw [hop] at h; exact value_no_enter h
 ·rw [hop] at ho
  unfold execOp at h
  rw [hop] at h
  unfold noEnter at ho
  simp only at ho h
  unfold resolve at h
  cases hc:c.callee with
  | value x=>rw [hc] at ho; cases ho
  | invoke x y=>rw [hc] at ho; cases ho
  | builtin b =>
   rw [hc] at ho h
   simp only [Sem.run_bind,Sem.run_pure,Result.andThen_ok,invoke] at h
   cases b <;> first | (simp at ho; done) | (unfold builtin at h; exact value_no_enter h)
theorem still_of_quiet {o:Oper} {a:Act} {w:World} {v:Value} (ho:noEnter o.op=true) (h:o.quietAt P a C w v) {K:Act→World→Prop} (hk:K (a.put o.dst v) w):o.wp P a w K (fun _ _ _=>False):=by
 unfold Oper.quietAt at h
 unfold Oper.wp
 have hne:=@no_enter P o a w
 generalize (execOp a.eval o).run P w=r at *
 cases r with
 | ok n w' =>
  cases n <;> simp only [Oper.quietUpon] at h <;> simp only [Oper.upon]
  case value u=>obtain ⟨rfl,rfl⟩:=h; exact hk
  case skip=>obtain ⟨rfl,rfl⟩:=h; exact hk
  case enter f args=>exact (hne ho rfl).elim
 | halt x w'=>simp only [Oper.quietUpon] at h
def safeW (C:World→Prop) (s:Nat) (listed:Array Bool) (w:World):Prop:=listed.getD s false=true∨C w
def anyR (P:Program) (md:Region.Mode) (ops:Array Oper) (C:World→Prop) (s:Nat) (Q:Act→World→Prop):Nat→Array Bool→Act→World→Prop
 | 0,listed,a,w=>Region.ready md ops listed=[]∧Q a w
 | f + 1,listed,a,w=>Region.ready md ops listed≠[]∧∀ i∈Region.ready md ops listed,
   wpOp P ops (fun _ _ _=>False) i (fun a' w'=>safeW C s (listed.setIfInBounds i true) w'∧anyR P md ops C s Q f (listed.setIfInBounds i true) a' w') a w
theorem wp_weaken {o:Oper} {a:Act} {w:World} {K:Act→World→Prop} {Q':Exit→Act→World→Prop} (h:o.wp P a w K (fun _ _ _=>False)):o.wp P a w K Q':=by
 unfold Oper.wp at *
 generalize (execOp a.eval o).run P w=r at *
 cases r with
 | ok n w' =>
  cases n <;> simp only [Oper.upon] at h ⊢ <;>
   first
    | exact h
    | exact Calls.mono h (fun e w'' he=>by cases e <;> first | exact he | exact he.elim | (obtain ⟨_,_,hf⟩:=he; exact hf.elim))
    | exact Rows.mono h (fun _ _ he=>he)
 | halt x w'=>cases x <;> simp only [Oper.upon] at h <;> exact h.elim
theorem wpOp_weaken {i:Nat} {a:Act} {w:World} {K K':Act→World→Prop} {Q':Exit→Act→World→Prop} (hk:∀ a w,K a w→K' a w) (h:wpOp P ops (fun _ _ _=>False) i K a w):wpOp P ops Q' i K' a w:=by
 unfold wpOp at *
 split
 ·rename_i ho; simp only [ho] at h; exact hk _ _ h
 ·rename_i o ho
  simp only [ho] at h
  split
  ·rename_i hw
   simp only [hw,if_true] at h
   rcases h with h | ⟨_,_,_,hf⟩
   ·exact .inl (Oper.wp_mono hk (wp_weaken h))
   ·exact hf.elim
  ·rename_i hw; simp only [hw] at h; exact hk _ _ h
theorem wpOp_strong {i:Nat} {a:Act} {w:World} {K:Act→World→Prop} {Q':Exit→Act→World→Prop} (hq:∀ e a w,Q' e a w→e = .normal) (h:wpOp P ops Q' i K a w):wpOp P ops (fun _ _ _=>False) i K a w:=by
 have hout:¬ LetsOut Q':=fun ⟨a,w,h⟩=>by have:=hq _ _ _ h; cases this
 unfold wpOp at *
 split
 ·rename_i ho; simp only [ho] at h; exact h
 ·rename_i o ho
  simp only [ho] at h
  split
  ·rename_i hw
   simp only [hw,if_true] at h
   rcases h with h | ⟨_,h⟩
   ·left
    unfold Oper.wp at *
    generalize (execOp a.eval o).run P w=r at *
    cases r with
    | ok n w' =>
     cases n <;> simp only [Oper.upon] at h ⊢ <;>
      first
       | exact h
       | exact Calls.mono h (fun e w'' he=>by cases e <;> first | exact he | (have:=hq _ _ _ he; cases this) | exact absurd he hout)
       | exact Rows.mono h (fun _ _ he=>he)
    | halt x w'=>cases x <;> simp only [Oper.upon] at h <;> first | exact h.elim | (have:=hq _ _ _ h; cases this)
   ·exact absurd h hout
  ·rename_i hw; simp only [hw] at h; exact h
theorem anyR_any {s:Nat} {Q:Act→World→Prop} {Q':Exit→Act→World→Prop} (hQ:∀ a w,Q a w→Q' .normal a w) :
  ∀ (f:Nat) (listed:Array Bool) (a:Act) (w:World),anyR P md ops C s Q f listed a w→wpAny P md ops Q' f listed a w
 | 0,_,_,_,h=>⟨h.1,hQ _ _ h.2⟩
 | f + 1,_,_,_,h=>⟨fun h0=>absurd h0 h.1,fun i hi=>wpOp_weaken (fun a' w' h'=>anyR_any hQ f _ a' w' h'.2) (h.2 i hi)⟩
structure RInv (md:Region.Mode) (ops:Array Oper) (listed:Array Bool):Prop where
 size:listed.size=ops.size
 closed:∀ j oj,ops[j]?=some oj→listed.getD j false=true→∀ e∈oj.after,Region.binds md e=true→listed.getD e.on false=true
theorem RInv.set {i:Nat} {listed:Array Bool} (inv:RInv md ops listed) (hi:i∈Region.ready md ops listed):RInv md ops (listed.setIfInBounds i true):=by
 obtain ⟨_,oi,hoi,hall⟩:=mem_ready.1 hi
 refine ⟨by simp [inv.size],fun j oj hj hl e he hb=>?_⟩
 by_cases hij:i=j
 ·subst hij
  have:oj=oi:=Option.some.inj (hj.symm.trans hoi)
  subst this
  exact getD_set_true (hall e he hb)
 ·rw [getD_set_ne false hij] at hl
  exact getD_set_true (inv.closed j oj hj hl e he hb)
def reachB (md:Region.Mode) (ops:Array Oper):Nat→Nat→Nat→Bool
 | 0,_,_=>false
 | f + 1,s,i=>match ops[s]? with
  | some o=>o.after.any fun e=>Region.binds md e && (e.on == i || reachB md ops f e.on i)
  | none=>false
theorem reach_listed {listed:Array Bool} (inv:RInv md ops listed):∀ (f s i:Nat),reachB md ops f s i=true→listed.getD s false=true→listed.getD i false=true
 | 0,_,_,h,_=>by cases h
 | f + 1,s,i,h,hs=>by
  unfold reachB at h
  split at h
  ·rename_i o ho
   obtain ⟨e,he,hb⟩:=Array.any_eq_true'.1 h
   simp only [Bool.and_eq_true,Bool.or_eq_true,beq_iff_eq] at hb
   have hl:=inv.closed s o ho hs e he hb.1
   rcases hb.2 with h2 | h2
   ·rw [← h2]; exact hl
   ·exact reach_listed inv f e.on i h2 hl
  ·cases h
def ReadsIn (P:Program) (ops:Array Oper) (md:Region.Mode) (C:World→Prop) (s i:Nat) (o:Oper) (v:Value) (a:Act):Prop :=
 (reachB md ops 4 s i=true∧YieldsIn P ops C o v a)∨YieldsIn P ops (fun _=>True) o v a
theorem ReadsIn.of_same {s i:Nat} {o:Oper} {v:Value} {a a':Act} (hy:ReadsIn P ops md C s i o v a) (he:execOp a'.eval o=execOp a.eval o)
  (hw:Region.wanted o (yielded ops a'.tmps)=Region.wanted o (yielded ops a.tmps)):ReadsIn P ops md C s i o v a' :=
 hy.imp (fun ⟨h1,h2⟩=>⟨h1,h2.of_same he hw⟩) (fun h=>h.of_same he hw)
theorem reads_op {s i:Nat} {o:Oper} {v:Value} {a:Act} {w:World} {listed:Array Bool} (hi:ops[i]?=some o) (hne:noEnter o.op=true) (inv:RInv md ops listed) (hr:i∈Region.ready md ops listed) (hs:safeW C s listed w)
  (hy:ReadsIn P ops md C s i o v a) {K:Act→World→Prop} (hk:K (a.put o.dst v) w):wpOp P ops (fun _ _ _=>False) i K a w:=by
 have key:∀ D:World→Prop,D w→YieldsIn P ops D o v a→wpOp P ops (fun _ _ _=>False) i K a w:=fun D hD h=>by
  unfold wpOp
  simp only [hi]
  rcases h with ⟨h1,h2⟩ | ⟨h1,rfl⟩
  ·simp only [h1,if_true]
   exact .inl (still_of_quiet hne (h2 w hD) hk)
  ·simp only [h1,Bool.false_eq_true,if_false]
   exact hk
 rcases hy with ⟨hw,h⟩ | h
 ·refine key C ?_ h
  rcases hs with hs | hs
  ·have:=reach_listed inv 4 s i hw hs
   rw [getD_both (mem_ready.1 hr).1] at this
   cases this
  ·exact hs
 ·exact key _ trivial h
theorem wpOp_put {j:Nat} {oi oj:Oper} {v:Value} (hj:ops[j]?=some oj) (hap:oi.apart ops oj=true)
  (hsi:∀ cs b,oi.op ≠ .select cs b) (hsj:∀ cs b,oj.op ≠ .select cs b) {s i:Nat} {K:Act→World→Prop} {a:Act} {w:World}
  (hy:ReadsIn P ops md C s i oi v a) (h:wpOp P ops (fun _ _ _=>False) j K (a.put oi.dst v) w) :
  wpOp P ops (fun _ _ _=>False) j (fun a' w'=>ReadsIn P ops md C s i oi v a'∧K (a'.put oi.dst v) w') a w:=by
 obtain ⟨h1,h2,h3⟩:=Oper.apart_spec hap
 have keep:∀ (a:Act),ReadsIn P ops md C s i oi v a→∀ u,ReadsIn P ops md C s i oi v (a.put oj.dst u):=fun a hy u =>
  hy.of_same (execOp_put oi hsi a oj.dst u h3) (wanted_put oi a oj.dst u h3)
 have keepd:∀ d,ReadsIn P ops md C s i oi v ({ a with defers:=d :: a.defers }:Act):=fun d=>hy.of_same rfl rfl
 unfold wpOp at *
 simp only [hj] at *
 rw [wanted_put oj a oi.dst v h1] at h
 split
 ·rename_i hw
  simp only [hw,if_true] at h
  left
  rcases h with h | ⟨_,_,_,hf⟩
  ·unfold Oper.wp at *
   rw [execOp_put oj hsj a oi.dst v h1] at h
   generalize (execOp a.eval oj).run P w=r at *
   cases r with
   | ok n w' =>
    cases n <;> simp only [Oper.upon] at h ⊢
    case value u=>exact ⟨keep a hy u,by rw [← Act.put_comm a v u h2]; exact h⟩
    case skip=>exact ⟨keep a hy undef,by rw [← Act.put_comm a v undef h2]; exact h⟩
    case defer d =>
     refine ⟨keep _ (keepd d) undef,?_⟩
     rw [Act.put_defers] at h
     rw [← Act.put_comm _ v undef h2]
     exact h
    case enter f args =>
     exact Calls.mono h (fun e w'' he=>by
      cases e
      case returned u=>exact ⟨keep a hy u,by rw [← Act.put_comm a v u h2]; exact he⟩
      case panicked c=>exact he
      case outgrown=>obtain ⟨_,_,hf⟩:=he; exact hf.elim)
    case row row args=>exact Rows.mono h (fun u w'' he=>⟨keep a hy u,by rw [← Act.put_comm a v u h2]; exact he⟩)
    all_goals exact h
   | halt x w'=>cases x <;> simp only [Oper.upon] at h <;> exact h.elim
  ·exact hf.elim
 ·rename_i hw
  simp only [hw] at h
  exact ⟨keep a hy _,by rw [← Act.put_comm a v undef h2]; exact h⟩
theorem anyR_first {s i:Nat} {oi:Oper} {v:Value} {Q:Act→World→Prop} (hi:ops[i]?=some oi) (his:i≠s) (hne:noEnter oi.op=true) (hsel:∀ (j:Nat) (o:Oper) cs b,ops[j]?=some o→o.op ≠ .select cs b) :
  ∀ (f:Nat) (listed:Array Bool) (a:Act) (w:World),RInv md ops listed →
   (∀ j oj,ops[j]?=some oj→j≠i→listed.getD j true=false→(∀ e∈oj.after,Region.binds md e=true→e.on≠i)→oi.apart ops oj=true) →
   i∈Region.ready md ops listed→ReadsIn P ops md C s i oi v a→safeW C s listed w →
   anyR P md ops C s Q f (listed.setIfInBounds i true) (a.put oi.dst v) w→anyR P md ops C s Q (f + 1) listed a w:=by
 intro f
 induction f with
 | zero =>
  intro listed a w inv _ hr hy hs H
  refine ⟨fun h=>(by rw [h] at hr; cases hr),fun j hj=>?_⟩
  by_cases hji:j=i
  ·subst hji
   exact reads_op hi hne inv hr hs hy ⟨hs.imp (fun h=>getD_set_true h) id,H⟩
  ·have:=ready_mono hj hji
   rw [H.1] at this
   cases this
 | succ f ih =>
  intro listed a w inv hfree hr hy hs H
  have hun:=(mem_ready.1 hr).1
  refine ⟨fun h=>(by rw [h] at hr; cases hr),fun j hj=>?_⟩
  by_cases hji:j=i
  ·subst hji
   exact reads_op hi hne inv hr hs hy ⟨hs.imp (fun h=>getD_set_true h) id,H⟩
  ·have h1:=H.2 j (ready_mono hj hji)
   obtain ⟨hjun,oj,hoj,hall⟩:=mem_ready.1 hj
   have hnot:∀ e∈oj.after,Region.binds md e=true→e.on≠i:=fun e he hb heq=>by
    have h1:=hall e he hb
    rw [heq,getD_both hun] at h1
    cases h1
   have h2:=wpOp_put hoj (hfree j oj hoj hji hjun hnot) (fun cs b=>hsel i oi cs b hi) (fun cs b=>hsel j oj cs b hoj) hy h1
   have hfree':∀ k ok,ops[k]?=some ok→k≠i→(listed.setIfInBounds j true).getD k true=false →
     (∀ e∈ok.after,Region.binds md e=true→e.on≠i)→oi.apart ops ok=true:=fun k ok hk hki hun hno=>by
    refine hfree k ok hk hki ?_ hno
    by_cases hjk:j=k
    ·subst hjk; exact hjun
    ·rw [getD_set_ne true hjk] at hun; exact hun
   have hr':=ready_mono hr (Ne.symm hji)
   refine wpOp_mono (fun a' w' h3=>?_) h2
   obtain ⟨hy',hs',H'⟩:=h3
   have hs2:safeW C s (listed.setIfInBounds j true) w':=by
    rcases hs' with h | h
    ·rw [Array.setIfInBounds_comm _ _ (Ne.symm hji),getD_set_ne false his] at h
     exact .inl h
    ·exact .inr h
   refine ⟨hs2,ih (listed.setIfInBounds j true) a' w' (inv.set hj) hfree' hr' hy' hs2 ?_⟩
   rw [Array.setIfInBounds_comm _ _ hji]
   exact H'
def ordB (md:Region.Mode) (ops:Array Oper) (s:Nat):List (Nat×Nat)→Array Bool→Bool
 | [],listed=>(Region.ready md ops listed).isEmpty
 | (k,i) :: l,listed =>
  (if k=0 then decide (Region.ready md ops listed=[i])
  else (Region.ready md ops listed).contains i && Region.free md ops listed i && (match ops[i]? with | some o=>noEnter o.op | none=>false) && decide (i≠s) && (k == 2 || reachB md ops 4 s i)) &&
  ordB md ops s l (listed.setIfInBounds i true)
def walkR (P:Program) (ops:Array Oper) (C:World→Prop) (s:Nat) (Q:Act→World→Prop):List (Nat×Nat)→Bool→Act→World→Prop
 | [],_,a,w=>Q a w
 | (k,i) :: l,b,a,w =>
  if k=0 then wpList P ops (fun e a' w'=>e = .normal∧((b || i == s)=true∨C w')∧walkR P ops C s Q l (b || i == s) a' w') (ops[i]?).toList a w
  else if k=2 then wpQuiet P ops (fun _=>True) (fun a'=>walkR P ops C s Q l b a' w) (ops[i]?).toList a
  else wpQuiet P ops C (fun a'=>walkR P ops C s Q l b a' w) (ops[i]?).toList a
theorem qOp_of_list {i:Nat} {o:Oper} {a:Act} {D:World→Prop} {K:Act→Prop} (hi:ops[i]?=some o) (h:wpQuiet P ops D K (ops[i]?).toList a):qOp P ops D i K a:=by
 rw [hi] at h
 unfold qOp
 simp only [hi]
 exact h
theorem anyR_walk {s:Nat} {Q:Act→World→Prop} (hsel:Region.noSelect ops=true) :
  ∀ (l:List (Nat×Nat)) (listed:Array Bool) (a:Act) (w:World),RInv md ops listed→safeW C s listed w→ordB md ops s l listed=true →
   walkR P ops C s Q l (listed.getD s false) a w→anyR P md ops C s Q l.length listed a w
 | [],listed,a,w,_,_,hB,h=>⟨by simpa [ordB] using hB,h⟩
 | (k,i) :: l,listed,a,w,inv,hs,hB,h=>by
  simp only [ordB,Bool.and_eq_true] at hB
  obtain ⟨hB1,hB2⟩:=hB
  by_cases hk:k=0
  ·subst hk
   simp only [if_true,decide_eq_true_eq] at hB1
   have hr:i∈Region.ready md ops listed:=by rw [hB1]; exact List.mem_singleton.2 rfl
   have hgs:(listed.setIfInBounds i true).getD s false=(listed.getD s false || i == s):=by
    by_cases his:i=s
    ·subst his
     obtain ⟨hun,o,ho,_⟩:=mem_ready.1 hr
     have hlt:i < listed.size:=by rw [inv.size]; exact (Array.getElem?_eq_some_iff.1 ho).1
     simp [hlt]
    ·rw [getD_set_ne false his]
     simp [his]
   refine ⟨by rw [hB1]; simp,fun j hj=>?_⟩
   rw [hB1] at hj
   obtain rfl:=List.mem_singleton.1 hj
   obtain ⟨hun,o,ho,_⟩:=mem_ready.1 hr
   simp only [walkR,if_true,ho,Option.toList] at h
   have h2:wpOp P ops (fun e a' w'=>e = .normal∧((listed.getD s false || j == s)=true∨C w')∧walkR P ops C s Q l (listed.getD s false || j == s) a' w') j (fun a' w'=>((listed.getD s false || j == s)=true∨C w')∧walkR P ops C s Q l (listed.getD s false || j == s) a' w') a w:=by
    unfold wpOp
    simp only [ho]
    simp only [wpList,true_and] at h
    exact h
   have h3:=wpOp_strong (fun e a' w' hq=>hq.1) h2
   refine wpOp_mono (fun a' w' h4=>?_) h3
   have hs2:safeW C s (listed.setIfInBounds j true) w':=by unfold safeW; rw [hgs]; exact h4.1
   exact ⟨hs2,anyR_walk hsel l _ a' w' (inv.set hr) hs2 hB2 (by rw [hgs]; exact h4.2)⟩
  ·rw [if_neg hk] at hB1
   simp only [Bool.and_eq_true,decide_eq_true_eq,Bool.or_eq_true,beq_iff_eq] at hB1
   obtain ⟨⟨⟨⟨hr,hf⟩,hne⟩,his⟩,hw⟩:=hB1
   have hr':i∈Region.ready md ops listed:=by simpa using hr
   obtain ⟨_,o,ho,_⟩:=mem_ready.1 hr'
   have hne':noEnter o.op=true:=by rw [ho] at hne; exact hne
   have hgs:(listed.setIfInBounds i true).getD s false=listed.getD s false:=getD_set_ne false his
   have hs2:safeW C s (listed.setIfInBounds i true) w:=by unfold safeW; rw [hgs]; exact hs
   simp only [walkR,if_neg hk] at h
   have hread:∃ v,ReadsIn P ops md C s i o v a∧walkR P ops C s Q l (listed.getD s false) (a.put o.dst v) w:=by
    by_cases h2:k=2
    ·rw [if_pos h2] at h
     obtain ⟨v,hy,hK⟩:=yieldsIn_of_qOp ho (qOp_of_list ho h)
     exact ⟨v,.inr hy,hK⟩
    ·rw [if_neg h2] at h
     obtain ⟨v,hy,hK⟩:=yieldsIn_of_qOp ho (qOp_of_list ho h)
     exact ⟨v,.inl ⟨hw.resolve_left h2,hy⟩,hK⟩
   obtain ⟨v,hy,hK⟩:=hread
   exact anyR_first ho his hne' (Region.noSelect_spec hsel) l.length listed a w inv (Region.free_spec ho hf) hr' hy hs
    (anyR_walk hsel l _ _ w (inv.set hr') hs2 hB2 (by rw [hgs]; exact hK))
theorem pick_one:∀ (l:List Oper) (i:Nat),(l.toArray[i]?).toList=(l.drop i).take 1
 | [],i=>by simp
 | o :: l,0=>by simp
 | o :: l,i + 1=>by
  have:=pick_one l i
  simpa using this
theorem walkR_read {s i:Nat} {Q:Act→World→Prop} {l:List (Nat×Nat)} {b:Bool} {a:Act} {w:World} {lo:List Oper} (h:wpQuiet P lo.toArray C (fun a'=>walkR P lo.toArray C s Q l b a' w) ((lo.drop i).take 1) a):walkR P lo.toArray C s Q ((1,i) :: l) b a w:=by
 simp only [walkR,pick_one]
 exact h
theorem walkR_any {s i:Nat} {Q:Act→World→Prop} {l:List (Nat×Nat)} {b:Bool} {a:Act} {w:World} {lo:List Oper} (h:wpQuiet P lo.toArray (fun _=>True) (fun a'=>walkR P lo.toArray C s Q l b a' w) ((lo.drop i).take 1) a):walkR P lo.toArray C s Q ((2,i) :: l) b a w:=by
 simp only [walkR,pick_one]
 exact h
theorem walkR_move {s i:Nat} {Q:Act→World→Prop} {l:List (Nat×Nat)} {b:Bool} {a:Act} {w:World} {lo:List Oper}
  (h:wpList P lo.toArray (fun e a' w'=>e = .normal∧((b || i == s)=true∨C w')∧walkR P lo.toArray C s Q l (b || i == s) a' w') ((lo.drop i).take 1) a w):walkR P lo.toArray C s Q ((0,i) :: l) b a w:=by
 simp only [walkR,pick_one]
 exact h
theorem wp_region_readers {id:Nat} {Q:Exit→Act→World→Prop} {a:Act} {w:World} {l:List Oper} (s:Nat) (ord:List (Nat×Nat)) (C:World→Prop) (hm:P.follows .mixedOrders=true)
  (hB:(Region.noSelect l.toArray && decide (ord.length=l.length) && ordB .any l.toArray s ord (Array.replicate l.length false))=true)
  (hC:C { w with drawn:=w.drawn + 1 }) (h:walkR P l.toArray C s (fun a' w'=>Q .normal a' w') ord false a { w with drawn:=w.drawn + 1 }):(Code.region id l.toArray true).wp P Q a w:=by
 simp only [Bool.and_eq_true,decide_eq_true_eq] at hB
 obtain ⟨⟨hsel,hlen⟩,hord⟩:=hB
 refine wp_region_any hm ?_
 have inv0:RInv .any l.toArray (Array.replicate l.length false):=⟨by simp,fun j oj _ hl=>(by rw [getD_replicate_false] at hl; cases hl)⟩
 have H:=anyR_walk (md := .any) hsel ord _ a _ inv0 (.inr hC) hord (by rw [getD_replicate_false]; exact h)
 have:=anyR_any (Q':=Q) (fun a w h=>h) _ _ _ _ H
 rw [hlen] at this
 simpa using this
end
section
variable {P:Program} {ops:Array Oper} {md:Region.Mode} {C:World→Prop}
inductive RTree where
 | nil:RTree
 | rd:Nat→Nat→RTree→RTree
 | mv:Nat→RTree→RTree
 | two:Nat→Nat→RTree→RTree→RTree
def RTree.len:RTree→Nat
 | .nil=>0
 | .rd _ _ t=>t.len + 1
 | .mv _ t=>t.len + 1
 | .two _ _ t _=>t.len + 1
def ordT (md:Region.Mode) (ops:Array Oper) (s:Nat):RTree→Array Bool→Bool
 | .nil,listed=>(Region.ready md ops listed).isEmpty
 | .rd k i t,listed =>
  ((Region.ready md ops listed).contains i && Region.free md ops listed i && (match ops[i]? with | some o=>noEnter o.op | none=>false) && decide (i≠s) && (k == 2 || reachB md ops 4 s i)) &&
  ordT md ops s t (listed.setIfInBounds i true)
 | .mv i t,listed=>decide (Region.ready md ops listed=[i]) && ordT md ops s t (listed.setIfInBounds i true)
 | .two i j t u,listed=>(decide (Region.ready md ops listed=[i,j]) && decide (t.len=u.len)) && (ordT md ops s t (listed.setIfInBounds i true) && ordT md ops s u (listed.setIfInBounds j true))
def walkT (P:Program) (ops:Array Oper) (C:World→Prop) (s:Nat) (Q:Act→World→Prop):RTree→Bool→Act→World→Prop
 | .nil,_,a,w=>Q a w
 | .rd k i t,b,a,w=>if k=2 then wpQuiet P ops (fun _=>True) (fun a'=>walkT P ops C s Q t b a' w) (ops[i]?).toList a else wpQuiet P ops C (fun a'=>walkT P ops C s Q t b a' w) (ops[i]?).toList a
 | .mv i t,b,a,w=>wpList P ops (fun e a' w'=>e = .normal∧((b || i == s)=true∨C w')∧walkT P ops C s Q t (b || i == s) a' w') (ops[i]?).toList a w
 | .two i j t u,b,a,w =>
  wpList P ops (fun e a' w'=>e = .normal∧((b || i == s)=true∨C w')∧walkT P ops C s Q t (b || i == s) a' w') (ops[i]?).toList a w ∧
  wpList P ops (fun e a' w'=>e = .normal∧((b || j == s)=true∨C w')∧walkT P ops C s Q u (b || j == s) a' w') (ops[j]?).toList a w
theorem set_getD {s i:Nat} {listed:Array Bool} (inv:RInv md ops listed) (hr:i∈Region.ready md ops listed):(listed.setIfInBounds i true).getD s false=(listed.getD s false || i == s):=by
 by_cases his:i=s
 ·subst his
  obtain ⟨hun,o,ho,_⟩:=mem_ready.1 hr
  have hlt:i < listed.size:=by rw [inv.size]; exact (Array.getElem?_eq_some_iff.1 ho).1
  simp [hlt]
 ·rw [getD_set_ne false his]
  simp [his]
theorem step_mv {s j:Nat} {K:Act→World→Prop} {listed:Array Bool} {a:Act} {w:World} (inv:RInv md ops listed) (hr:j∈Region.ready md ops listed)
  (h:wpList P ops (fun e a' w'=>e = .normal∧((listed.getD s false || j == s)=true∨C w')∧K a' w') (ops[j]?).toList a w) :
  wpOp P ops (fun _ _ _=>False) j (fun a' w'=>safeW C s (listed.setIfInBounds j true) w'∧K a' w') a w:=by
 obtain ⟨hun,o,ho,_⟩:=mem_ready.1 hr
 simp only [ho,Option.toList] at h
 have h2:wpOp P ops (fun e a' w'=>e = .normal∧((listed.getD s false || j == s)=true∨C w')∧K a' w') j (fun a' w'=>((listed.getD s false || j == s)=true∨C w')∧K a' w') a w:=by
  unfold wpOp
  simp only [ho]
  simp only [wpList,true_and] at h
  exact h
 have h3:=wpOp_strong (fun e a' w' hq=>hq.1) h2
 refine wpOp_mono (fun a' w' h4=>⟨?_,h4.2⟩) h3
 unfold safeW
 rw [set_getD inv hr]
 exact h4.1
theorem anyR_tree {s:Nat} {Q:Act→World→Prop} (hsel:Region.noSelect ops=true) :
  ∀ (l:RTree) (listed:Array Bool) (a:Act) (w:World),RInv md ops listed→safeW C s listed w→ordT md ops s l listed=true →
   walkT P ops C s Q l (listed.getD s false) a w→anyR P md ops C s Q l.len listed a w
 | .nil,listed,a,w,_,_,hB,h=>⟨by simpa [ordT] using hB,h⟩
 | .mv i t,listed,a,w,inv,hs,hB,h=>by
  simp only [ordT,Bool.and_eq_true,decide_eq_true_eq] at hB
  obtain ⟨hB1,hB2⟩:=hB
  have hr:i∈Region.ready md ops listed:=by rw [hB1]; exact List.mem_singleton.2 rfl
  refine ⟨by rw [hB1]; simp,fun j hj=>?_⟩
  rw [hB1] at hj
  obtain rfl:=List.mem_singleton.1 hj
  refine wpOp_mono (fun a' w' h4=>⟨h4.1,anyR_tree hsel t _ a' w' (inv.set hr) h4.1 hB2 ?_⟩) (step_mv inv hr h)
  rw [set_getD inv hr]
  exact h4.2
 | .two i k t u,listed,a,w,inv,hs,hB,h=>by
  simp only [ordT,Bool.and_eq_true,decide_eq_true_eq] at hB
  obtain ⟨⟨hB1,hlen⟩,hB2,hB3⟩:=hB
  have hr:i∈Region.ready md ops listed:=by rw [hB1]; simp
  have hr2:k∈Region.ready md ops listed:=by rw [hB1]; simp
  refine ⟨by rw [hB1]; simp,fun j hj=>?_⟩
  rw [hB1] at hj
  simp only [List.mem_cons,List.not_mem_nil,or_false] at hj
  by_cases hji:j=i
  ·subst hji
   refine wpOp_mono (fun a' w' h4=>⟨h4.1,anyR_tree hsel t _ a' w' (inv.set hr) h4.1 hB2 ?_⟩) (step_mv inv hr h.1)
   rw [set_getD inv hr]
   exact h4.2
  ·have hjk:j=k:=hj.resolve_left hji
   subst hjk
   have:=wpOp_mono (fun a' w' (h4:safeW C s (listed.setIfInBounds j true) w'∧walkT P ops C s Q u (listed.getD s false || j == s) a' w')=>(⟨h4.1,anyR_tree hsel u _ a' w' (inv.set hr2) h4.1 hB3 (by rw [set_getD inv hr2]; exact h4.2)⟩:safeW C s (listed.setIfInBounds j true) w'∧anyR P md ops C s Q u.len (listed.setIfInBounds j true) a' w')) (step_mv inv hr2 h.2)
   rw [← hlen] at this
   exact this
 | .rd k i t,listed,a,w,inv,hs,hB,h=>by
  simp only [ordT,Bool.and_eq_true] at hB
  obtain ⟨hB1,hB2⟩:=hB
  simp only [decide_eq_true_eq,Bool.or_eq_true,beq_iff_eq] at hB1
  obtain ⟨⟨⟨⟨hr,hf⟩,hne⟩,his⟩,hw⟩:=hB1
  have hr':i∈Region.ready md ops listed:=by simpa using hr
  obtain ⟨_,o,ho,_⟩:=mem_ready.1 hr'
  have hne':noEnter o.op=true:=by rw [ho] at hne; exact hne
  have hgs:(listed.setIfInBounds i true).getD s false=listed.getD s false:=getD_set_ne false his
  have hs2:safeW C s (listed.setIfInBounds i true) w:=by unfold safeW; rw [hgs]; exact hs
  simp only [walkT] at h
  have hread:∃ v,ReadsIn P ops md C s i o v a∧walkT P ops C s Q t (listed.getD s false) (a.put o.dst v) w:=by
   by_cases h2:k=2
   ·rw [if_pos h2] at h
    obtain ⟨v,hy,hK⟩:=yieldsIn_of_qOp ho (qOp_of_list ho h)
    exact ⟨v,.inr hy,hK⟩
   ·rw [if_neg h2] at h
    obtain ⟨v,hy,hK⟩:=yieldsIn_of_qOp ho (qOp_of_list ho h)
    exact ⟨v,.inl ⟨hw.resolve_left h2,hy⟩,hK⟩
  obtain ⟨v,hy,hK⟩:=hread
  exact anyR_first ho his hne' (Region.noSelect_spec hsel) t.len listed a w inv (Region.free_spec ho hf) hr' hy hs
   (anyR_tree hsel t _ _ w (inv.set hr') hs2 hB2 (by rw [hgs]; exact hK))
theorem walkT_read {s i:Nat} {Q:Act→World→Prop} {l:RTree} {b:Bool} {a:Act} {w:World} {lo:List Oper} (h:wpQuiet P lo.toArray C (fun a'=>walkT P lo.toArray C s Q l b a' w) ((lo.drop i).take 1) a):walkT P lo.toArray C s Q (.rd 1 i l) b a w:=by
 simp only [walkT,pick_one]
 exact h
theorem walkT_move {s i:Nat} {Q:Act→World→Prop} {l:RTree} {b:Bool} {a:Act} {w:World} {lo:List Oper}
  (h:wpList P lo.toArray (fun e a' w'=>e = .normal∧((b || i == s)=true∨C w')∧walkT P lo.toArray C s Q l (b || i == s) a' w') ((lo.drop i).take 1) a w):walkT P lo.toArray C s Q (.mv i l) b a w:=by
 simp only [walkT,pick_one]
 exact h
theorem walkT_two {s i j:Nat} {Q:Act→World→Prop} {l m:RTree} {b:Bool} {a:Act} {w:World} {lo:List Oper}
  (h1:wpList P lo.toArray (fun e a' w'=>e = .normal∧((b || i == s)=true∨C w')∧walkT P lo.toArray C s Q l (b || i == s) a' w') ((lo.drop i).take 1) a w)
  (h2:wpList P lo.toArray (fun e a' w'=>e = .normal∧((b || j == s)=true∨C w')∧walkT P lo.toArray C s Q m (b || j == s) a' w') ((lo.drop j).take 1) a w):walkT P lo.toArray C s Q (.two i j l m) b a w:=by
 simp only [walkT,pick_one]
 exact ⟨h1,h2⟩
theorem wp_region_tree {id:Nat} {Q:Exit→Act→World→Prop} {a:Act} {w:World} {l:List Oper} (s:Nat) (ord:RTree) (C:World→Prop) (hm:P.follows .mixedOrders=true)
  (hB:(Region.noSelect l.toArray && decide (ord.len=l.length) && ordT .any l.toArray s ord (Array.replicate l.length false))=true)
  (hC:C { w with drawn:=w.drawn + 1 }) (h:walkT P l.toArray C s (fun a' w'=>Q .normal a' w') ord false a { w with drawn:=w.drawn + 1 }):(Code.region id l.toArray true).wp P Q a w:=by
 simp only [Bool.and_eq_true,decide_eq_true_eq] at hB
 obtain ⟨⟨hsel,hlen⟩,hord⟩:=hB
 refine wp_region_any hm ?_
 have inv0:RInv .any l.toArray (Array.replicate l.length false):=⟨by simp,fun j oj _ hl=>(by rw [getD_replicate_false] at hl; cases hl)⟩
 have H:=anyR_tree (md := .any) hsel ord _ a _ inv0 (.inr hC) hord (by rw [getD_replicate_false]; exact h)
 have:=anyR_any (Q':=Q) (fun a w h=>h) _ _ _ _ H
 rw [hlen] at this
 simpa using this
end
end Go.Proofs.YtlomhfknmhaboaaGreatDoor.RY

namespace Go.Proofs.YtlomhfknmhaboaaGreatDoor
open Go.RowKit Go.Proofs.YtlomhfknmhaboaaGreatDoor.RY
set_option maxRecDepth 100000 in
set_option maxHeartbeats 8000000 in
theorem Sign_dec (w:World) (ps:List Int) (a0 a1:Option Addr) (c0 c1:Nat) (la:List Rat) (A:SizeOk w ps a0 a1 la 30) (hp:pcode ps=0) (g:Good ps la) (L:Laid w) :
  Gives Tryz.prog 27 #[.slice a0 ps.length c0,.slice a1 ps.length c1] w (.tuple #[.int .i64 (LN.sz ps la),.int .i64 0]):=by
 unfold Gives
 have hn:=A.n
 have Hc:Hid (Gives Tryz.prog 51 #[.slice a0 ps.length c0,.slice a1 ps.length c1] w (.int .i64 0)):=by
  have:=sizeCheck_any w a0 a1 c0 c1 ps (la.map qs) A.rp A.i64 (by omega) A.rl (by rw [List.length_map,A.len]; omega) (ssz_ok A.sm) L
  rw [List.length_map,A.len] at this
  unfold ccode at this
  rw [if_pos hp,scode_ok A.sm A.len] at this
  exact this
 have Ht:Hid (∀ W,Below w.heap.size w W→Calls Tryz.prog 66 #[.slice a0 ps.length c0,.slice a1 ps.length c1] W fun e w'=>∃ b1 d1 b2 d2,e = .returned (.agg (tcells b1 d1 b2 d2 (tlQ ps la).length (tden la)))∧TermsAt w' (tlQ ps la) b1 b2∧Below W.heap.size W w'):=fun W hW=>by
  have:=terms_ok (c0:=c0) (c:=c1) (A.below hW) (L.below hW)
  rw [A.len] at this
  exact this
 have Hs:Hid (∀ W b1 b2 d1 d2,TermsAt W (tlQ ps la) b1 b2→Below w.heap.size w W→Gives Tryz.prog 67 #[.agg (tcells b1 d1 b2 d2 (tlQ ps la).length (tden la))] W (.int .i64 (LN.sz ps la))):=fun W b1 b2 d1 d2 T hW =>
  sign_dec W b1 b2 d1 d2 _ 101 _ T g.trt (by decide) g.lt (g.dec hn) (L.below hW)
 clear A hp g L hn
 generalize LN.sz ps la=r at *
 generalize ps.length=n at *
 go_enter Tryz.func27,Tryz.ntmps27
 go_wp2_with fail
 refine Calls.mono Hc.out ?_
 rintro e w1 ⟨rfl,hb⟩
 have B1:=Lib.hid hb
 clear hb Hc
 go_wp2_with fail
 refine Calls.mono (Ht.out _ B1.out) ?_
 rintro e w2 ⟨b1,d1,b2,d2,rfl,T,hb⟩
 have B2:=Lib.hid (B1.out.trans (hb.mono B1.out.size))
 have Hs2:=Lib.hid (Hs.out w2 b1 b2 d1 d2 T B2.out)
 clear hb Ht T Hs
 go_wp2_with fail
 refine Calls.mono Hs2.out ?_
 rintro e w3 ⟨rfl,hb⟩
 have B3:=Lib.hid (B2.out.trans (hb.mono B2.out.size))
 clear hb Hs2
 go_wp2_with fail
 go_ret2
 exact ⟨rfl,B3.out⟩
end Go.Proofs.YtlomhfknmhaboaaGreatDoor

namespace Go.Proofs.YtlomhfknmhaboaaGreatDoor
open Go.RowKit
set_option maxHeartbeats 4000000 in
theorem signOf_ok (w:World) (ps:List Int) (a0 a1:Option Addr) (c0 c1:Nat) (l:List Rat) (A:SizeOk w ps a0 a1 l 30) (hp:pcode ps=0) (g:Good ps l) (L:Laid w) :
  Gives Tryz.prog 48 #[.slice a0 ps.length c0,.slice a1 ps.length c1] w (.tuple #[.int .i64 (LN.sz ps l),.bool true]):=by
 unfold Gives
 have Hc:=Lib.hid (lsign_any w ps a0 a1 c0 c1 30 l A L)
 have Hs:=Lib.hid fun W (hW:Below w.heap.size w W)=>Sign_dec W ps a0 a1 c0 c1 l (A.below hW) hp g (L.below hW)
 clear A hp g L
 generalize LN.sz ps l=r at *
 generalize ps.length=n at *
 go_enter Tryz.func48,Tryz.ntmps48
 go_wp2_with fail
 refine Calls.mono Hc.out ?_
 rintro e w1 ⟨v,ok,rfl,hv,hb⟩
 have B1:=Lib.hid hb
 have Hv:=Lib.hid hv
 clear hb Hc hv
 cases ok
 ·go_wp2_with fail
  refine Calls.mono (Hs.out _ B1.out) ?_
  rintro e w2 ⟨rfl,hb⟩
  have B2:=Lib.hid (B1.out.trans (hb.mono B1.out.size))
  clear hb Hs
  go_wp2_with fail
  go_ret2
  exact ⟨rfl,B2.out⟩
 ·obtain rfl:=Hv.out rfl
  go_wp2_with fail
  go_ret2
  exact ⟨rfl,B1.out⟩
theorem part_oneI:mkRat 1 1=((1:Int):Rat):=by decide +kernel
theorem part_moneI:mkRat (-1) 1=((-1:Int):Rat):=by decide +kernel
end Go.Proofs.YtlomhfknmhaboaaGreatDoor

namespace Go.Proofs.YtlomhfknmhaboaaGreatDoor
open Go.RowKit
theorem own_apart {w:World} {B1 B2 s1 s2 n1 n2:Nat} {e1 e2:TypeId} {v1 v2:Value} {x1 x2:List Value} (h1:w.ownsRow B1 e1 s1 v1 n1 x1) (h2:w.ownsRow B2 e2 s2 v2 n2 x2) (hne:e1≠e2) :
  ∀ k,v1.ownBlock=some k→v2.ownBlock≠some k:=by
 intro k hk hk2
 rcases h1.2 with ⟨rfl,_⟩ | ⟨g,cap,cur,rfl,_,hg,_⟩
 ·simp [Value.ownBlock] at hk
 ·rcases h2.2 with ⟨rfl,_⟩ | ⟨g2,cap2,cur2,rfl,_,hg2,_⟩
  ·simp [Value.ownBlock] at hk2
  ·simp only [Value.ownBlock,Option.some.injEq] at hk hk2
   subst hk
   subst hk2
   rw [hg] at hg2
   simp only [Option.some.injEq,Obj.cells.injEq] at hg2
   exact hne hg2.2.1
end Go.Proofs.YtlomhfknmhaboaaGreatDoor

namespace Go.Proofs.YtlomhfknmhaboaaGreatDoor
open Go.RowKit
abbrev PartsD:=(Nat→Int)×(Nat→Nat)
def sizesQ (pl:List PartsD) (n:Nat):List (List Rat):=pl.map fun p=>partsQ p.1 p.2 n
theorem sizesQ_length (pl:List PartsD) (n:Nat):(sizesQ pl n).length=pl.length:=by simp [sizesQ]
theorem sizesQ_all (pl:List PartsD) (n:Nat):∀ l∈sizesQ pl n,l.length=n∧∀ q∈l,Sm 2 q:=by
 intro l hl
 obtain ⟨p,_,rfl⟩:=List.mem_map.1 hl
 exact ⟨partsQ_length ..,partsQ_sm _ _ _⟩
theorem elSz:ElemOf Tryz.prog 33 34 (.slice none 0 0) 1 24:=⟨Tryz.underlying33,info_parts infoS,rfl,by decide⟩
structure OwnL (w:World) (B:Nat) (b:Option Addr) (d:Nat) (n:Nat) (L:List (Option Addr×Nat)) (ls:List (List Rat)):Prop where
 len:L.length=ls.length
 row:w.ownsRow B 34 1 (.slice b L.length d) L.length (L.map fun x => .slice x.1 n x.2)
 each:∀ i (h1:i < L.length) (h2:i < ls.length),OwnQ w B L[i].1 L[i].2 ls[i]
 lens:∀ l∈ls,l.length=n
theorem OwnL.below {w w':World} {B d n:Nat} {b:Option Addr} {L:List (Option Addr×Nat)} {ls:List (List Rat)} (h:OwnL w B b d n L ls) (hb:Below w.heap.size w w'):OwnL w' B b d n L ls :=
 ⟨h.len,own_below h.row hb nr_,fun i h1 h2=>(h.each i h1 h2).below hb nr_,h.lens⟩
theorem OwnL.rdl {w:World} {B d n:Nat} {b:Option Addr} {L:List (Option Addr×Nat)} {ls:List (List Rat)} (h:OwnL w B b d n L ls):RdL w b (ls.map (List.map qs)):=by
 by_cases h0:ls=[]
 ·left; rw [h0]; rfl
 ·have hpos:0 < L.length:=by rw [h.len]; exact List.length_pos_iff.2 h0
  obtain ⟨g,cap,hv,h1,h2,h3,h4,h5⟩:=own_open h.row hpos
  simp only [Value.slice.injEq] at hv
  obtain ⟨rfl,-,rfl⟩:=hv
  refine .inr ⟨g,0,rfl,h2,fun i hi=>?_⟩
  rw [List.length_map] at hi
  have hiL:i < L.length:=by rw [h.len]; exact hi
  refine ⟨L[i].1,L[i].2,?_,?_⟩
  ·rw [Nat.zero_add,h4 i (by omega),List.getElem?_map,List.getElem?_eq_getElem hiL,List.getD_eq_getElem?_getD,List.getElem?_map,List.getElem?_eq_getElem hi]
   simp only [Option.map_some,Option.getD_some,List.length_map]
   rw [h.lens _ (List.getElem_mem hi)]
  ·rw [List.getD_eq_getElem?_getD,List.getElem?_map,List.getElem?_eq_getElem hi]
   exact (h.each i hiL hi).rd
end Go.Proofs.YtlomhfknmhaboaaGreatDoor

namespace Go.Proofs.YtlomhfknmhaboaaGreatDoor
open Go.RowKit Go.Proofs.YtlomhfknmhaboaaGreatDoor.RY
set_option maxRecDepth 100000 in
set_option maxHeartbeats 4000000 in
theorem lawSorts_long (w:World) (nn:Int) (a0:Option Addr) (c0 m:Nat) (h:7 < m) (L:Laid w) :
  Gives Tryz.prog 10 #[.int .u8 nn,.slice a0 m c0] w (.bool true):=by
 unfold Gives
 have Hk:Hid (∀ W,Below w.heap.size w W→Gives Tryz.prog 12 #[] W (.bool true)):=fun W hW=>known_ok W (L.below hW)
 clear L
 have h8:(7:Int) < m:=by omega
 go_enter Tryz.func10,Tryz.ntmps10
 go_wp2_with fail
 refine Calls.mono (Hk.out _ (Below.refl _ _)) ?_
 rintro e w1 ⟨rfl,hb1⟩
 have B1:=Lib.hid hb1
 clear hb1
 go_wp2_with fail
 refine Calls.mono (Hk.out _ B1.out) ?_
 rintro e w2 ⟨rfl,hb2⟩
 have B2:=Lib.hid (B1.out.trans (hb2.mono B1.out.size))
 clear hb2 B1 Hk
 go_wp2_with fail
 go_ret
 exact ⟨rfl,B2.out⟩
theorem OwnL.put {w1 w3:World} {B d n c:Nat} {b a:Option Addr} {L:List (Option Addr×Nat)} {ls:List (List Rat)} {l:List Rat} {v':Value} (h:OwnL w1 B b d n L ls) (ho:OwnQ w1 B a c l) (hl:l.length=n)
  (hown:w3.ownsRow B 34 1 v' (L.length + 1) ((L.map fun x=>Value.slice x.1 n x.2) ++ [.slice a n c])) (hg:(w1.alloc (.cells #[.slice a n c] 34)).grownBy w3 (Value.slice b L.length d).ownBlock) :
  ∃ b' d',v' = .slice b' (L.length + 1) d'∧OwnL w3 B b' d' n (L ++ [(a,c)]) (ls ++ [l]):=by
 obtain ⟨b',d',rfl⟩:=own_form hown
 have hA:Below w1.heap.size w1 (w1.alloc (.cells #[.slice a n c] 34)):=(Below.refl _ _).alloc nr_ _
 have hrow:=own_below h.row hA nr_
 have keep:∀ (a2:Option Addr) (c2:Nat) (l2:List Rat),OwnQ w1 B a2 c2 l2→OwnQ w3 B a2 c2 l2:=fun a2 c2 l2 h2=>by
  have h3:=ownS_own (h2.below hA nr_)
  refine own_ownQ (World.ownsRow.kept h3 hg ?_)
  have hap:=own_apart hrow h3 (by decide)
  cases hv:(Value.slice b L.length d).ownBlock with
  | none=>cases hv2:(Value.slice a2 l2.length c2).ownBlock <;> simp
  | some k=>exact .inr (hap k hv)
 refine ⟨b',d',rfl,?_,?_,?_,?_⟩
 ·simp [h.len]
 ·rw [List.length_append,List.map_append]
  exact hown
 ·intro i h1 h2
  by_cases hi:i < L.length
  ·have hi2:i < ls.length:=by rw [← h.len]; exact hi
   rw [List.getElem_append_left hi2]
   simp only [List.getElem_append_left hi]
   exact keep _ _ _ (h.each i hi hi2)
  ·have e:i=L.length:=by simp at h1; omega
   subst e
   rw [List.getElem_append_right (by rw [h.len]; exact Nat.le_refl _)]
   simp only [List.getElem_append_right nr_,h.len,Nat.sub_self,List.getElem_cons_zero]
   exact keep _ _ _ ho
 ·intro m hm
  rcases List.mem_append.1 hm with hm | hm
  ·exact h.lens m hm
  ·rw [List.mem_singleton.1 hm]; exact hl
theorem rdl_cells {W:World} {al:Option Addr} {LL:List (List Rat)} {n:Nat} (h:RdL W al (LL.map (List.map qs))) (hlen:∀ l∈LL,l.length=n) (h0:0 < LL.length) :
  ∃ b off,al=some ⟨b,off,none⟩∧b < W.heap.size∧∀ i,i < LL.length→∃ a' c',W.cell? ⟨b,off + i,none⟩=some (.slice a' n c')∧Rd W a' (cellsQ (LL.getD i [])):=by
 rcases h with h | ⟨b,off,h1,h2,h3⟩
 ·have:=congrArg List.length h
  simp at this
  rw [this] at h0
  simp at h0
 ·refine ⟨b,off,h1,h2,fun i hi=>?_⟩
  obtain ⟨a',c',k1,k2⟩:=h3 i (by simpa using hi)
  have e:(LL.map (List.map qs)).getD i []=(LL.getD i []).map qs:=by
   rw [List.getD_eq_getElem?_getD,List.getD_eq_getElem?_getD,List.getElem?_map]
   cases LL[i]? <;> rfl
  rw [e] at k1 k2
  rw [List.length_map,hlen _ (getD_memL hi)] at k1
  exact ⟨a',c',k1,k2⟩
def seenF (F:Nat→Nat) (t k:Nat):Bool:=(List.range t).any fun i=>F i == k
theorem seenF_succ (F:Nat→Nat) (t k:Nat):seenF F (t + 1) k=(if k=F t then true else seenF F t k):=by
 unfold seenF
 rw [List.range_succ,List.any_append]
 by_cases h:k=F t
 ·rw [if_pos h]; simp [h]
 ·rw [if_neg h]
  have:(F t == k)=false:=by rw [beq_eq_false_iff_ne]; exact fun e=>h e.symm
  simp [this]
theorem seenF_self {F:Nat→Nat} {m t:Nat} (inj:∀ k n,k < m→n < m→F k=F n→k=n) (ht:t < m):seenF F t (F t)=false:=by
 unfold seenF
 rw [List.any_eq_false]
 intro i hi
 rw [List.mem_range] at hi
 intro e
 have:=inj i t (by omega) ht (eq_of_beq e)
 omega
theorem infoBo:(Tryz.prog.info? 4).map (fun i=>(i.zero,i.size,i.bytes))=some (some (.bool false),1,1):=by kernel_rfl
theorem sizes_ok {ps:List Int} {pl:List PartsD} (hp0:pcode ps=0) (hp4:ps.length≤4) (hp2:∀ p∈ps,2≤p∧p≤13) (hq1:∀ p∈ps,p∈smallP) (hq2:ps.Nodup):SortOk ps (sizesQ pl ps.length):=by
 have hsm:∀ l∈sizesQ pl ps.length,Sml 480 12 l:=by
  intro l hl
  obtain ⟨p,_,rfl⟩:=List.mem_map.1 hl
  exact partsQ_sml _ _ _
 refine ⟨hp0,fun p hp=>by have:=hp2 p hp; omega,smallP_pos hq1,by omega,fun l hl=>(sizesQ_all pl _ l hl).1,fun l hl q hq=>((sizesQ_all pl _ l hl).2 q hq).le (by decide),fun a ha b hb=>?_⟩
 exact (Sml.comb (by decide) (hsm a ha) (hsm b hb) 1 (-1)).good (by decide) (pow_kb (by decide)) hq1 hq2
end Go.Proofs.YtlomhfknmhaboaaGreatDoor

namespace Go.Proofs.YtlomhfknmhaboaaGreatDoor
open Go.RowKit Go.Proofs.YtlomhfknmhaboaaGreatDoor.RY
set_option maxRecDepth 100000 in
set_option maxHeartbeats 64000000 in
theorem lawSorts_main (w:World) (nn:Nat) (aP:Option Addr) (cP:Nat) (pl:List PartsD) (rP:RdK w 8 aP (pl.map fun p=>(partsV p.1 p.2).toList)) (bP:∀ p∈pl,(∀ k,-128≤p.1 k∧p.1 k≤127)∧∀ k,p.2 k < 256) (hm:pl.length≤7) (hnn:nn < 256) (L:Laid w) :
  Gives Tryz.prog 10 #[.int .u8 nn,.slice aP pl.length cP] w (.bool true):=by
 unfold Gives
 have hp:=primesL_ok (nn % 10) (Nat.mod_lt _ (by decide))
 have hps:=primesL_small (nn % 10) (Nat.mod_lt _ (by decide))
 have HPr:=Lib.hid (fun W=>primes_any W nn hnn)
 generalize primesL (nn % 10)=ps at *
 obtain ⟨hp0,hp4,hp1,hp2⟩:=hp
 obtain ⟨hq1,hq2⟩:=hps
 have O:=sizes_ok (pl:=pl) hp0 hp4 hp2 hq1 hq2
 have HK:Hid (∀ W,Below w.heap.size w W→Gives Tryz.prog 12 #[] W (.bool true)):=fun W hW=>known_ok W (L.below hW)
 have HMk:Hid (∀ (p:PartsD) W a0 c0,p∈pl→Below w.heap.size w W→Calls Tryz.prog 15 #[.slice a0 ps.length c0,.agg #[.int .i8 (p.1 0),.int .u8 (p.2 0),.int .i8 (p.1 1),.int .u8 (p.2 1),.int .i8 (p.1 2),.int .u8 (p.2 2),.int .i8 (p.1 3),.int .u8 (p.2 3)]] W fun e w'=>∃ a c,e = .returned (.slice a ps.length c)∧OwnQ w' W.heap.size a c (partsQ p.1 p.2 ps.length)∧Below W.heap.size W w'):=fun p W a0 c0 hpm hW =>
  make_any W a0 c0 ps.length hp4 p.1 p.2 (bP p hpm).1 (bP p hpm).2 (L.below hW)
 have HTx:Hid (∀ l∈sizesQ pl ps.length,∀ (W:World) (a0 a1:Option Addr) (c0 c1:Nat),Below w.heap.size w W→Rd W a0 (ints ps)→Rd W a1 (cellsQ l)→Gives Tryz.prog 45 #[.slice a0 ps.length c0,.slice a1 ps.length c1] W (.tuple #[.string (txS ps l),.int .i64 0])):=fun l hl W a0 a1 c0 c1 hW r0 r1=>by
  have h:=text_ok W ps a0 a1 c0 c1 l ⟨r0,r1,O.len l hl,O.n,O.pr,O.sm l hl,by decide⟩ hp0 O.n (L.below hW)
  rw [O.len l hl] at h
  exact h
 have HTl:Hid (∀ l∈sizesQ pl ps.length,∀ (W:World) (a0 a1:Option Addr) (c0 c1:Nat),Below w.heap.size w W→Rd W a0 (ints ps)→Rd W a1 (cellsQ l)→Gives Tryz.prog 46 #[.slice a0 ps.length c0,.slice a1 ps.length c1] W (.string (txS ps l))):=fun l hl W a0 a1 c0 c1 hW r0 r1 =>
  ltext_ok W ps a0 a1 c0 c1 l ⟨r0,r1,O.len l hl,O.n,O.pr,O.sm l hl,by decide⟩ (L.below hW)
 have HSo:Hid (∀ (W:World) (a0 al:Option Addr) (c0 cl:Nat),Below w.heap.size w W→Rd W a0 (ints ps)→RdL W al ((sizesQ pl ps.length).map (List.map qs))→Calls Tryz.prog 47 #[.slice a0 ps.length c0,.slice al pl.length cl] W fun e w'=>∃ a c F,e = .returned (.tuple #[.slice a pl.length c,.int .i64 0])∧Fin' (cS ps (sizesQ pl ps.length)) pl.length F∧Rd w' a (ints ((List.range pl.length).map fun (k:Nat)=>((F k:Nat):Int)))∧Below W.heap.size W w'):=fun W a0 al c0 cl hW r0 r1=>by
  have h:=Sort_ok W ps a0 al c0 cl _ r0 r1 O (by rw [sizesQ_length]; omega) (L.below hW)
  rw [sizesQ_length] at h
  exact h
 obtain ⟨u,hu⟩:∃ q:Rat,q=((1:Int):Rat):=⟨_,rfl⟩
 obtain ⟨v,hv⟩:∃ q:Rat,q=((-1:Int):Rat):=⟨_,rfl⟩
 have HU:Hid (∀ W,Below w.heap.size w W→Gives Tryz.prog 18 #[.int .i64 1,.int .i64 1] W (fr u)):=fun W hW=>by subst hu; rw [← part_oneI]; exact partR W 1 1 (by decide) (by decide) (by decide) (by decide) (L.below hW)
 have HV:Hid (∀ W,Below w.heap.size w W→Gives Tryz.prog 18 #[.int .i64 (-1),.int .i64 1] W (fr v)):=fun W hW=>by subst hv; rw [← part_moneI]; exact partR W (-1) 1 (by decide) (by decide) (by decide) (by decide) (L.below hW)
 have su:Sm 400 u:=by rw [hu,rat_one_int]; exact sm_one.le (by decide)
 have sv:Sm 400 v:=by rw [hv]; exact sm_mone.le (by decide)
 have HCb:Hid (∀ la∈sizesQ pl ps.length,∀ lb∈sizesQ pl ps.length,∀ (W:World) (a1 a2:Option Addr) (c1 c2:Nat),Below w.heap.size w W→Rd W a1 (cellsQ la)→Rd W a2 (cellsQ lb)→Calls Tryz.prog 17 #[.slice a1 ps.length c1,.slice a2 ps.length c2,.agg #[.string (itx u.num),.string (dec u.den)],.agg #[.string (itx v.num),.string (dec v.den)]] W fun e w'=>∃ a c z,e = .returned (.tuple #[.slice a ps.length c,.bool z])∧Rd w' a (cellsQ (difQ la lb))∧Below W.heap.size W w'):=fun la ha lb hb W a1 a2 c1 c2 hW r1 r2=>by
  have h:=law_combine W a1 a2 c1 c2 la lb u v r1 r2 ((O.len lb hb).trans (O.len la ha).symm) (by rw [O.len la ha]; omega) (fun q hq=>(O.sm la ha q hq).le (by decide)) (fun q hq=>(O.sm lb hb q hq).le (by decide)) su sv (L.below hW)
  rw [O.len la ha,show combineQ la lb u v=difQ la lb by rw [hu,hv]; rfl] at h
  refine Calls.mono h ?_
  rintro e w' ⟨a,c,rfl,ho,hb⟩
  exact ⟨a,c,_,rfl,ho.rd,hb⟩
 have HSg:Hid (∀ la∈sizesQ pl ps.length,∀ lb∈sizesQ pl ps.length,∀ (W:World) (a0 a1:Option Addr) (c0 c1:Nat),Below w.heap.size w W→Rd W a0 (ints ps)→Rd W a1 (cellsQ (difQ la lb))→Gives Tryz.prog 48 #[.slice a0 ps.length c0,.slice a1 ps.length c1] W (.tuple #[.int .i64 (LN.sz ps (difQ la lb)),.bool true])):=fun la ha lb hb W a0 a1 c0 c1 hW r0 r1=>by
  refine signOf_ok W ps a0 a1 c0 c1 _ ⟨r0,r1,(difQ_length _ _ ((O.len la ha).trans (O.len lb hb).symm)).trans (O.len la ha),O.n,O.pr,?_,by decide⟩ hp0 (O.good la ha lb hb) (L.below hW)
  exact fun q hq=>(combineQ_sm ((sizesQ_all pl _ la ha).2) ((sizesQ_all pl _ lb hb).2) (by rw [rat_one_int]; exact sm_one) sm_mone q hq).le (by decide)
 have Hbd:Hid (∀ u v,-1≤cS ps (sizesQ pl ps.length) u v∧cS ps (sizesQ pl ps.length) u v≤1):=cS_le O
 have HcS:Hid (∀ u v,u < pl.length→v < pl.length→cS ps (sizesQ pl ps.length) u v=LN.sz ps (difQ ((sizesQ pl ps.length).getD u []) ((sizesQ pl ps.length).getD v []))):=fun u v h1 h2=>by
  unfold cS
  rw [sizesQ_length,if_pos ⟨h1,h2⟩]
 have RP:=Lib.hid rP
 unfold fr fv at HU HV
 clear L bP rP hnn hp0 hp1 hp2 hq1 hq2 hu hv su sv O
 obtain ⟨n,hn⟩:∃ n,ps.length=n:=⟨_,rfl⟩
 rw [hn] at HPr HMk HTx HTl HSo HCb HSg hp4 Hbd HcS
 clear hn
 obtain ⟨m,hmm⟩:∃ m,pl.length=m:=⟨_,rfl⟩
 rw [hmm] at hm HSo HcS ⊢
 have Hmm:=Lib.hid hmm
 clear hmm
 have hm7:¬ (7:Int) < m:=by omega
 generalize itx u.num=us at *
 generalize dec u.den=ut at *
 generalize itx v.num=vs at *
 generalize dec v.den=vt at *
 go_enter Tryz.func10,Tryz.ntmps10
 go_wp2_with fail
 refine Calls.mono (HK.out _ (Below.refl _ _)) ?_
 rintro e_ w1 ⟨rfl,hb_⟩
 have B1:=Lib.hid hb_
 clear hb_ HK
 go_wp2_with fail
 refine Calls.mono (HPr.out _) ?_
 rintro e_ wq ⟨gp,rfl,rp_,hb_⟩
 have Bq:=Lib.hid (B1.out.trans (hb_.mono B1.out.size))
 have Rp:=Lib.hid rp_
 clear hb_ rp_ HPr B1
 go_wp2_with fail
 go_loopw [6,7] (fun sz i wr=>∃ (j:Nat) (b:Option Addr) (d:Nat) (LL:List (Option Addr×Nat)),j≤m∧i = .int .i64 j∧sz = .slice b j d∧Hid (OwnL wr wq.heap.size b d n LL ((sizesQ pl n).take j))∧Hid (LL.length=j)∧Hid (Below wq.heap.size wq wr)) (fun _ i _=>m - (intOf i).toNat)
 case atStart=>exact ⟨0,none,0,[],Nat.zero_le _,rfl,rfl,⟨rfl,World.ownsRow_nil ..,fun i h=>absurd h (Nat.not_lt_zero _),fun l hl=>by simp at hl⟩,rfl,Below.refl _ _⟩
 case round =>
  obtain ⟨i,b,d,LL,hi,rfl,rfl,OL,HLL,Wq⟩:=hrel
  have B:=Lib.hid (Bq.out.trans (Wq.out.mono Bq.out.size))
  by_cases hlt2:i < m
  ·have hlt2':(i:Int) < m:=by omega
   have hip:i < pl.length:=by rw [Hmm.out]; exact hlt2
   rcases RP.out with hnil | ⟨b0,o0,rfl,hb0,hc0⟩
   ·exfalso
    have:pl.length=0:=by have:=congrArg List.length hnil; simpa using this
    omega
   have hcw:∀ jj,jj < 8→wr.cell? ⟨b0,o0 + i * 8 + jj,none⟩=(partsV pl[i].1 pl[i].2).toList[jj]?:=fun jj hjj=>by
    rw [B.out.cell (p:=⟨b0,o0 + i * 8 + jj,none⟩) hb0,hc0 i (by rw [List.length_map]; exact hip) jj hjj,List.getElem_map]
   have Hmk:=Lib.hid (fun W a0 c0 hW=>HMk.out pl[i] W a0 c0 (List.getElem_mem hip) hW)
   have Hsi:Hid ((sizesQ pl n).take (i + 1)=(sizesQ pl n).take i ++ [partsQ pl[i].1 pl[i].2 n]):=by
    show _=_
    rw [List.take_add_one,List.getElem?_eq_getElem (by rw [sizesQ_length]; exact hip)]
    simp [sizesQ]
   have hmem:partsQ pl[i].1 pl[i].2 n∈sizesQ pl n:=List.mem_map.2 ⟨pl[i],List.getElem_mem hip,rfl⟩
   have Ht1:=Lib.hid (HTx.out _ hmem)
   have Ht2:=Lib.hid (HTl.out _ hmem)
   have Hts:Hid (((sizesQ pl n).take i ++ [partsQ pl[i].1 pl[i].2 n]).getD i []=partsQ pl[i].1 pl[i].2 n):=by
    show _=_
    have e:((sizesQ pl n).take i).length=i:=by rw [List.length_take,sizesQ_length]; omega
    rw [List.getD_eq_getElem?_getD,List.getElem?_append_right (by omega),e,Nat.sub_self]; rfl
   have y0:wr.cell? ⟨b0,o0 + i * 8,none⟩=some (.int .i8 (pl[i].1 0)):=hcw 0 (by decide)
   have y1:wr.cell? ⟨b0,o0 + i * 8 + 1,none⟩=some (.int .u8 (pl[i].2 0)):=hcw 1 (by decide)
   have y2:wr.cell? ⟨b0,o0 + i * 8 + 2,none⟩=some (.int .i8 (pl[i].1 1)):=hcw 2 (by decide)
   have y3:wr.cell? ⟨b0,o0 + i * 8 + 3,none⟩=some (.int .u8 (pl[i].2 1)):=hcw 3 (by decide)
   have y4:wr.cell? ⟨b0,o0 + i * 8 + 4,none⟩=some (.int .i8 (pl[i].1 2)):=hcw 4 (by decide)
   have y5:wr.cell? ⟨b0,o0 + i * 8 + 5,none⟩=some (.int .u8 (pl[i].2 2)):=hcw 5 (by decide)
   have y6:wr.cell? ⟨b0,o0 + i * 8 + 6,none⟩=some (.int .i8 (pl[i].1 3)):=hcw 6 (by decide)
   have y7:wr.cell? ⟨b0,o0 + i * 8 + 7,none⟩=some (.int .u8 (pl[i].2 3)):=hcw 7 (by decide)
   clear hcw hc0 hmem
   have HI:=Lib.hid hlt2
   generalize pl[i]=p at *
   go_wp2_with fail
   refine Calls.mono (Hmk.out _ _ _ B.out) ?_
   rintro e_ w3 ⟨a3,c3,rfl,ho_,hb_⟩
   have W3:=Lib.hid (Wq.out.trans (hb_.mono Wq.out.size))
   have OL3:=Lib.hid (OL.out.below hb_)
   have O3:=Lib.hid (ho_.lower Wq.out.size)
   clear hb_ ho_ OL Wq B Hmk y0 y1 y2 y3 y4 y5 y6 y7
   have Ow:Hid (w3.ownsRow wq.heap.size 34 1 (.slice b i d) i (LL.map fun x => .slice x.1 n x.2)):=by
    have:=OL3.out.row
    rw [HLL.out] at this
    exact this
   have hsz:=W3.out.size
   go_wp2_with (at_builtin; refine wpList_append_one rfl (.tmp 34) (.tmp 41) 33 rfl elSz _ (.slice a3 n c3) rfl rfl Ow.out hsz rfl (by omega) (by omega) ?_)
   intro v' w5 hown5 hg5 hat5
   have W5:Hid (Below wq.heap.size wq w5):=(W3.out.alloc hsz _).grown hg5 (by simp; omega) (fun kk hk=>(Ow.out.lt kk hk).1)
   have hll:=HLL.out
   subst hll
   obtain ⟨b5,d5,rfl,ol5⟩:=OwnL.put OL3.out O3.out (partsQ_length ..) hown5 hg5
   have OL5:=Lib.hid ol5
   clear hown5 hg5 hat5 ol5 OL3 O3 W3 hsz Ow
   have hl5:((sizesQ pl n).take LL.length ++ [partsQ p.1 p.2 n]).length=LL.length + 1:=by rw [List.length_append,List.length_take,sizesQ_length]; simp; omega
   obtain ⟨bz,oz,rfl,hbz,hcz⟩:=rdl_cells OL5.out.rdl OL5.out.lens (by omega)
   obtain ⟨ay,cy,ky,ry⟩:=hcz LL.length (by omega)
   rw [Hts.out] at ry
   have HCZ:Hid (∀ W,Below w5.heap.size w5 W→W.cell? ⟨bz,oz + LL.length,none⟩=some (.slice ay n cy)∧Rd W ay (cellsQ (partsQ p.1 p.2 n))):=fun W hW=>⟨(hW.cell (p:=⟨bz,oz + LL.length,none⟩) hbz).trans ky,ry.below hW nr_⟩
   clear ky ry hcz hbz hl5 Hts
   have B5:=Lib.hid (Bq.out.trans (W5.out.mono Bq.out.size))
   have R5:=Lib.hid (Rp.out.below W5.out nr_)
   obtain ⟨k5,r5⟩:=HCZ.out w5 (Below.refl _ _)
   have H1:=Lib.hid (Ht1.out w5 _ ay (n) cy B5.out R5.out r5)
   have hI1:(LL.length:Int) < (LL.length:Int) + 1:=by omega
   clear r5
   generalize hlx:partsQ p.1 p.2 n=lx at *
   clear hlx
   generalize txS ps lx=tx at *
   go_wp2_with fail
   clear k5
   refine Calls.mono H1.out ?_
   rintro e_ w6 ⟨rfl,hb_⟩
   have W6:=Lib.hid (W5.out.trans (hb_.mono W5.out.size))
   have B6:=Lib.hid (B5.out.trans (hb_.mono B5.out.size))
   have R6:=Lib.hid (R5.out.below hb_ nr_)
   have OL6:=Lib.hid (OL5.out.below hb_)
   obtain ⟨k6,r6⟩:=HCZ.out w6 hb_
   have H2:=Lib.hid (Ht2.out w6 _ ay (n) cy B6.out R6.out r6)
   clear r6 hb_ H1 Ht1 Ht2 W5 B5 R5 OL5
   go_wp2_with fail
   clear k6
   refine Calls.mono H2.out ?_
   rintro e_ w7 ⟨rfl,hb_⟩
   have W7:=Lib.hid (W6.out.trans (hb_.mono W6.out.size))
   have OL7:=Lib.hid (OL6.out.below hb_)
   clear hb_ H2 W6 B6 R6 OL6
   go_wp2_with fail
   go_roundw
   case rel=>exact ⟨LL.length + 1,_,d5,_,HI.out,by go_num,rfl,by rw [Hsi.out]; exact OL7,by show _=_; simp,W7⟩
   case measure=>simp [intOf]; omega
  ·have hlt2':¬ (i:Int) < m:=by omega
   have him:i=m:=by omega
   subst him
   rw [show (sizesQ pl n).take i=sizesQ pl n by rw [List.take_of_length_le (by rw [sizesQ_length,Hmm.out]; exact Nat.le_refl _)]] at OL
   have Rpw:=Lib.hid (Rp.out.below Wq.out nr_)
   have RLw:=Lib.hid OL.out.rdl
   have Hlens:=Lib.hid OL.out.lens
   clear HMk RP Rp HTx HTl Bq
   have Hc:=Lib.hid (HSo.out _ _ _ n d B.out Rpw.out RLw.out)
   clear HSo OL HLL
   go_wp2_with fail
   refine Calls.mono Hc.out ?_
   rintro e_ w8 ⟨ao,co,F,rfl,hF_,ro_,hb_⟩
   have B8:=Lib.hid (B.out.trans (hb_.mono B.out.size))
   have Rp8:=Lib.hid (Rpw.out.below hb_ nr_)
   have RL8:=Lib.hid (RLw.out.below hb_ nr_)
   have HF:=Lib.hid hF_
   have RO:=Lib.hid ro_
   clear hb_ hF_ ro_ Hc Rpw RLw B Wq
   have hmk:=run_make_row' (P:=Tryz.prog) 86 4 (.bool false) 1 Tryz.underlying86 infoBo rfl .i64 .i64 i (by omega) (by omega) w8
   have Hrow0:Hid ((w8.alloc (.cells (madeCells #[.bool false] i) 4)).rowIs w8.heap.size 4 i fun k => .bool (seenF F 0 k)):=World.rowIs_made w8 (.bool false) i 4
   have W0:Hid (Below w8.heap.size w8 (w8.alloc (.cells (madeCells #[.bool false] i) 4))):=(Below.refl _ _).alloc nr_ _
   generalize w8.alloc (.cells (madeCells #[.bool false] i) 4)=w9 at *
   go_wp2_with fail
   clear hmk
   go_loopw [13] (fun z wr=>∃ t:Nat,t≤i∧z = .int .i64 t∧Hid (wr.rowIs w8.heap.size 4 i fun k => .bool (seenF F t k))∧Hid (Below w8.heap.size w8 wr)) (fun z _=>i - (intOf z).toNat)
   case atStart=>exact ⟨0,Nat.zero_le _,rfl,Hrow0,W0⟩
   case round =>
    clear Hrow0 W0
    obtain ⟨t,ht,rfl,HSeen,Wr⟩:=hrel
    by_cases hlt:t < i
    ·have hlt':(t:Int) < i:=by omega
     obtain ⟨bo,oo,rfl,hbo,hco⟩:=RO.out.open (by rw [ints_length]; simp; omega)
     have HOC:Hid (∀ W,Below w8.heap.size w8 W→∀ k,k < i→W.cell? ⟨bo,oo + k,none⟩=some (.int .i64 (F k:Nat))):=fun W hW k hk=>by
      rw [hW.cell (p:=⟨bo,oo + k,none⟩) hbo]
      refine hco k _ ?_
      rw [ints_get _ k (by simpa using hk)]
      simp
     have hl0:(sizesQ pl n).length=i:=by rw [sizesQ_length]; exact Hmm.out
     obtain ⟨bz,oz,rfl,hbz,hcz⟩:=rdl_cells RL8.out Hlens.out (by omega)
     rw [hl0] at hcz
     have hx:=HF.out.lt t hlt
     have ksee:wr.cell? ⟨w8.heap.size,F t,none⟩=some (.bool false):=by
      rw [HSeen.out.cell hx,seenF_self HF.out.inj hlt]
     have fsee:=HSeen.out.frozen (F t)
     have HSee2:Hid ((wr.setCell ⟨w8.heap.size,F t,none⟩ (.bool true)).rowIs w8.heap.size 4 i fun k => .bool (seenF F (t + 1) k)) :=
      (HSeen.out.set (F t) (.bool true)).congr fun k _=>by
       rw [seenF_succ]
       by_cases h:k=F t
       ·rw [if_pos h,if_pos h]
       ·rw [if_neg h,if_neg h]
     have W2:Hid (Below w8.heap.size w8 (wr.setCell ⟨w8.heap.size,F t,none⟩ (.bool true))):=Wr.out.setCell (p:=⟨w8.heap.size,F t,none⟩) nr_ _
     have kt:=HOC.out wr Wr.out t hlt
     have hxi:(F t:Int) < i:=by omega
     clear hco hbo HSeen
     rcases Nat.eq_zero_or_pos t with h0 | h0
     ·have hz0:((t:Int) == 0)=true:=by rw [beq_iff_eq]; omega
      clear h0
      generalize hX:F t=x at *
      clear hX
      go_wp2_with fail
      go_roundw
      case rel=>exact ⟨t + 1,by omega,by go_num,HSee2,W2⟩
      case measure=>simp [intOf]; omega
     ·obtain ⟨s,rfl⟩:∃ s,t=s + 1:=⟨t - 1,by omega⟩
      have hy:=HF.out.lt s (by omega)
      obtain ⟨ax,cx,kx,rx⟩:=hcz (F (s + 1)) hx
      obtain ⟨ay,cy,ky,ry⟩:=hcz (F s) hy
      have hmx:(sizesQ pl n).getD (F (s + 1)) []∈sizesQ pl n:=getD_memL (by rw [hl0]; exact hx)
      have hmy:(sizesQ pl n).getD (F s) []∈sizesQ pl n:=getD_memL (by rw [hl0]; exact hy)
      have Hcb:=Lib.hid (HCb.out _ hmx _ hmy)
      have Hsg:=Lib.hid (HSg.out _ hmx _ hmy)
      have hok:=HF.out.adj s hlt
      have hbd:=Hbd.out (F (s + 1)) (F s)
      unfold Ok at hok
      rw [HcS.out _ _ hx hy] at hok hbd
      have kt1:=HOC.out _ W2.out (s + 1) hlt
      have kt0:=HOC.out _ W2.out s (by omega)
      have kx1:=(W2.out.cell (p:=⟨bz,oz + F (s + 1),none⟩) hbz).trans kx
      have ky1:=(W2.out.cell (p:=⟨bz,oz + F s,none⟩) hbz).trans ky
      have Rx:=Lib.hid (rx.below W2.out nr_)
      have Ry:=Lib.hid (ry.below W2.out nr_)
      have Rp2:=Lib.hid (Rp8.out.below W2.out nr_)
      have BS:=Lib.hid (B8.out.trans (W2.out.mono B8.out.size))
      have hyi:(F s:Int) < i:=by omega
      generalize LN.sz ps (difQ ((sizesQ pl n).getD (F (s + 1)) []) ((sizesQ pl n).getD (F s) []))=cc at *
      generalize difQ ((sizesQ pl n).getD (F (s + 1)) []) ((sizesQ pl n).getD (F s) [])=ld at *
      generalize (sizesQ pl n).getD (F (s + 1)) []=lx at *
      generalize (sizesQ pl n).getD (F s) []=ly at *
      have Hok:=Lib.hid hok
      clear hok kx ky rx ry hcz hbz hmx hmy hl0 Hlens RL8 HcS Hbd HCb HSg
      have hs1:(s:Int) + 1 < i:=by omega
      have hs0:(s:Int) < i:=by omega
      generalize hX:F (s + 1)=x at *
      generalize hY:F s=y at *
      have HX:=Lib.hid hX
      have HY:=Lib.hid hY
      clear hX hY
      go_wp2_with fail
      clear kt ksee
      generalize hwS:wr.setCell ⟨w8.heap.size,x,none⟩ (.bool true)=wS at *
      have q1:=BW.cell kt1
      have q2:=BW.cell kt0
      have q3:=BW.cell kx1
      have q4:=BW.cell ky1
      have hnon:Nonempty (BW wS):=⟨⟨wS,Below.refl _ _⟩⟩
      have I:Hid (Below wS.heap.size wS wS.drew):=(Below.refl _ _).drew
      go_wp2_with fail
      clear kt1 kt0 kx1 ky1
      refine RX.wp_region_readers 17 [(2,0),(2,1),(2,2),(2,3),(1,4),(2,5),(1,6),(2,7),(2,8),(2,9),(2,10),(2,11),(1,12),(2,13),(1,14),(0,15),(0,16),(0,17),(2,18),(2,19),(2,20),(2,21),(0,22)] (fun w'=>∃ p:BW wS,w'=p.w) (by kernel_rfl) (by kernel_rfl) ?_ ?_
      ·exact ⟨⟨_,I.out⟩,rfl⟩
      refine RX.walkR_any ?_
      simp only [dz_,tsc_,tz_]
      go_big_quiet_step (fail)
      refine wpQuiet_nil ?_
      refine RX.walkR_any ?_
      simp only [dsc_,dz_,tsc_,tz_]
      go_big_quiet_step (fail)
      refine wpQuiet_nil ?_
      refine RX.walkR_any ?_
      simp only [dsc_,dz_,tsc_,tz_]
      go_big_quiet_step (fail)
      refine wpQuiet_nil ?_
      refine RX.walkR_any ?_
      simp only [dsc_,dz_,tsc_,tz_]
      go_big_quiet_step (fail)
      refine wpQuiet_nil ?_
      refine RX.walkR_read ?_
      simp only [dsc_,dz_,tsc_,tz_]
      go_big_quiet_step (fail)
      refine wpQuiet_nil ?_
      refine RX.walkR_any ?_
      simp only [dsc_,dz_,tsc_,tz_]
      go_big_quiet_step (fail)
      refine wpQuiet_nil ?_
      refine RX.walkR_read ?_
      simp only [dsc_,dz_,tsc_,tz_]
      go_big_quiet_step (fail)
      refine wpQuiet_nil ?_
      refine RX.walkR_any ?_
      simp only [dsc_,dz_,tsc_,tz_]
      go_big_quiet_step (fail)
      refine wpQuiet_nil ?_
      refine RX.walkR_any ?_
      simp only [dsc_,dz_,tsc_,tz_]
      go_big_quiet_step (fail)
      refine wpQuiet_nil ?_
      refine RX.walkR_any ?_
      simp only [dsc_,dz_,tsc_,tz_]
      go_big_quiet_step (fail)
      refine wpQuiet_nil ?_
      refine RX.walkR_any ?_
      simp only [dsc_,dz_,tsc_,tz_]
      go_big_quiet_step (fail)
      refine wpQuiet_nil ?_
      refine RX.walkR_any ?_
      simp only [dsc_,dz_,tsc_,tz_]
      go_big_quiet_step (fail)
      refine wpQuiet_nil ?_
      refine RX.walkR_read ?_
      simp only [dsc_,dz_,tsc_,tz_]
      go_big_quiet_step (fail)
      refine wpQuiet_nil ?_
      refine RX.walkR_any ?_
      simp only [dsc_,dz_,tsc_,tz_]
      go_big_quiet_step (fail)
      refine wpQuiet_nil ?_
      refine RX.walkR_read ?_
      simp only [dsc_,dz_,tsc_,tz_]
      go_big_quiet_step (fail)
      refine wpQuiet_nil ?_
      clear hnon q1 q2 q3 q4
      refine RX.walkR_move ?_
      simp only [dsc_,dz_,tsc_,tz_]
      go_wp2_with fail
      refine Calls.mono (HU.out _ (BS.out.trans (I.out.mono BS.out.size))) ?_
      rintro e_ va ⟨rfl,hb_⟩
      have D1:Hid (Below wS.heap.size wS va):=I.out.trans (hb_.mono I.out.size)
      clear hb_ I
      go_wp2_with fail
      refine ⟨⟨⟨_,D1.out⟩,rfl⟩,?_⟩
      refine RX.walkR_move ?_
      simp only [dsc_,dz_,tsc_,tz_]
      go_wp2_with fail
      refine Calls.mono (HV.out _ (BS.out.trans (D1.out.mono BS.out.size))) ?_
      rintro e_ vb ⟨rfl,hb_⟩
      have D2:=Lib.hid (D1.out.trans (hb_.mono D1.out.size))
      clear hb_ D1
      go_wp2_with fail
      refine ⟨⟨⟨_,D2.out⟩,rfl⟩,?_⟩
      refine RX.walkR_move ?_
      simp only [dsc_,dz_,tsc_,tz_]
      go_wp2_with fail
      refine Calls.mono (Hcb.out _ _ _ _ _ (BS.out.trans (D2.out.mono BS.out.size)) (Rx.out.below D2.out nr_) (Ry.out.below D2.out nr_)) ?_
      rintro e_ vc ⟨a9,c9,z9,rfl,r9_,hb_⟩
      have D3:=Lib.hid (D2.out.trans (hb_.mono D2.out.size))
      have R9:=Lib.hid r9_
      clear hb_ r9_ D2 Hcb Rx Ry
      go_wp2_with fail
      refine RX.walkR_any ?_
      simp only [dsc_,dz_,tsc_,tz_]
      go_big_quiet_step (fail)
      refine wpQuiet_nil ?_
      refine RX.walkR_any ?_
      simp only [dsc_,dz_,tsc_,tz_]
      go_big_quiet_step (fail)
      refine wpQuiet_nil ?_
      refine RX.walkR_any ?_
      simp only [dsc_,dz_,tsc_,tz_]
      go_big_quiet_step (fail)
      refine wpQuiet_nil ?_
      refine RX.walkR_any ?_
      simp only [dsc_,dz_,tsc_,tz_]
      go_big_quiet_step (fail)
      refine wpQuiet_nil ?_
      refine RX.walkR_move ?_
      simp only [dsc_,dz_,tsc_,tz_]
      go_wp2_with fail
      simp only [RX.walkR]
      have B9:=Lib.hid (BS.out.trans (D3.out.mono BS.out.size))
      have R3:=Lib.hid (Rp2.out.below D3.out nr_)
      have HSee3:=Lib.hid (HSee2.out.of_block (D3.out.block _ HSee2.out.lt))
      have W3:=Lib.hid (W2.out.trans (D3.out.mono W2.out.size))
      clear D3 BS Rp2 HSee2 W2
      go_wp2_with fail
      refine Calls.mono (Hsg.out _ _ _ _ _ B9.out R3.out R9.out) ?_
      rintro e_ vd ⟨rfl,hb_⟩
      have HSee4:=Lib.hid (HSee3.out.of_block (hb_.block _ HSee3.out.lt))
      have W4:=Lib.hid (W3.out.trans (hb_.mono W3.out.size))
      clear hb_ Hsg B9 R3 R9 HSee3 W3
      have kt1:=HOC.out _ W4.out (s + 1) (by omega)
      have kt0:=HOC.out _ W4.out s (by omega)
      rw [HX.out] at kt1
      rw [HY.out] at kt0
      obtain ⟨hok1,hok2⟩:=Hok.out
      have hle:¬ cc < 0:=by omega
      have hse:Hid (∀ d,(vd.drewN d).rowIs w8.heap.size 4 i fun k => .bool (seenF F (s + 1 + 1) k)):=fun d=>HSee4.out.of_block ((below_dn (Below.refl vd.heap.size vd) d).block _ HSee4.out.lt)
      by_cases hc0:cc=0
      ·have hxy:y < x:=hok2 hc0
       clear hok1 hok2 hbd Hok hle
       subst hc0
       go_wp2_with fail
       have hs0':(s:Int) < i:=by omega
       have hs1':(s:Int) + 1 < i:=by omega
       go_quiet (fail)
       have hxn:¬ x < y:=by omega
       have hxi':¬ (x:Int) < y:=by omega
       go_wp2
       go_roundw
       case rel=>exact ⟨s + 1 + 1,by omega,by go_num,hse.out _,below_dn W4.out _⟩
       case measure=>simp [intOf]; omega
      ·have hc1:cc=1:=by omega
       clear hok1 hok2 hbd Hok hle hc0
       subst hc1
       go_wp2_with fail
       have hs0':(s:Int) < i:=by omega
       have hs1':(s:Int) + 1 < i:=by omega
       go_quiet (fail)
       go_wp2
       go_roundw
       case rel=>exact ⟨s + 1 + 1,by omega,by go_num,hse.out _,below_dn W4.out _⟩
       case measure=>simp [intOf]; omega
    ·have hlt':¬ (t:Int) < i:=by omega
     go_wp2_with fail
     go_ret
     exact ⟨rfl,B8.out.trans (Wr.out.mono B8.out.size)⟩
theorem lawSorts (w:World) (nn:Int) (aP:Option Addr) (cP:Nat) (pl:List PartsD) (rP:RdK w 8 aP (pl.map fun p=>(partsV p.1 p.2).toList)) (bP:∀ p∈pl,(∀ k,-128≤p.1 k∧p.1 k≤127)∧∀ k,p.2 k < 256) (hn:0≤nn∧nn≤255) (L:Laid w) :
  Gives Tryz.prog 10 #[.int .u8 nn,.slice aP (pl.map fun p=>(partsV p.1 p.2).toList).length cP] w (.bool true):=by
 rw [List.length_map]
 by_cases h:7 < pl.length
 ·exact lawSorts_long w nn aP cP _ h L
 ·obtain ⟨m,rfl⟩:∃ m:Nat,nn=m:=⟨nn.toNat,by omega⟩
  exact lawSorts_main w m aP cP pl rP bP (by omega) (by omega) L
end Go.Proofs.YtlomhfknmhaboaaGreatDoor

namespace Go.Proofs.YtlomhfknmhaboaaGreatDoor
open Go.ChangeShapes Go.WideShapes Go.ChangeAt Go.RowKit
set_option maxRecDepth 100000 in
theorem sizeSorts_lifted (os:Os) (started:os.Started) (H:Type) (enc:TypeId×Value→H) :
  ReturnsInHanded {} Tryz.checked os 10 .any (fun w args=>(Rows.sizeSortsSpec.pre enc Tryz.prog Tryz.f10 [] false w args∧laidMetH Tryz.prog laidL w)∧sizedMet enc Tryz.prog Tryz.f10 (OpenSpec.ofChange Rows.sizeSortsSpec) false w args)
   (Rows.sizeSortsSpec.post enc Tryz.prog Tryz.f10 false true false false):=by
 refine returnsInHanded_of_change_and (C:=Tryz.checked) (X:=fun w _=>laidMetH Tryz.prog laidL w) (fun _ _ _ hh h=>h.of_heap hh) own started (by kernel_rfl) Tryz.func10
  (ChangeSpec.witness_shaped (enc:=enc) (C:=Tryz.checked) (os:=os) (X:=fun w _=>laidMetH Tryz.prog laidL w) false (World.doorLaid Tryz.prog 400 os) #[.int .u8 0,.slice none 0 0] 8 rfl (World.shaped_of_RefB (by kernel_rfl) (by kernel_rfl)) (by kernel_rfl) (by kernel_rfl) (by kernel_rfl) (door_met os _)) ?_
 intro W base args ds gs before hval0 hW _ _ hL _
 have hval:∀ (j:Nat) t v,Tryz.f10.params[j]?=some t→args[j]?=some v→Value.okWide Tryz.prog W .any base t v:=hval0
 have hW':=hW
 obtain ⟨p,q,hA0,hV,rfl,hfz,hnd⟩:=hW
 have hA:DataW.TrodAll enc Tryz.prog W 0 (fun _=>true) true Tryz.f10.params.toList args.toList ds p:=hA0
 rw [Tryz.params10] at hA hval
 obtain ⟨v0,vs0,d0,ds0,p0,q0,hargs,rfl,rfl,h0,r0⟩:=trodAll_cons hA
 obtain ⟨v1,vs1,d1,ds1,p1,q1,rfl,rfl,rfl,h1,r1⟩:=trodAll_cons r0
 obtain ⟨rfl,rfl,rfl⟩:=trodAll_nil r1
 obtain rfl:args = #[v0,v1]:=by cases args; simp_all
 obtain ⟨rfl,rfl⟩:=trodVars_none hV
 have k0:=h0
 have lt0:∀ x∈p0,x.block < W.heap.size:=by obtain ⟨m,hm⟩:=k0; exact DataW.trod_lt m _ _ _ hm
 have k1:=h1
 have lt1:∀ x∈p1,x.block < W.heap.size:=by obtain ⟨m,hm⟩:=k1; exact DataW.trod_lt m _ _ _ hm
 obtain ⟨nn,rfl,rfl,rfl,wn⟩:=open_int Tryz.underlying5 (hval 0 5 v0 rfl rfl) h0
 have bn:=bounds_u8 wn
 obtain ⟨a1,c1,l1,rfl,hr1,hq1,-⟩:=open_slice_of Tryz.underlying22 cellsParts (by decide) (Q:=fun cs=>∃ p:PartsD,cs=(partsV p.1 p.2).toList∧((∀ k,-128≤p.1 k∧p.1 k≤127)∧∀ k,p.2 k < 256)) (fun n cs x h=>by
  obtain ⟨nu,de,e,b1,b2⟩:=open_parts h
  exact ⟨(nu,de),e,b1,b2⟩) h1 (okWide_slice Tryz.underlying22 (hval 1 22 v1 rfl rfl))
 obtain ⟨pl,rfl,hpb⟩:=choose_list l1 hq1
 clear hA0 hval0
 refine (lawSorts W nn a1 c1 pl hr1 hpb bn (laid_of hL)).mono fun e W' ⟨he,bel⟩=>?_
 subst he
 exact ⟨_,rfl,_,_,_,[],_,[],hW',trodAll_mk1 (shut_bool Tryz.underlying4 _),(trodAll_cons_mk (Below.trod laidOut (by kernel_rfl) (of_decide_eq_true (by kernel_rfl)) k0 bel lt0) (trodAll_cons_mk (Below.trod laidOut (by kernel_rfl) (of_decide_eq_true (by kernel_rfl)) k1 bel lt1) trodAll_mk0)),rfl,bel.frame _,fun h=>by cases h⟩
theorem sizeSorts_row:Rows.SizeSortsSaid :=
 OpenClaim.holds_of_wide 10 Tryz.f10 rfl rfl rfl rfl rfl rfl rfl ⟨rfl,rfl,rfl,rfl,rfl⟩ rfl rfl rfl rfl rfl (by kernel_rfl) Tryz.func10 (by kernel_rfl)
  (of_decide_eq_true (by kernel_rfl)) (by unfold Func.isWrapper; first | (rw [if_pos (by decide +kernel)]; kernel_rfl) | (rw [if_neg (by decide +kernel)]; exact ⟨rfl,rfl⟩))
  (fun os started H enc _=>sizeSorts_lifted os started H enc)
theorem sizeSorts_holds:Rows.SizeSortsCardSaid :=
 Claim7.holds_tied_plain_at .later [] [.data, .data, .data, .sentinel, .sentinel] true (true, "9d0d2a1671fb7254a0d6cd7f535de0290e91414b206b40d6b5ae62423c22e5c1") true
  sizeSorts_row (fun _ h=>by cases h) (by kernel_rfl) (fun _ h=>by cases h) sizeSorts_row_tie rfl ⟨rfl,rfl⟩ (by kernel_rfl) rfl
  (fun f fn hf hfn=>by
   obtain rfl : f = 10 := Option.some.inj ((show Tryz.prog.funcNamed "schisma/schismalaw13.SizeSorts" = some 10 by kernel_rfl).symm.trans hf) |>.symm
   obtain rfl:fn=Tryz.f10:=(Option.some.inj (Tryz.func10.symm.trans hfn)).symm
   exact ⟨by kernel_rfl,fun j t ht=>by
    rw [Tryz.params10] at ht
    have hm:t∈[5,22]:=by simpa using Array.mem_of_getElem? ht
    have hall:([5,22].all fun u => !Tryz.prog.wantsStandIn u)=true:=by kernel_rfl
    exact (show Tryz.prog.wantsStandIn t=false by simpa using List.all_eq_true.1 hall t hm)⟩)
  (by kernel_rfl)
#print axioms sizeSorts_holds
end Go.Proofs.YtlomhfknmhaboaaGreatDoor
