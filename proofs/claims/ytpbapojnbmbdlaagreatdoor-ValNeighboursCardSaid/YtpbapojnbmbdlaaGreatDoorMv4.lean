/- Lemmas for the laws of this seat, part 4. -/
import Derived.Great.BuildSlice
import Derived.WalkMore
import Derived.Scope
import Derived.StillTail
import Derived.Lib.QuietBelow
import Derived.BigQuiet
import Derived.Laws.StructEq
import Derived.Lib.Join
import Derived.Shelf.Strings.OnBuilder
import Derived.Test.YtpbapojnbmbdlaaGreatDoorMv3
namespace Go.Proofs.YtpbapojnbmbdlaaGreatDoor
open Go.RowKit
set_option maxRecDepth 100000 in
set_option maxHeartbeats 4000000 in
theorem lowest_neg (w:World) (n:Int) (d g:Nat) (hn:ZNum n) (hd:Num d) (hd0:0 < d) (hn1:Num (n.natAbs + 1)) (hd1:Num (d + 1)) (hg:Nat.gcd n.natAbs d=g) (L:Laid w) :
  Gives Tryz.prog 94 #[.string (itx (-n)),.string (itx (-(d:Int)))] w (fv (n / (g:Int)) (d / g)):=by
 unfold Gives fv
 have hg0:0 < g:=by rw [← hg]; exact Nat.gcd_pos_of_pos_right _ hd0
 have hgl:g≤d:=by rw [← hg]; exact Nat.gcd_le_right _ hd0
 have hgn:Num g:=hd.le hgl
 have Hb0:=Lib.hid ((Below.refl w.heap.size w).alloc nr_ (.cells #[.string ⟨#[]⟩,.string ⟨#[]⟩] 92))
 have Hnew:Hid ((w.alloc (.cells #[.string ⟨#[]⟩,.string ⟨#[]⟩] 92)).heap[w.heap.size]?=some (.cells #[.string ⟨#[]⟩,.string ⟨#[]⟩] 92 (0,0))):=heap_alloc_new w _
 have HL:=Lib.hid (L.below Hb0.out)
 have Hsg:Hid (∀ W,Gives Tryz.prog 93 #[.string (itx (-(d:Int)))] W (.int .i64 (-1))):=fun W=>by
  have:=sign_any W (-(d:Int))
  rw [Int.sign_eq_neg_one_of_neg (show -(d:Int) < 0 by omega)] at this
  exact this
 have Hn1:Hid (∀ W,Gives Tryz.prog 132 #[.string (itx (-n))] W (.string (itx n))):=fun W=>by
  have:=neg_any W (-n) (show Num _ by rw [Int.natAbs_neg]; exact hn)
  rw [Int.neg_neg] at this
  exact this
 have Hn2:Hid (∀ W,Gives Tryz.prog 132 #[.string (itx (-(d:Int)))] W (.string (dec d))):=fun W=>by
  have:=neg_any W (-(d:Int)) (show Num _ by rw [Int.natAbs_neg]; exact hd)
  rw [Int.neg_neg,itx_nat] at this
  exact this
 clear L
 go_enter Tryz.func94,Tryz.ntmps94
 go_wp2_with fail
 generalize w.alloc (.cells #[.string ⟨#[]⟩,.string ⟨#[]⟩] 92)=W0 at *
 have Hgc:Hid (∀ W,Below W0.heap.size W0 W→Gives Tryz.prog 135 #[.string (itx n),.string (dec d)] W (.string (dec g))):=fun W hW=>by
  have:=gcdz_any W n (d:Int) hn (show Num _ from hd) (HL.out.below hW)
  rw [itx_nat,show Int.gcd n (d:Int)=g from hg] at this
  exact this
 have Hd1:Hid (∀ W,Below W0.heap.size W0 W→Gives Tryz.prog 133 #[.string (itx n),.string (dec g)] W (.tuple #[.string (itx (n / (g:Int))),.string (itx (n % (g:Int))),.int .i64 0])):=fun W hW=>divmodz_any W n g hn hgn hg0 hn1 (HL.out.below hW)
 have Hd2:Hid (∀ W,Below W0.heap.size W0 W→Gives Tryz.prog 133 #[.string (dec d),.string (dec g)] W (.tuple #[.string (dec (d / g)),.string (itx ((d:Int) % (g:Int))),.int .i64 0])):=fun W hW=>by
  have:=divmodz_any W (d:Int) g (show Num _ from hd) hgn hg0 (show Num (d + 1) from hd1) (HL.out.below hW)
  rw [itx_nat,show (d:Int) / (g:Int)=((d / g:Nat):Int) from rfl,itx_nat] at this
  exact this
 have ho:=is_one g
 by_cases h1:g=1
 ·have Hrs:Hid (itx (n / (g:Int))=itx n):=by show _=_; rw [h1]; congr 1; exact Int.ediv_one n
  have Hrt:Hid (dec (d / g)=dec d):=by show _=_; rw [h1,Nat.div_one]
  rw [decide_eq_true h1] at ho
  clear h1 Hd1 Hd2 hg hg0 hgl hgn hn hd hn1 hd1
  obtain ⟨s,hs⟩:∃ s,itx n=s:=⟨_,rfl⟩
  obtain ⟨t,ht⟩:∃ t,dec d=t:=⟨_,rfl⟩
  rw [hs] at Hrs Hgc Hn1
  rw [ht] at Hrt Hgc Hn2
  clear hs ht
  generalize itx (-n)=ns at *
  generalize itx (-(d:Int))=nd at *
  generalize dec g=u at *
  refine Calls.mono (Hsg.out _) ?_
  rintro e w1 ⟨rfl,hb1⟩
  have Hb1:=Lib.hid hb1
  clear hb1 Hsg
  go_wp2_with fail
  refine Calls.mono (Hn1.out _) ?_
  rintro e w5 ⟨rfl,hb5⟩
  have Hb5:=Lib.hid (Hb1.out.trans (hb5.mono Hb1.out.size))
  clear hb5 Hb1 Hn1
  go_wp2_with fail
  refine Calls.mono (Hn2.out _) ?_
  rintro e w6 ⟨rfl,hb6⟩
  have Hb6:=Lib.hid (Hb5.out.trans (hb6.mono Hb5.out.size))
  clear hb6 Hb5 Hn2
  go_wp2_with fail
  refine Calls.mono (Hgc.out w6 Hb6.out) ?_
  rintro e w2 ⟨rfl,hb2⟩
  have Hb2:=Lib.hid (Hb6.out.trans (hb2.mono Hb6.out.size))
  clear hb2 Hb6 Hgc
  have Hcell:=Lib.hid (stored_cell Hnew.out Hb2.out)
  have Hbw:=Lib.hid (Hb0.out.trans (Hb2.out.mono Hb0.out.size))
  obtain ⟨k0,k1,f0,f1⟩:=two_cells Hcell.out
  clear Hb2 Hb0 Hcell Hnew HL
  go_wp2
  obtain ⟨c0,c1,hb3⟩:=two_stored (.string s) (.string t) k0 k1 nr_ Hbw.out
  generalize (w2.setCell ⟨w.heap.size,0,none⟩ (.string s)).setCell ⟨w.heap.size,1,none⟩ (.string t)=w9 at *
  exact bodyPost_ret (v := .agg #[.string s,.string t]) (by simp [results,Tryz.results94,go_sem,c0,c1]) rfl ⟨by rw [Hrs.out,Hrt.out],hb3⟩
 ·rw [decide_eq_false h1] at ho
  obtain ⟨rs,hrs⟩:∃ rs,itx (n / (g:Int))=rs:=⟨_,rfl⟩
  obtain ⟨rt,hrt⟩:∃ rt,dec (d / g)=rt:=⟨_,rfl⟩
  rw [hrs] at Hd1
  rw [hrt] at Hd2
  have Hrs:=Lib.hid hrs
  have Hrt:=Lib.hid hrt
  clear h1 hg hg0 hgl hgn hn hd hn1 hd1 hrs hrt
  generalize itx (n % (g:Int))=e1 at Hd1
  generalize itx ((d:Int) % (g:Int))=e2 at Hd2
  obtain ⟨s,hs⟩:∃ s,itx n=s:=⟨_,rfl⟩
  obtain ⟨t,ht⟩:∃ t,dec d=t:=⟨_,rfl⟩
  obtain ⟨u,hu⟩:∃ u,dec g=u:=⟨_,rfl⟩
  rw [hs] at Hd1 Hgc Hn1
  rw [ht] at Hd2 Hgc Hn2
  rw [hu] at Hd1 Hd2 Hgc ho
  clear hs ht hu
  generalize itx (-n)=ns at *
  generalize itx (-(d:Int))=nd at *
  refine Calls.mono (Hsg.out _) ?_
  rintro e w1 ⟨rfl,hb1⟩
  have Hb1:=Lib.hid hb1
  clear hb1 Hsg
  go_wp2_with fail
  refine Calls.mono (Hn1.out _) ?_
  rintro e w5 ⟨rfl,hb5⟩
  have Hb5:=Lib.hid (Hb1.out.trans (hb5.mono Hb1.out.size))
  clear hb5 Hb1 Hn1
  go_wp2_with fail
  refine Calls.mono (Hn2.out _) ?_
  rintro e w6 ⟨rfl,hb6⟩
  have Hb6:=Lib.hid (Hb5.out.trans (hb6.mono Hb5.out.size))
  clear hb6 Hb5 Hn2
  go_wp2_with fail
  refine Calls.mono (Hgc.out w6 Hb6.out) ?_
  rintro e w2 ⟨rfl,hb2⟩
  have Hb2:=Lib.hid (Hb6.out.trans (hb2.mono Hb6.out.size))
  clear hb2 Hb6 Hgc
  go_wp2_with fail
  refine Calls.mono (Hd1.out w2 Hb2.out) ?_
  rintro e w3 ⟨rfl,hb3⟩
  have Hb3:=Lib.hid (Hb2.out.trans (hb3.mono Hb2.out.size))
  clear hb3 Hb2 Hd1
  go_wp2_with fail
  refine Calls.mono (Hd2.out w3 Hb3.out) ?_
  rintro e w4 ⟨rfl,hb4⟩
  have Hb4:=Lib.hid (Hb3.out.trans (hb4.mono Hb3.out.size))
  clear hb4 Hb3 Hd2
  have Hcell:=Lib.hid (stored_cell Hnew.out Hb4.out)
  have Hbw:=Lib.hid (Hb0.out.trans (Hb4.out.mono Hb0.out.size))
  obtain ⟨k0,k1,f0,f1⟩:=two_cells Hcell.out
  clear Hb4 Hb0 Hcell Hnew HL
  go_wp2
  obtain ⟨c0,c1,hb3⟩:=two_stored (.string rs) (.string rt) k0 k1 nr_ Hbw.out
  generalize (w4.setCell ⟨w.heap.size,0,none⟩ (.string rs)).setCell ⟨w.heap.size,1,none⟩ (.string rt)=w9 at *
  exact bodyPost_ret (v := .agg #[.string rs,.string rt]) (by simp [results,Tryz.results94,go_sem,c0,c1]) rfl ⟨by rw [Hrs.out,Hrt.out],hb3⟩
theorem lowest_any (w:World) (n m:Int) (hn:ZNum n) (hm:ZNum m) (hm0:m≠0) (hn1:Num (n.natAbs + 1)) (hm1:Num (m.natAbs + 1)) (L:Laid w) :
  Gives Tryz.prog 94 #[.string (itx n),.string (itx m)] w (fr ((n:Rat) / (m:Rat))):=by
 have key:∀ (k:Int) (d:Nat),d≠0→fv (k / ((Nat.gcd k.natAbs d:Nat):Int)) (d / Nat.gcd k.natAbs d)=fr (mkRat k d):=fun k d hd=>by
  have:=redV_rat k d hd
  unfold redV at this
  exact this
 by_cases h:0 < m
 ·obtain ⟨d,rfl⟩:∃ d:Nat,m=(d:Int):=⟨m.toNat,by omega⟩
  have:=lowest_frac w n d _ hn hm (by omega) hn1 hm1 rfl L
  rw [key n d (by omega),Rat.mkRat_eq_div] at this
  rw [itx_nat]
  exact this
 ·obtain ⟨d,rfl⟩:∃ d:Nat,m = -(d:Int):=⟨m.natAbs,by omega⟩
  have hmm:Num d:=by have:Num (-(d:Int)).natAbs:=hm; rwa [Int.natAbs_neg] at this
  have hmm1:Num (d + 1):=by rwa [Int.natAbs_neg] at hm1
  have:=lowest_neg w (-n) d _ (show Num _ by rw [Int.natAbs_neg]; exact hn) hmm (by omega) (by rw [Int.natAbs_neg]; exact hn1) hmm1 rfl L
  rw [Int.neg_neg,key (-n) d (by omega),Rat.mkRat_eq_div] at this
  have e:((-n:Int):Rat) / ((d:Nat):Rat)=(n:Rat) / ((-(d:Int):Int):Rat):=by
   rw [Rat.div_def,Rat.div_def,Rat.intCast_neg,Rat.intCast_neg,Rat.intCast_natCast]
   have hi:(-((d:Nat):Rat))⁻¹ = -(((d:Nat):Rat)⁻¹):=by
    apply Rat.inv_eq_of_mul_eq_one
    have:((d:Nat):Rat)≠0:=by intro h0; exact absurd (Rat.natCast_eq_zero_iff.1 h0) (by omega)
    rw [Rat.neg_mul,Rat.mul_neg,Rat.neg_neg,Rat.mul_inv_cancel _ this]
   rw [hi,Rat.neg_mul,Rat.mul_neg]
  rw [e] at this
  exact this
theorem div_eq (a b:Rat):a / b=((a.num * b.den:Int):Rat) / (((a.den:Int) * b.num:Int):Rat):=by
 have h1:a=(a.num:Rat) / ((a.den:Nat):Rat):=by rw [← Rat.mkRat_eq_div,Rat.mkRat_self]
 have h2:b=(b.num:Rat) / ((b.den:Nat):Rat):=by rw [← Rat.mkRat_eq_div,Rat.mkRat_self]
 have ha:((a.den:Nat):Rat)≠0:=by intro h; exact a.den_nz (Rat.natCast_eq_zero_iff.1 h)
 have hb:((b.den:Nat):Rat)≠0:=by intro h; exact b.den_nz (Rat.natCast_eq_zero_iff.1 h)
 rw [Rat.intCast_mul,Rat.intCast_mul,Rat.intCast_natCast,Rat.intCast_natCast]
 generalize a.num=x at *
 generalize b.num=y at *
 generalize ((a.den:Nat):Rat)=u at *
 generalize ((b.den:Nat):Rat)=v at *
 subst h1 h2
 by_cases hy:(y:Rat)=0
 ·rw [hy]; simp [Rat.div_def]
 ·grind
set_option maxRecDepth 100000 in
set_option maxHeartbeats 8000000 in
theorem divR (w:World) (a b:Rat) (D E:Nat) (ha:Sm D a) (hb:Sm E b) (hb0:b≠0) (h6:D + E + 2≤1000000) (L:Laid w) :
  Gives Tryz.prog 164 #[fr a,fr b] w (.tuple #[fr (a / b),.int .i64 0]):=by
 have hm0:b.num≠0:=fun h=>hb0 (Rat.num_eq_zero.1 h)
 have p1:=ha.pos
 have p2:=hb.pos
 have e1:(a.num * b.den).natAbs < 10 ^ (D + E):=by rw [Int.natAbs_mul]; exact pow_ten_mul ha.1 hb.2
 have e2:((a.den:Int) * b.num).natAbs < 10 ^ (D + E):=by rw [Int.natAbs_mul]; exact pow_ten_mul ha.2 hb.1
 have h3:10 ^ (D + E) < 10 ^ (D + E + 1):=Nat.pow_lt_pow_right (by decide) (by omega)
 have z1:ZNum (a.num * b.den):=num_pow e1 (by omega) (by omega)
 have z2:ZNum ((a.den:Int) * b.num):=num_pow e2 (by omega) (by omega)
 have z3:Num ((a.num * b.den).natAbs + 1):=num_pow (D:=D + E + 1) (by omega) (by omega) (by omega)
 have z4:Num (((a.den:Int) * b.num).natAbs + 1):=num_pow (D:=D + E + 1) (by omega) (by omega) (by omega)
 have hm1:(a.den:Int) * b.num≠0:=Int.mul_ne_zero (by have:=a.den_nz; omega) hm0
 have zn:ZNum a.num:=num_pow ha.1 p1 (by omega)
 have zm:ZNum b.num:=num_pow hb.1 p2 (by omega)
 have zd:Num a.den:=num_pow ha.2 p1 (by omega)
 have ze:Num b.den:=num_pow hb.2 p2 (by omega)
 obtain ⟨rs,hrs⟩:∃ rs,itx (a / b).num=rs:=⟨_,rfl⟩
 obtain ⟨rt,hrt⟩:∃ rt,dec (a / b).den=rt:=⟨_,rfl⟩
 have Hv:Hid (fr (a / b) = .agg #[.string rs,.string rt]):=by show _=_; unfold fr fv; rw [hrs,hrt]
 have hlo:∀ W,Laid W→Gives Tryz.prog 94 #[.string (itx (a.num * b.den)),.string (itx ((a.den:Int) * b.num))] W (.agg #[.string rs,.string rt]):=fun W LW=>by
  have:=lowest_any W _ _ z1 z2 hm1 z3 z4 LW
  rw [← div_eq] at this
  unfold fr fv at this
  rw [hrs,hrt] at this
  exact this
 unfold Gives
 show Calls _ _ #[fv a.num a.den,fv b.num b.den] _ _
 have Hsg:Hid (∀ W,Gives Tryz.prog 197 #[fv b.num b.den] W (.int .i64 b.num.sign)):=fun W=>sign_frac W b.num b.den
 have hs0:(b.num.sign == 0)=false:=by
  rw [beq_eq_false_iff_ne]
  intro h
  exact hm0 (Int.sign_eq_zero_iff_zero.1 h)
 clear hrs hrt hm1 z3 z4 e1 e2 h3 ha hb hb0
 generalize a.num=n at *
 generalize a.den=d at *
 generalize b.num=m at *
 generalize b.den=e at *
 generalize m.sign=sg at *
 have H3:=Lib.hid (Three.mk' w (itx n) (dec d) (itx m) (dec e))
 have HL:=Lib.hid (L.below H3.out.bel)
 clear L
 have Hm1:Hid (∀ W,Below (((w.alloc (.cells #[.string (itx n),.string (dec d)] 92)).alloc (.cells #[.string (itx m),.string (dec e)] 92)).alloc (.cells #[.string ⟨#[]⟩,.string ⟨#[]⟩] 92)).heap.size (((w.alloc (.cells #[.string (itx n),.string (dec d)] 92)).alloc (.cells #[.string (itx m),.string (dec e)] 92)).alloc (.cells #[.string ⟨#[]⟩,.string ⟨#[]⟩] 92)) W→∀ d' os,Calls Tryz.prog 134 #[.string (itx n),.string (dec e)] (Go.Sort.grow (redrawn W d') os) fun x w''=>x = .returned (.string (itx (n * e)))∧∃ p:Regrown,w''=Go.Sort.grow (redrawn W p.d) p.os):=fun W hW d' os=>by
  have:=mulz_any (Go.Sort.grow (redrawn W d') os) n (e:Int) zn (show Num _ from ze) z1 ((HL.out.below hW).below (below_regrown W d' os))
  rw [itx_nat] at this
  exact Calls.regrown_of this
 have Hm2:Hid (∀ W,Below (((w.alloc (.cells #[.string (itx n),.string (dec d)] 92)).alloc (.cells #[.string (itx m),.string (dec e)] 92)).alloc (.cells #[.string ⟨#[]⟩,.string ⟨#[]⟩] 92)).heap.size (((w.alloc (.cells #[.string (itx n),.string (dec d)] 92)).alloc (.cells #[.string (itx m),.string (dec e)] 92)).alloc (.cells #[.string ⟨#[]⟩,.string ⟨#[]⟩] 92)) W→∀ d' os,Calls Tryz.prog 134 #[.string (dec d),.string (itx m)] (Go.Sort.grow (redrawn W d') os) fun x w''=>x = .returned (.string (itx ((d:Int) * m)))∧∃ p:Regrown,w''=Go.Sort.grow (redrawn W p.d) p.os):=fun W hW d' os=>by
  have:=mulz_any (Go.Sort.grow (redrawn W d') os) (d:Int) m (show Num _ from zd) zm z2 ((HL.out.below hW).below (below_regrown W d' os))
  rw [itx_nat] at this
  exact Calls.regrown_of this
 have Hm3:Hid (∀ W,Below (((w.alloc (.cells #[.string (itx n),.string (dec d)] 92)).alloc (.cells #[.string (itx m),.string (dec e)] 92)).alloc (.cells #[.string ⟨#[]⟩,.string ⟨#[]⟩] 92)).heap.size (((w.alloc (.cells #[.string (itx n),.string (dec d)] 92)).alloc (.cells #[.string (itx m),.string (dec e)] 92)).alloc (.cells #[.string ⟨#[]⟩,.string ⟨#[]⟩] 92)) W→∀ d' os,Calls Tryz.prog 94 #[.string (itx (n * e)),.string (itx ((d:Int) * m))] (Go.Sort.grow (redrawn W d') os) fun x w''=>x = .returned (.agg #[.string rs,.string rt])∧∃ p:Regrown,w''=Go.Sort.grow (redrawn W p.d) p.os):=fun W hW d' os=>by
  exact Calls.regrown_of (hlo (Go.Sort.grow (redrawn W d') os) ((HL.out.below hW).below (below_regrown W d' os)))
 unfold fv at Hsg ⊢
 clear hlo z1 z2 zn zm zd ze hm0 p1 p2
 go_enter Tryz.func164,Tryz.ntmps164
 obtain ⟨k0,k1,-,-⟩:=two_cells H3.out.fa
 obtain ⟨k2,k3,-,-⟩:=two_cells H3.out.fb
 go_wp2_with fail
 generalize ((w.alloc (.cells #[.string (itx n),.string (dec d)] 92)).alloc (.cells #[.string (itx m),.string (dec e)] 92)).alloc (.cells #[.string ⟨#[]⟩,.string ⟨#[]⟩] 92)=W0 at *
 clear k0 k1 k2 k3
 refine Calls.mono (Hsg.out _) ?_
 rintro e w1 ⟨rfl,hb1⟩
 have Hb1:=Lib.hid hb1
 clear hb1 Hsg
 obtain ⟨k0,k1,-,-⟩:=two_cells (H3.out.next Hb1.out).fa
 obtain ⟨k2,k3,-,-⟩:=two_cells (H3.out.next Hb1.out).fb
 have q0:=cell_regrown k0
 have q1:=cell_regrown k1
 have q2:=cell_regrown k2
 have q3:=cell_regrown k3
 have hM1:=Hm1.out w1 Hb1.out
 have hM2:=Hm2.out w1 Hb1.out
 have hM3:=Hm3.out w1 Hb1.out
 clear k0 k1 k2 k3 Hm1 Hm2 Hm3
 go_wp2_with fail
 refine wp_region_below_tail 11 (by kernel_rfl) (by kernel_rfl) ?_
 simp only [List.take_succ_cons,List.take_zero,List.drop_succ_cons,List.drop_zero]
 repeat (first | go_big_quiet_step (first | with_reducible exact hM1 _ _ | with_reducible exact hM2 _ _ | with_reducible exact hM3 _ _) | quiet_step (first | with_reducible exact hM1 _ _ | with_reducible exact hM2 _ _ | with_reducible exact hM3 _ _))
 refine wpQuiet_nil ?_
 intro w8 hw8
 obtain ⟨⟨dq,osq⟩,rfl⟩:=hw8
 have hb8:=below_regrown w1 dq osq
 have H8:=Lib.hid ((H3.out.next Hb1.out).next hb8)
 clear hb8 hM1 hM2 hM3 q0 q1 q2 q3 H3 Hb1
 generalize Go.Sort.grow (redrawn w1 dq) osq=w8 at *
 obtain ⟨k0,k1,f0,f1⟩:=two_cells H8.out.fr
 have Hbw:=Lib.hid H8.out.bel
 clear H8
 go_wp2
 obtain ⟨c0,c1,hb3⟩:=two_stored (B:=w.heap.size) (.string rs) (.string rt) k0 k1 (by omega) Hbw.out
 generalize (w8.setCell ⟨w.heap.size + 1 + 1,0,none⟩ (.string rs)).setCell ⟨w.heap.size + 1 + 1,1,none⟩ (.string rt)=w9 at *
 exact bodyPost_ret (v := .tuple #[.agg #[.string rs,.string rt],.int .i64 0]) (by simp [results,Tryz.results164,go_sem,c0,c1]) rfl ⟨by rw [Hv.out],hb3⟩
end Go.Proofs.YtpbapojnbmbdlaaGreatDoor

namespace Go.Proofs.YtpbapojnbmbdlaaGreatDoor
open Go.RowKit
theorem tlist_mem {D:Nat} {ps:List Int} {l:List Rat} {x:Int×Int} (hx:x∈tlist D ps l):x.1∈ps∧∃ q∈l,q.num≠0∧x.2=q.num * ((D / q.den:Nat):Int):=by
 unfold tlist at hx
 obtain ⟨y,hy,he⟩:=List.mem_filterMap.1 hx
 have h1:=(List.of_mem_zip hy).1
 have h2:=(List.of_mem_zip hy).2
 by_cases h:y.2.num=0
 ·rw [if_pos h] at he; cases he
 ·rw [if_neg h] at he
  simp only [Option.some.injEq] at he
  subst he
  exact ⟨h1,y.2,h2,h,rfl⟩
def tlQ (ps:List Int) (l:List Rat):List (Int×Int):=tlist (tden l) ps l
theorem tlQ_znum {ps:List Int} {l:List Rat} {D:Nat} (hs:∀ q∈l,Sm D q) (h6:3 + (l.length + 2) * D≤900000):∀ x∈tlQ ps l,ZNum x.2:=fun x hx=>by
 obtain ⟨_,q,hq,_,he⟩:=tlist_mem hx
 have h1:=tden_lt l D hs l.length nr_
 rw [List.take_length] at h1
 have h2:=(hs q hq).1
 have h3:tden l / q.den≤tden l:=Nat.div_le_self _ _
 have h4:=pow_ten_mul h2 (Nat.lt_of_le_of_lt h3 h1)
 rw [he]
 refine num_pow (D:=D + (1 + l.length * D)) ?_ (by omega) ?_
 ·rw [Int.natAbs_mul]; exact h4
 ·rw [Nat.add_mul] at h6; omega
theorem rd_obj {w:World} {g:Nat} {cs:Array Value} {t:TypeId} (h:w.heap[g]?=some (.cells cs t (0,0))):Rd w (some ⟨g,0,none⟩) cs.toList:=by
 refine .inr ⟨g,0,rfl,(Array.getElem?_eq_some_iff.1 h).1,fun i v hi=>?_⟩
 rw [Nat.zero_add,cell_of_row w g i _ t (0,0) h,← Array.getElem?_toList]
 exact hi
theorem rdl_two {w:World} {g:Nat} {a1 a2:Option Addr} {c1 c2:Nat} {l1 l2:Pairs} {t:TypeId} (h:w.heap[g]?=some (.cells #[.slice a1 l1.length c1,.slice a2 l2.length c2] t (0,0))) (h1:Rd w a1 (cellsS l1)) (h2:Rd w a2 (cellsS l2)):RdL w (some ⟨g,0,none⟩) [l1,l2]:=by
 obtain ⟨k0,k1,-,-⟩:=(⟨by rw [cell_of_row w g 0 _ t (0,0) h]; rfl,by rw [cell_of_row w g 1 _ t (0,0) h]; rfl,trivial,trivial⟩:w.cell? ⟨g,0,none⟩=some (.slice a1 l1.length c1)∧w.cell? ⟨g,1,none⟩=some (.slice a2 l2.length c2)∧True∧True)
 refine .inr ⟨g,0,rfl,(Array.getElem?_eq_some_iff.1 h).1,fun i hi=>?_⟩
 match i,hi with
 | 0,_=>exact ⟨a1,c1,k0,h1⟩
 | 1,_=>exact ⟨a2,c2,k1,h2⟩
structure SizeOk (w:World) (ps:List Int) (a0 a:Option Addr) (l:List Rat) (D:Nat):Prop where
 rp:Rd w a0 (ints ps)
 rl:Rd w a (cellsQ l)
 len:l.length=ps.length
 n:ps.length≤100
 pr:∀ p∈ps,2≤p∧p≤97
 sm:∀ q∈l,Sm D q
 d:D≤1000
theorem SizeOk.below {w w':World} {ps:List Int} {a0 a:Option Addr} {l:List Rat} {D:Nat} (h:SizeOk w ps a0 a l D) (hb:Below w.heap.size w w'):SizeOk w' ps a0 a l D :=
 ⟨h.rp.below hb nr_,h.rl.below hb nr_,h.len,h.n,h.pr,h.sm,h.d⟩
theorem SizeOk.i64 {w:World} {ps:List Int} {a0 a:Option Addr} {l:List Rat} {D:Nat} (h:SizeOk w ps a0 a l D):I64s ps:=fun x hx=>by have:=h.pr x hx; omega
theorem terms_ok {w:World} {ps:List Int} {a0 a:Option Addr} {l:List Rat} {D c0 c:Nat} (S:SizeOk w ps a0 a l D) (L:Laid w) :
  Calls Tryz.prog 111 #[.slice a0 ps.length c0,.slice a l.length c] w fun e w'=>∃ b1 d1 b2 d2,e = .returned (.agg (tcells b1 d1 b2 d2 (tlQ ps l).length (tden l)))∧TermsAt w' (tlQ ps l) b1 b2∧Below w.heap.size w w':=by
 have hn:=S.n
 have hd:=S.d
 have hlen:=S.len
 have h6:3 + (l.length + 2) * D≤900000:=by
  have:(l.length + 2) * D≤102 * 1000:=Nat.mul_le_mul (by omega) hd
  omega
 refine Calls.mono (termsOf_any w a0 a c0 c ps l D S.rp S.rl S.len.symm S.sm (by omega) h6 L) ?_
 rintro e w' ⟨b1,d1,b2,d2,he,r1,r2,hb⟩
 refine ⟨b1,d1,b2,d2,he,⟨r1,r2,?_,?_,tlQ_znum S.sm h6⟩,hb⟩
 ·exact Nat.le_trans (tlist_length _ _ _) (by omega)
 ·exact fun x hx=>S.pr x.1 (tlist_mem hx).1
end Go.Proofs.YtpbapojnbmbdlaaGreatDoor

namespace Go.Proofs.YtpbapojnbmbdlaaGreatDoor
open Go.RowKit
theorem heap_kept {w w':World} {B g:Nat} {o:Obj} (h:w.heap[g]?=some o) (hb:Below B w w') (hB:w.heap.size≤B):w'.heap[g]?=some o :=
 (hb.block g (Nat.lt_of_lt_of_le (Array.getElem?_eq_some_iff.1 h).1 hB)).trans h
theorem Sm.one:Sm 1 1:=⟨by decide,by decide⟩
theorem Sm.minus:Sm 1 (-1):=⟨by decide,by decide⟩
end Go.Proofs.YtpbapojnbmbdlaaGreatDoor

namespace Go.Proofs.YtpbapojnbmbdlaaGreatDoor
open Go.RowKit
theorem lf_at {n:Nat} {tl:List (Int×Int)} (h:PrT tl) (hn:n≤1056):∀ x∈tl,LN.LogAt n x.1 (lf n x.1):=fun x hx=>by
 obtain ⟨q,e,hq⟩:=h x hx
 rw [e]
 exact lgN_at hq hn
structure TrT (tl:List (Int×Int)):Prop where
 p:PrT tl
 nz:∀ x∈tl,x.2≠0
 nd:(tl.map Prod.fst).Nodup
theorem sign_of_lo {n:Nat} {tl:List (Int×Int)} (h:TrT tl) (hn:n≤1056) (hne:tl≠[]) (h0:0≤LN.eLo (lf n) tl):LN.signT tl=1:=by
 rw [LN.eLo_eq] at h0
 exact LN.sign_low n (lf n) tl (lf_at h.p hn) h.nz hne h.nd (by omega)
theorem sign_of_hi {n:Nat} {tl:List (Int×Int)} (h:TrT tl) (hn:n≤1056) (hne:tl≠[]) (h0:LN.eHi (lf n) tl≤0):LN.signT tl = -1:=by
 rw [LN.eHi_eq] at h0
 exact LN.sign_high n (lf n) tl (lf_at h.p hn) h.nz hne h.nd (by omega)
theorem isLg_two (N:Nat):IsLg 2 N N:=⟨Nat.le_refl _,Nat.pow_lt_pow_right (by decide) (by omega)⟩
theorem digs_two (more n:Nat) (hm:1≤more) {s:Nat×Nat×Nat} (h:digs 2 more n=some s):s.2.2=2 ^ n :=
 isLg_one (digs_inv 2 more (by decide) hm n s h).lg (isLg_two _)
theorem lgA_lf {p:Int} (hp:∃ q:Nat,p=q∧(q=2∨q∈oddP)) (h:(digs p.toNat 62 26).isSome=true):lgA p=(lf 26 p:Int)∧lgB p=(LN.hiL (lf 26) p:Int):=by
 obtain ⟨q,rfl,hq⟩:=hp
 obtain ⟨s,hs⟩:=Option.isSome_iff_exists.1 h
 rw [Int.toNat_natCast] at hs
 have e:lgA q=(lf 26 q:Int):=by
  unfold lgA
  rw [Int.toNat_natCast,hs]
  show ((s.2.2:Nat):Int)=((lgN q 26:Nat):Int)
  rcases hq with rfl | hq
  ·rw [digs_two 62 26 (by decide) hs]
   rw [show ((2:Nat):Int)=2 from rfl,lgN_two]
  ·rw [digs_lgN hq (by decide) (by decide) hs]
 refine ⟨e,?_⟩
 unfold lgB LN.hiL
 rw [e]
 split
 ·rfl
 ·rfl
theorem lowT_eq {most:Int}:∀ tl:List (Int×Int),PrT tl→(∀ x∈tl,okT most x)→lowT tl=LN.eLo (lf 26) tl∧highT tl=LN.eHi (lf 26) tl
 | [],_,_=>⟨rfl,rfl⟩
 | x :: l,hp,ho=>by
  obtain ⟨i1,i2⟩:=lowT_eq l (fun y hy=>hp y (List.mem_cons_of_mem _ hy)) (fun y hy=>ho y (List.mem_cons_of_mem _ hy))
  obtain ⟨a1,a2⟩:=lgA_lf (hp x List.mem_cons_self) (ho x List.mem_cons_self).2
  have e1:lowT (x :: l)=min (x.2 * lgA x.1) (x.2 * lgB x.1) + lowT l:=by simp [lowT]
  have e2:highT (x :: l)=max (x.2 * lgA x.1) (x.2 * lgB x.1) + highT l:=by simp [highT]
  have f1:LN.eLo (lf 26) (x :: l)=(if x.2 < 0 then x.2 * (LN.hiL (lf 26) x.1:Int) else x.2 * (lf 26 x.1:Int)) + LN.eLo (lf 26) l:=by simp [LN.eLo]
  have f2:LN.eHi (lf 26) (x :: l)=(if x.2 < 0 then x.2 * (lf 26 x.1:Int) else x.2 * (LN.hiL (lf 26) x.1:Int)) + LN.eHi (lf 26) l:=by simp [LN.eHi]
  have hle:lf 26 x.1≤LN.hiL (lf 26) x.1:=by unfold LN.hiL; split <;> omega
  rw [e1,e2,f1,f2,i1,i2,a1,a2]
  by_cases hk:x.2 < 0
  ·have h1:x.2 * (LN.hiL (lf 26) x.1:Int)≤x.2 * (lf 26 x.1:Int):=Int.mul_le_mul_of_nonpos_left (by omega) (by omega)
   rw [if_pos hk,if_pos hk,Int.min_eq_right h1,Int.max_eq_left h1]
   exact ⟨rfl,rfl⟩
  ·have h1:x.2 * (lf 26 x.1:Int)≤x.2 * (LN.hiL (lf 26) x.1:Int):=Int.mul_le_mul_of_nonneg_left (by omega) (by omega)
   rw [if_neg hk,if_neg hk,Int.min_eq_left h1,Int.max_eq_right h1]
   exact ⟨rfl,rfl⟩
theorem quick_sign {tl:List (Int×Int)} (h:TrT tl) (hne:tl≠[]) (hq:quickV tl≠0):quickV tl=LN.signT tl:=by
 unfold quickV at hq ⊢
 split at hq
 ·rename_i ho
  obtain ⟨e1,e2⟩:=lowT_eq tl h.p ho
  rw [if_pos ho]
  rw [e1,e2] at hq ⊢
  split
  ·rename_i h1; rw [sign_of_lo h (by decide) hne h1]
  ·rename_i h1
   rw [if_neg h1] at hq
   split
   ·rename_i h2; rw [sign_of_hi h (by decide) hne h2]
   ·rename_i h2; rw [if_neg h2] at hq; exact absurd rfl hq
 ·exact absurd rfl hq
def Pw (n:Nat):Prop:=n=64∨n=128∨n=256∨n=512∨n=1024
def Dec (tl:List (Int×Int)):Prop:=0≤LN.eLo (lf 1024) tl∨LN.eHi (lf 1024) tl≤0
set_option maxRecDepth 100000 in
set_option maxHeartbeats 8000000 in
theorem sign_dec (w:World) (b1 b2:Option Addr) (d1 d2 D E:Nat) (tl:List (Int×Int)) (T:TermsAt w tl b1 b2) (R:TrT tl) (hE:E≤20000) (hK:∀ x∈tl,x.2.natAbs < 2 ^ E) (hd:tl≠[]→Dec tl) (L:Laid w) :
  Gives Tryz.prog 112 #[.agg (tcells b1 d1 b2 d2 tl.length D)] w (.int .i64 (LN.signT tl)):=by
 by_cases h0:tl=[]
 ·have:=sign_quick w b1 b2 d1 d2 D tl T L (.inl h0)
  rw [if_pos h0] at this
  rw [h0] at this ⊢
  exact this
 by_cases hq:quickV tl≠0
 ·have:=sign_quick w b1 b2 d1 d2 D tl T L (.inr hq)
  rw [if_neg h0,quick_sign R h0 hq] at this
  exact this
 ·have hq0:quickV tl=0:=by omega
  unfold Gives
  have Hb0:=Lib.hid ((Below.refl w.heap.size w).alloc nr_ (.cells (tcells b1 d1 b2 d2 tl.length D) 168))
  have Hn:=Lib.hid (quick_any _ b1 b2 d1 d2 D tl (T.below Hb0.out) (L.below Hb0.out))
  rw [hq0] at Hn
  have hl0:((tl.length:Int) == 0)=false:=by
   rw [beq_eq_false_iff_ne]
   intro h
   exact h0 (List.eq_nil_of_length_eq_zero (by omega))
  have He:Hid (∀ (n:Nat) W,n≤1056→Below w.heap.size w W→Gives Tryz.prog 131 #[.agg (tcells b1 d1 b2 d2 tl.length D),.int .i64 n] W (.tuple #[.string (itx (LN.eLo (lf n) tl)),.string (itx (LN.eHi (lf n) tl))])) :=
   fun n W hn hW=>ends_any W b1 b2 d1 d2 D n E tl (T.below hW) R.p hE hK hn (L.below hW)
  have Hlo:Hid (∀ n:Nat,n≤1056→0≤LN.eLo (lf n) tl→LN.signT tl=1):=fun n hn h=>sign_of_lo R hn h0 h
  have Hhi:Hid (∀ n:Nat,n≤1056→LN.eHi (lf n) tl≤0→LN.signT tl = -1):=fun n hn h=>sign_of_hi R hn h0 h
  have Hdec:=Lib.hid (hd h0)
  clear T L hq h0 hq0 R hE hK hd
  generalize LN.signT tl=sv at *
  generalize hm:tl.length=m at *
  clear hm
  have Hob:=Lib.hid (heap_at w (tcells b1 d1 b2 d2 m D) 168 w.heap.size rfl)
  obtain ⟨m0,m1,m2,m3⟩:=obj_cells3 Hob.out
  clear m3
  go_enter Tryz.func112,Tryz.ntmps112
  go_wp2_with fail
  go_step3
  go_wp2_with fail
  refine Calls.mono Hn.out ?_
  rintro e w1 ⟨rfl,hb1⟩
  have Hb1:=Lib.hid (Hb0.out.trans (hb1.mono Hb0.out.size))
  have Hk1:=Lib.hid (heap_kept Hob.out hb1 nr_)
  clear hb1 Hn Hb0 Hob m0 m1 m2
  go_wp2_with fail
  go_step3
  go_wp2_with fail
  go_loopw [4] (fun a wr=>∃ (n:Nat),Hid (Pw n)∧n≤1024∧a = .int .i64 n∧Hid (Below w.heap.size w wr)∧Hid (wr.heap[w.heap.size]?=some (.cells (tcells b1 d1 b2 d2 m D) 168 (0,0)))) (fun a _=>1024 - (intOf a).toNat)
  case atStart=>exact ⟨64,.inl rfl,by decide,rfl,Hb1,Hk1⟩
  case round =>
   clear Hb1 Hk1
   obtain ⟨n,Hp,hn,rfl,Hb,Hk⟩:=hrel
   obtain ⟨m0,m1,m2,m3⟩:=obj_cells3 Hk.out
   clear m3
   have Hen:=Lib.hid (He.out n wr (by omega) Hb.out)
   have hlo:=Hlo.out n (by omega)
   have hhi:=Hhi.out n (by omega)
   have hlast:n=1024→0≤LN.eLo (lf n) tl∨LN.eHi (lf n) tl≤0:=fun h=>by rw [h]; exact Hdec.out
   clear He Hlo Hhi Hdec
   generalize LN.eLo (lf n) tl=lo at *
   generalize LN.eHi (lf n) tl=hi at *
   have Hs1:Hid (∀ W,Gives Tryz.prog 93 #[.string (itx lo)] W (.int .i64 lo.sign)):=fun W=>sign_any W lo
   have Hs2:Hid (∀ W,Gives Tryz.prog 93 #[.string (itx hi)] W (.int .i64 hi.sign)):=fun W=>sign_any W hi
   have c1:=sign_cases lo
   have c2:=sign_cases hi
   have hw:IntKind.i64.wrap ((n:Int) * 2)=((n * 2:Nat):Int):=by rw [show (n:Int) * 2=((n * 2:Nat):Int) by omega]; exact IntWalk.i64_in _ (by omega)
   by_cases h1:0≤lo
   ·have Hv:=Lib.hid (hlo h1)
    have h1':0≤lo.sign:=by omega
    generalize lo.sign=sl at *
    clear c1 c2 hlo hhi hlast Hs2 h1
    generalize itx lo=slo at *
    generalize itx hi=shi at *
    have B1:=Hb
    have K1:=Hk
    clear Hb Hk
    go_wp2_with fail
    refine Calls.mono (Hen.out) ?_
    rintro e w2 ⟨rfl,hb⟩
    have B2:=Lib.hid (B1.out.trans (hb.mono B1.out.size))
    have K2:=Lib.hid (heap_kept K1.out hb nr_)
    clear hb B1 K1
    go_wp2_with fail
    refine Calls.mono (Hs1.out _) ?_
    rintro e w3 ⟨rfl,hb⟩
    have B3:=Lib.hid (B2.out.trans (hb.mono B2.out.size))
    have K3:=Lib.hid (heap_kept K2.out hb nr_)
    clear hb B2 K2
    go_wp2_with fail
    rw [Exit.noGoto_ret]
    go_ret
    exact ⟨by rw [Hv.out]; rfl,B3.out⟩
   ·have h1':lo.sign < 0:=by omega
    by_cases h2:hi≤0
    ·have Hv:=Lib.hid (hhi h2)
     have h2':hi.sign≤0:=by omega
     generalize lo.sign=sl at *
     generalize hi.sign=sh at *
     clear c1 c2 hlo hhi hlast h1 h2
     generalize itx lo=slo at *
     generalize itx hi=shi at *
     have B1:=Hb
     have K1:=Hk
     clear Hb Hk
     go_wp2_with fail
     refine Calls.mono (Hen.out) ?_
     rintro e w2 ⟨rfl,hb⟩
     have B2:=Lib.hid (B1.out.trans (hb.mono B1.out.size))
     have K2:=Lib.hid (heap_kept K1.out hb nr_)
     clear hb B1 K1
     go_wp2_with fail
     refine Calls.mono (Hs1.out _) ?_
     rintro e w3 ⟨rfl,hb⟩
     have B3:=Lib.hid (B2.out.trans (hb.mono B2.out.size))
     have K3:=Lib.hid (heap_kept K2.out hb nr_)
     clear hb B2 K2
     go_wp2_with fail
     refine Calls.mono (Hs2.out _) ?_
     rintro e w4 ⟨rfl,hb⟩
     have B4:=Lib.hid (B3.out.trans (hb.mono B3.out.size))
     have K4:=Lib.hid (heap_kept K3.out hb nr_)
     clear hb B3 K3
     go_wp2_with fail
     rw [Exit.noGoto_ret]
     go_ret
     exact ⟨by rw [Hv.out]; rfl,B4.out⟩
    ·have h2':0 < hi.sign:=by omega
     have hn2:n * 2≤1024:=by
      rcases Hp.out with h | h | h | h | h
      ·omega
      ·omega
      ·omega
      ·omega
      ·have:=hlast h; omega
     have hp2:Hid (Pw (n * 2)):=by
      rcases Hp.out with h | h | h | h | h
      ·subst h; exact .inr (.inl rfl)
      ·subst h; exact .inr (.inr (.inl rfl))
      ·subst h; exact .inr (.inr (.inr (.inl rfl)))
      ·subst h; exact .inr (.inr (.inr (.inr rfl)))
      ·have:=hlast h; omega
     have hn0:0 < n:=by rcases Hp.out with h | h | h | h | h <;> omega
     generalize lo.sign=sl at *
     generalize hi.sign=sh at *
     clear c1 c2 hlo hhi hlast h1 h2
     generalize itx lo=slo at *
     generalize itx hi=shi at *
     have B1:=Hb
     have K1:=Hk
     clear Hb Hk
     go_wp2_with fail
     refine Calls.mono (Hen.out) ?_
     rintro e w2 ⟨rfl,hb⟩
     have B2:=Lib.hid (B1.out.trans (hb.mono B1.out.size))
     have K2:=Lib.hid (heap_kept K1.out hb nr_)
     clear hb B1 K1
     go_wp2_with fail
     refine Calls.mono (Hs1.out _) ?_
     rintro e w3 ⟨rfl,hb⟩
     have B3:=Lib.hid (B2.out.trans (hb.mono B2.out.size))
     have K3:=Lib.hid (heap_kept K2.out hb nr_)
     clear hb B2 K2
     go_wp2_with fail
     refine Calls.mono (Hs2.out _) ?_
     rintro e w4 ⟨rfl,hb⟩
     have B4:=Lib.hid (B3.out.trans (hb.mono B3.out.size))
     have K4:=Lib.hid (heap_kept K3.out hb nr_)
     clear hb B3 K3
     go_wp2_with fail
     go_roundw
     case rel=>exact ⟨n * 2,hp2,hn2,rfl,B4,K4⟩
     case measure=>simp [intOf]; omega
end Go.Proofs.YtpbapojnbmbdlaaGreatDoor

namespace Go.Proofs.YtpbapojnbmbdlaaGreatDoor
open Go.RowKit
theorem sgo_ok:∀ (l:List Rat),(∀ q∈l,Sm 30 q)→sgo (l.map qs)=0
 | [],_=>rfl
 | q :: l,h=>by
  have h1:∃ p:Rat,qs q=qs p∧Sm 400 p:=⟨q,rfl,(h q List.mem_cons_self).le (by decide)⟩
  have h2:∃ p:Rat,qs q=qs p∧shortQ p:=⟨q,rfl,h q List.mem_cons_self⟩
  rw [List.map_cons,sgo,if_pos h1,if_pos h2]
  exact sgo_ok l fun p hp=>h p (List.mem_cons_of_mem _ hp)
theorem scode_ok {n:Nat} {l:List Rat} (h:∀ q∈l,Sm 30 q) (hl:l.length=n):scode n (l.map qs)=0:=by
 unfold scode
 rw [if_pos (by rw [List.length_map]; exact hl),sgo_ok l h]
theorem itx_size (z:Int) (D:Nat) (hD:0 < D) (h:z.natAbs < 10 ^ D):(itx z).size≤D + 1:=by
 have h1:=(size_lt z.natAbs D hD).2 h
 have h2:=itx_size_le z
 omega
theorem ssz_ok {l:List Rat} (h:∀ q∈l,Sm 30 q):Ssz (l.map qs):=fun x hx=>by
 obtain ⟨q,hq,rfl⟩:=List.mem_map.1 hx
 have h1:=itx_size q.num 30 (by decide) (h q hq).1
 have h2:=(size_lt q.den 30 (by decide)).2 (h q hq).2
 exact ⟨Nat.le_trans h1 (by decide),Nat.le_trans h2 (by decide)⟩
theorem lcode_two {ps:List Int} {la lb:List Rat} (hp:pcode ps=0) (ha:∀ q∈la,Sm 30 q) (hb:∀ q∈lb,Sm 30 q) (h1:la.length=ps.length) (h2:lb.length=ps.length):lcode ps [la.map qs,lb.map qs]=0:=by
 unfold lcode
 rw [if_pos hp,lgo,if_pos (scode_ok ha h1),lgo,if_pos (scode_ok hb h2),lgo]
theorem SizeOk.le {w:World} {ps:List Int} {a0 a:Option Addr} {l:List Rat} {D E:Nat} (h:SizeOk w ps a0 a l D) (hE:D≤E) (h1:E≤1000):SizeOk w ps a0 a l E :=
 ⟨h.rp,h.rl,h.len,h.n,h.pr,fun q hq=>(h.sm q hq).le hE,h1⟩
theorem checkAll_two (W:World) (ps:List Int) (g:Nat) (a0 a1 a2:Option Addr) (c0 c1 c2:Nat) (la lb:List Rat) (A:SizeOk W ps a0 a1 la 30) (B:SizeOk W ps a0 a2 lb 30) (hp:pcode ps=0) (L:Laid W)
  (h1:W.heap[g]?=some (.cells #[.slice a1 la.length c1,.slice a2 lb.length c2] 50 (0,0))) :
  Gives Tryz.prog 84 #[.slice a0 ps.length c0,.slice (some ⟨g,0,none⟩) 2 2] W (.int .i64 0):=by
 have h1':W.heap[g]?=some (.cells #[.slice a1 (la.map qs).length c1,.slice a2 (lb.map qs).length c2] 50 (0,0)):=by rw [List.length_map,List.length_map]; exact h1
 have hn:=A.n
 have e1:=A.len
 have e2:=B.len
 have h:=checkAll_any W a0 _ c0 2 ps [la.map qs,lb.map qs] A.rp A.i64 (by omega) (rdl_two h1' A.rl B.rl) (by simp)
  (by
   intro l hl
   simp only [List.mem_cons,List.not_mem_nil,or_false] at hl
   rcases hl with rfl | rfl
   ·exact ⟨by rw [List.length_map]; omega,ssz_ok A.sm⟩
   ·exact ⟨by rw [List.length_map]; omega,ssz_ok B.sm⟩) L
 rw [lcode_two hp A.sm B.sm e1 e2] at h
 exact h
set_option maxRecDepth 100000 in
set_option maxHeartbeats 8000000 in
theorem checkQuotient_ok (w:World) (ps:List Int) (a0 a1 a2:Option Addr) (c0 c1 c2:Nat) (la lb:List Rat) (A:SizeOk w ps a0 a1 la 30) (B:SizeOk w ps a0 a2 lb 30) (hp:pcode ps=0) (L:Laid w)
  (hq:tlQ ps lb≠[]) :
  Gives Tryz.prog 91 #[.slice a0 ps.length c0,.slice a1 la.length c1,.slice a2 lb.length c2] w (.int .i64 0):=by
 unfold Gives
 have HB:=Lib.hid B
 have HL:=Lib.hid L
 have Hk:Hid (∀ W g,Below w.heap.size w W→W.heap[g]?=some (.cells #[.slice a1 la.length c1,.slice a2 lb.length c2] 50 (0,0))→Gives Tryz.prog 84 #[.slice a0 ps.length c0,.slice (some ⟨g,0,none⟩) 2 2] W (.int .i64 0)):=fun W g hW hg =>
  checkAll_two W ps g a0 a1 a2 c0 c1 c2 la lb (A.below hW) (B.below hW) hp (L.below hW) hg
 have hz:(((tlQ ps lb).length:Int) == 0)=false:=by
  rw [beq_eq_false_iff_ne]
  intro h
  exact hq (List.eq_nil_of_length_eq_zero (by omega))
 have Ht:Hid (∀ W,Below w.heap.size w W→Calls Tryz.prog 111 #[.slice a0 ps.length c0,.slice a2 lb.length c2] W fun e w'=>∃ b1 d1 b2 d2,e = .returned (.agg (tcells b1 d1 b2 d2 (tlQ ps lb).length (tden lb)))∧TermsAt w' (tlQ ps lb) b1 b2∧Below W.heap.size W w'):=fun W hW =>
  terms_ok (HB.out.below hW) (HL.out.below hW)
 clear A B hp L hq HB HL
 generalize (tlQ ps lb).length=m at *
 go_enter Tryz.func91,Tryz.ntmps91
 go_wp2_with fail
 have B1:=Lib.hid ((Below.refl w.heap.size w).alloc nr_ (.cells #[.slice a1 la.length c1,.slice a2 lb.length c2] 50))
 refine Calls.mono (Hk.out _ _ B1.out (heap_at w _ _ _ rfl)) ?_
 rintro e w1 ⟨rfl,hb⟩
 have B2:=Lib.hid (B1.out.trans (hb.mono B1.out.size))
 clear hb Hk B1
 go_wp2_with fail
 refine Calls.mono (Ht.out _ B2.out) ?_
 rintro e w2 ⟨b1,d1,b2,d2,rfl,T,hb⟩
 have B3:=Lib.hid (B2.out.trans (hb.mono B2.out.size))
 clear hb Ht T
 have hf:∀ W:World,(Instr.field 168 (.agg (tcells b1 d1 b2 d2 m (tden lb))) 0).run Tryz.prog W = .ok (.slice b1 m d1) W:=fun W=>by rfl
 go_wp2_with fail
 go_ret
 exact ⟨rfl,B3.out⟩
end Go.Proofs.YtpbapojnbmbdlaaGreatDoor

namespace Go.Proofs.YtpbapojnbmbdlaaGreatDoor.RX
open Go Go.Sort Go.Proofs.YtpbapojnbmbdlaaGreatDoor
section
variable {P:Program} {ops:Array Oper} {md:Region.Mode} {C:World→Prop}
def noEnter:Op→Bool
 | .move _ | .assign _ | .load _ _ | .fieldAddr _ _ _ | .indexAddr _ _ _ | .extract _ _ | .binOp _ _ _ _ _ | .convert _ _ _=>true
 | _=>false
theorem value_no_enter {s:Sem Value} {w w':World} {f:FuncId} {args:Array Value} (h:(do pure (Next.value (← s)):Sem Next).run P w = .ok (.enter f args) w'):False:=by
 simp only [Sem.run_bind,Sem.run_pure] at h
 cases hs:s.run P w with
 | ok v w1=>rw [hs] at h; simp [Result.andThen] at h
 | halt x w1=>rw [hs] at h; simp [Result.andThen] at h
theorem no_enter {o:Oper} {a:Act} {w w':World} {f:FuncId} {args:Array Value} (ho:noEnter o.op=true) (h:(execOp a.eval o).run P w = .ok (.enter f args) w'):False:=by
 have cases5:(∃ x,o.op = .move x)∨(∃ x,o.op = .assign x)∨(∃ t x,o.op = .load t x)∨(∃ t x k,o.op = .fieldAddr t x k)∨(∃ t x y,o.op = .indexAddr t x y)∨(∃ x k,o.op = .extract x k)∨(∃ b t x y r,o.op = .binOp b t x y r)∨(∃ s d x,o.op = .convert s d x):=by
  cases hop:o.op <;> rw [hop] at ho <;> first | (simp [noEnter] at ho; done) | simp
 rcases cases5 with ⟨x,hop⟩ | ⟨x,hop⟩ | ⟨t,x,hop⟩ | ⟨t,x,k,hop⟩ | ⟨t,x,y,hop⟩ | ⟨x,k,hop⟩ | ⟨b,t,x,y,r,hop⟩ | ⟨s,d,x,hop⟩
 ·rw [BigFrame.run_move x hop] at h; cases h
 ·rw [BigFrame.run_assign x hop] at h; cases h
 all_goals
  unfold execOp at h
  rw [hop] at h
  exact value_no_enter h
theorem still_of_quiet {o:Oper} {a:Act} {w:World} {v:Value} (ho:noEnter o.op=true) (h:o.quietAt P a C w v) {K:Act→World→Prop} (hk:K (a.put o.dst v) w):o.wp P a w K (fun _ _ _=>False):=by
 unfold Oper.quietAt at h
 unfold Oper.wp
 have hne:=@no_enter P o a w
 generalize (execOp a.eval o).run P w=r at *
 cases r with
 | ok n w' =>
  cases n <;> simp only [Oper.quietUpon] at h <;> simp only [Oper.upon]
  case value u=>obtain ⟨rfl,rfl⟩:=h; exact hk
  case skip=>obtain ⟨rfl,rfl⟩:=h; exact hk
  case enter f args=>exact (hne ho rfl).elim
 | halt x w'=>simp only [Oper.quietUpon] at h
def safeW (C:World→Prop) (s:Nat) (listed:Array Bool) (w:World):Prop:=listed.getD s false=true∨C w
def anyR (P:Program) (md:Region.Mode) (ops:Array Oper) (C:World→Prop) (s:Nat) (Q:Act→World→Prop):Nat→Array Bool→Act→World→Prop
 | 0,listed,a,w=>Region.ready md ops listed=[]∧Q a w
 | f + 1,listed,a,w=>Region.ready md ops listed≠[]∧∀ i∈Region.ready md ops listed,
   wpOp P ops (fun _ _ _=>False) i (fun a' w'=>safeW C s (listed.setIfInBounds i true) w'∧anyR P md ops C s Q f (listed.setIfInBounds i true) a' w') a w
theorem wp_weaken {o:Oper} {a:Act} {w:World} {K:Act→World→Prop} {Q':Exit→Act→World→Prop} (h:o.wp P a w K (fun _ _ _=>False)):o.wp P a w K Q':=by
 unfold Oper.wp at *
 generalize (execOp a.eval o).run P w=r at *
 cases r with
 | ok n w' =>
  cases n <;> simp only [Oper.upon] at h ⊢ <;>
   first
    | exact h
    | exact Calls.mono h (fun e w'' he=>by cases e <;> first | exact he | exact he.elim | (obtain ⟨_,_,hf⟩:=he; exact hf.elim))
    | exact Rows.mono h (fun _ _ he=>he)
 | halt x w'=>cases x <;> simp only [Oper.upon] at h <;> exact h.elim
theorem wpOp_weaken {i:Nat} {a:Act} {w:World} {K K':Act→World→Prop} {Q':Exit→Act→World→Prop} (hk:∀ a w,K a w→K' a w) (h:wpOp P ops (fun _ _ _=>False) i K a w):wpOp P ops Q' i K' a w:=by
 unfold wpOp at *
 split
 ·rename_i ho; simp only [ho] at h; exact hk _ _ h
 ·rename_i o ho
  simp only [ho] at h
  split
  ·rename_i hw
   simp only [hw,if_true] at h
   rcases h with h | ⟨_,_,_,hf⟩
   ·exact .inl (Oper.wp_mono hk (wp_weaken h))
   ·exact hf.elim
  ·rename_i hw; simp only [hw] at h; exact hk _ _ h
theorem wpOp_strong {i:Nat} {a:Act} {w:World} {K:Act→World→Prop} {Q':Exit→Act→World→Prop} (hq:∀ e a w,Q' e a w→e = .normal) (h:wpOp P ops Q' i K a w):wpOp P ops (fun _ _ _=>False) i K a w:=by
 have hout:¬ LetsOut Q':=fun ⟨a,w,h⟩=>by have:=hq _ _ _ h; cases this
 unfold wpOp at *
 split
 ·rename_i ho; simp only [ho] at h; exact h
 ·rename_i o ho
  simp only [ho] at h
  split
  ·rename_i hw
   simp only [hw,if_true] at h
   rcases h with h | ⟨_,h⟩
   ·left
    unfold Oper.wp at *
    generalize (execOp a.eval o).run P w=r at *
    cases r with
    | ok n w' =>
     cases n <;> simp only [Oper.upon] at h ⊢ <;>
      first
       | exact h
       | exact Calls.mono h (fun e w'' he=>by cases e <;> first | exact he | (have:=hq _ _ _ he; cases this) | exact absurd he hout)
       | exact Rows.mono h (fun _ _ he=>he)
    | halt x w'=>cases x <;> simp only [Oper.upon] at h <;> first | exact h.elim | (have:=hq _ _ _ h; cases this)
   ·exact absurd h hout
  ·rename_i hw; simp only [hw] at h; exact h
theorem anyR_any {s:Nat} {Q:Act→World→Prop} {Q':Exit→Act→World→Prop} (hQ:∀ a w,Q a w→Q' .normal a w) :
  ∀ (f:Nat) (listed:Array Bool) (a:Act) (w:World),anyR P md ops C s Q f listed a w→wpAny P md ops Q' f listed a w
 | 0,_,_,_,h=>⟨h.1,hQ _ _ h.2⟩
 | f + 1,_,_,_,h=>⟨fun h0=>absurd h0 h.1,fun i hi=>wpOp_weaken (fun a' w' h'=>anyR_any hQ f _ a' w' h'.2) (h.2 i hi)⟩
structure RInv (md:Region.Mode) (ops:Array Oper) (listed:Array Bool):Prop where
 size:listed.size=ops.size
 closed:∀ j oj,ops[j]?=some oj→listed.getD j false=true→∀ e∈oj.after,Region.binds md e=true→listed.getD e.on false=true
theorem RInv.set {i:Nat} {listed:Array Bool} (inv:RInv md ops listed) (hi:i∈Region.ready md ops listed):RInv md ops (listed.setIfInBounds i true):=by
 obtain ⟨_,oi,hoi,hall⟩:=mem_ready.1 hi
 refine ⟨by simp [inv.size],fun j oj hj hl e he hb=>?_⟩
 by_cases hij:i=j
 ·subst hij
  have:oj=oi:=Option.some.inj (hj.symm.trans hoi)
  subst this
  exact getD_set_true (hall e he hb)
 ·rw [getD_set_ne false hij] at hl
  exact getD_set_true (inv.closed j oj hj hl e he hb)
def reachB (md:Region.Mode) (ops:Array Oper):Nat→Nat→Nat→Bool
 | 0,_,_=>false
 | f + 1,s,i=>match ops[s]? with
  | some o=>o.after.any fun e=>Region.binds md e && (e.on == i || reachB md ops f e.on i)
  | none=>false
theorem reach_listed {listed:Array Bool} (inv:RInv md ops listed):∀ (f s i:Nat),reachB md ops f s i=true→listed.getD s false=true→listed.getD i false=true
 | 0,_,_,h,_=>by cases h
 | f + 1,s,i,h,hs=>by
  unfold reachB at h
  split at h
  ·rename_i o ho
   obtain ⟨e,he,hb⟩:=Array.any_eq_true'.1 h
   simp only [Bool.and_eq_true,Bool.or_eq_true,beq_iff_eq] at hb
   have hl:=inv.closed s o ho hs e he hb.1
   rcases hb.2 with h2 | h2
   ·rw [← h2]; exact hl
   ·exact reach_listed inv f e.on i h2 hl
  ·cases h
def ReadsIn (P:Program) (ops:Array Oper) (md:Region.Mode) (C:World→Prop) (s i:Nat) (o:Oper) (v:Value) (a:Act):Prop :=
 (reachB md ops 4 s i=true∧YieldsIn P ops C o v a)∨YieldsIn P ops (fun _=>True) o v a
theorem ReadsIn.of_same {s i:Nat} {o:Oper} {v:Value} {a a':Act} (hy:ReadsIn P ops md C s i o v a) (he:execOp a'.eval o=execOp a.eval o)
  (hw:Region.wanted o (yielded ops a'.tmps)=Region.wanted o (yielded ops a.tmps)):ReadsIn P ops md C s i o v a' :=
 hy.imp (fun ⟨h1,h2⟩=>⟨h1,h2.of_same he hw⟩) (fun h=>h.of_same he hw)
theorem reads_op {s i:Nat} {o:Oper} {v:Value} {a:Act} {w:World} {listed:Array Bool} (hi:ops[i]?=some o) (hne:noEnter o.op=true) (inv:RInv md ops listed) (hr:i∈Region.ready md ops listed) (hs:safeW C s listed w)
  (hy:ReadsIn P ops md C s i o v a) {K:Act→World→Prop} (hk:K (a.put o.dst v) w):wpOp P ops (fun _ _ _=>False) i K a w:=by
 have key:∀ D:World→Prop,D w→YieldsIn P ops D o v a→wpOp P ops (fun _ _ _=>False) i K a w:=fun D hD h=>by
  unfold wpOp
  simp only [hi]
  rcases h with ⟨h1,h2⟩ | ⟨h1,rfl⟩
  ·simp only [h1,if_true]
   exact .inl (still_of_quiet hne (h2 w hD) hk)
  ·simp only [h1,Bool.false_eq_true,if_false]
   exact hk
 rcases hy with ⟨hw,h⟩ | h
 ·refine key C ?_ h
  rcases hs with hs | hs
  ·have:=reach_listed inv 4 s i hw hs
   rw [getD_both (mem_ready.1 hr).1] at this
   cases this
  ·exact hs
 ·exact key _ trivial h
theorem wpOp_put {j:Nat} {oi oj:Oper} {v:Value} (hj:ops[j]?=some oj) (hap:oi.apart ops oj=true)
  (hsi:∀ cs b,oi.op ≠ .select cs b) (hsj:∀ cs b,oj.op ≠ .select cs b) {s i:Nat} {K:Act→World→Prop} {a:Act} {w:World}
  (hy:ReadsIn P ops md C s i oi v a) (h:wpOp P ops (fun _ _ _=>False) j K (a.put oi.dst v) w) :
  wpOp P ops (fun _ _ _=>False) j (fun a' w'=>ReadsIn P ops md C s i oi v a'∧K (a'.put oi.dst v) w') a w:=by
 obtain ⟨h1,h2,h3⟩:=Oper.apart_spec hap
 have keep:∀ (a:Act),ReadsIn P ops md C s i oi v a→∀ u,ReadsIn P ops md C s i oi v (a.put oj.dst u):=fun a hy u =>
  hy.of_same (execOp_put oi hsi a oj.dst u h3) (wanted_put oi a oj.dst u h3)
 have keepd:∀ d,ReadsIn P ops md C s i oi v ({ a with defers:=d :: a.defers }:Act):=fun d=>hy.of_same rfl rfl
 unfold wpOp at *
 simp only [hj] at *
 rw [wanted_put oj a oi.dst v h1] at h
 split
 ·rename_i hw
  simp only [hw,if_true] at h
  left
  rcases h with h | ⟨_,_,_,hf⟩
  ·unfold Oper.wp at *
   rw [execOp_put oj hsj a oi.dst v h1] at h
   generalize (execOp a.eval oj).run P w=r at *
   cases r with
   | ok n w' =>
    cases n <;> simp only [Oper.upon] at h ⊢
    case value u=>exact ⟨keep a hy u,by rw [← Act.put_comm a v u h2]; exact h⟩
    case skip=>exact ⟨keep a hy undef,by rw [← Act.put_comm a v undef h2]; exact h⟩
    case defer d =>
     refine ⟨keep _ (keepd d) undef,?_⟩
     rw [Act.put_defers] at h
     rw [← Act.put_comm _ v undef h2]
     exact h
    case enter f args =>
     exact Calls.mono h (fun e w'' he=>by
      cases e
      case returned u=>exact ⟨keep a hy u,by rw [← Act.put_comm a v u h2]; exact he⟩
      case panicked c=>exact he
      case outgrown=>obtain ⟨_,_,hf⟩:=he; exact hf.elim)
    case row row args=>exact Rows.mono h (fun u w'' he=>⟨keep a hy u,by rw [← Act.put_comm a v u h2]; exact he⟩)
    all_goals exact h
   | halt x w'=>cases x <;> simp only [Oper.upon] at h <;> exact h.elim
  ·exact hf.elim
 ·rename_i hw
  simp only [hw] at h
  exact ⟨keep a hy _,by rw [← Act.put_comm a v undef h2]; exact h⟩
theorem anyR_first {s i:Nat} {oi:Oper} {v:Value} {Q:Act→World→Prop} (hi:ops[i]?=some oi) (his:i≠s) (hne:noEnter oi.op=true) (hsel:∀ (j:Nat) (o:Oper) cs b,ops[j]?=some o→o.op ≠ .select cs b) :
  ∀ (f:Nat) (listed:Array Bool) (a:Act) (w:World),RInv md ops listed →
   (∀ j oj,ops[j]?=some oj→j≠i→listed.getD j true=false→(∀ e∈oj.after,Region.binds md e=true→e.on≠i)→oi.apart ops oj=true) →
   i∈Region.ready md ops listed→ReadsIn P ops md C s i oi v a→safeW C s listed w →
   anyR P md ops C s Q f (listed.setIfInBounds i true) (a.put oi.dst v) w→anyR P md ops C s Q (f + 1) listed a w:=by
 intro f
 induction f with
 | zero =>
  intro listed a w inv _ hr hy hs H
  refine ⟨fun h=>(by rw [h] at hr; cases hr),fun j hj=>?_⟩
  by_cases hji:j=i
  ·subst hji
   exact reads_op hi hne inv hr hs hy ⟨hs.imp (fun h=>getD_set_true h) id,H⟩
  ·have:=ready_mono hj hji
   rw [H.1] at this
   cases this
 | succ f ih =>
  intro listed a w inv hfree hr hy hs H
  have hun:=(mem_ready.1 hr).1
  refine ⟨fun h=>(by rw [h] at hr; cases hr),fun j hj=>?_⟩
  by_cases hji:j=i
  ·subst hji
   exact reads_op hi hne inv hr hs hy ⟨hs.imp (fun h=>getD_set_true h) id,H⟩
  ·have h1:=H.2 j (ready_mono hj hji)
   obtain ⟨hjun,oj,hoj,hall⟩:=mem_ready.1 hj
   have hnot:∀ e∈oj.after,Region.binds md e=true→e.on≠i:=fun e he hb heq=>by
    have h1:=hall e he hb
    rw [heq,getD_both hun] at h1
    cases h1
   have h2:=wpOp_put hoj (hfree j oj hoj hji hjun hnot) (fun cs b=>hsel i oi cs b hi) (fun cs b=>hsel j oj cs b hoj) hy h1
   have hfree':∀ k ok,ops[k]?=some ok→k≠i→(listed.setIfInBounds j true).getD k true=false →
     (∀ e∈ok.after,Region.binds md e=true→e.on≠i)→oi.apart ops ok=true:=fun k ok hk hki hun hno=>by
    refine hfree k ok hk hki ?_ hno
    by_cases hjk:j=k
    ·subst hjk; exact hjun
    ·rw [getD_set_ne true hjk] at hun; exact hun
   have hr':=ready_mono hr (Ne.symm hji)
   refine wpOp_mono (fun a' w' h3=>?_) h2
   obtain ⟨hy',hs',H'⟩:=h3
   have hs2:safeW C s (listed.setIfInBounds j true) w':=by
    rcases hs' with h | h
    ·rw [Array.setIfInBounds_comm _ _ (Ne.symm hji),getD_set_ne false his] at h
     exact .inl h
    ·exact .inr h
   refine ⟨hs2,ih (listed.setIfInBounds j true) a' w' (inv.set hj) hfree' hr' hy' hs2 ?_⟩
   rw [Array.setIfInBounds_comm _ _ hji]
   exact H'
def ordB (md:Region.Mode) (ops:Array Oper) (s:Nat):List (Nat×Nat)→Array Bool→Bool
 | [],listed=>(Region.ready md ops listed).isEmpty
 | (k,i) :: l,listed =>
  (if k=0 then decide (Region.ready md ops listed=[i])
  else (Region.ready md ops listed).contains i && Region.free md ops listed i && (match ops[i]? with | some o=>noEnter o.op | none=>false) && decide (i≠s) && (k == 2 || reachB md ops 4 s i)) &&
  ordB md ops s l (listed.setIfInBounds i true)
def walkR (P:Program) (ops:Array Oper) (C:World→Prop) (s:Nat) (Q:Act→World→Prop):List (Nat×Nat)→Bool→Act→World→Prop
 | [],_,a,w=>Q a w
 | (k,i) :: l,b,a,w =>
  if k=0 then wpList P ops (fun e a' w'=>e = .normal∧((b || i == s)=true∨C w')∧walkR P ops C s Q l (b || i == s) a' w') (ops[i]?).toList a w
  else if k=2 then wpQuiet P ops (fun _=>True) (fun a'=>walkR P ops C s Q l b a' w) (ops[i]?).toList a
  else wpQuiet P ops C (fun a'=>walkR P ops C s Q l b a' w) (ops[i]?).toList a
theorem qOp_of_list {i:Nat} {o:Oper} {a:Act} {D:World→Prop} {K:Act→Prop} (hi:ops[i]?=some o) (h:wpQuiet P ops D K (ops[i]?).toList a):qOp P ops D i K a:=by
 rw [hi] at h
 unfold qOp
 simp only [hi]
 exact h
theorem anyR_walk {s:Nat} {Q:Act→World→Prop} (hsel:Region.noSelect ops=true) :
  ∀ (l:List (Nat×Nat)) (listed:Array Bool) (a:Act) (w:World),RInv md ops listed→safeW C s listed w→ordB md ops s l listed=true →
   walkR P ops C s Q l (listed.getD s false) a w→anyR P md ops C s Q l.length listed a w
 | [],listed,a,w,_,_,hB,h=>⟨by simpa [ordB] using hB,h⟩
 | (k,i) :: l,listed,a,w,inv,hs,hB,h=>by
  simp only [ordB,Bool.and_eq_true] at hB
  obtain ⟨hB1,hB2⟩:=hB
  by_cases hk:k=0
  ·subst hk
   simp only [if_true,decide_eq_true_eq] at hB1
   have hr:i∈Region.ready md ops listed:=by rw [hB1]; exact List.mem_singleton.2 rfl
   have hgs:(listed.setIfInBounds i true).getD s false=(listed.getD s false || i == s):=by
    by_cases his:i=s
    ·subst his
     obtain ⟨hun,o,ho,_⟩:=mem_ready.1 hr
     have hlt:i < listed.size:=by rw [inv.size]; exact (Array.getElem?_eq_some_iff.1 ho).1
     simp [hlt]
    ·rw [getD_set_ne false his]
     simp [his]
   refine ⟨by rw [hB1]; simp,fun j hj=>?_⟩
   rw [hB1] at hj
   obtain rfl:=List.mem_singleton.1 hj
   obtain ⟨hun,o,ho,_⟩:=mem_ready.1 hr
   simp only [walkR,if_true,ho,Option.toList] at h
   have h2:wpOp P ops (fun e a' w'=>e = .normal∧((listed.getD s false || j == s)=true∨C w')∧walkR P ops C s Q l (listed.getD s false || j == s) a' w') j (fun a' w'=>((listed.getD s false || j == s)=true∨C w')∧walkR P ops C s Q l (listed.getD s false || j == s) a' w') a w:=by
    unfold wpOp
    simp only [ho]
    simp only [wpList,true_and] at h
    exact h
   have h3:=wpOp_strong (fun e a' w' hq=>hq.1) h2
   refine wpOp_mono (fun a' w' h4=>?_) h3
   have hs2:safeW C s (listed.setIfInBounds j true) w':=by unfold safeW; rw [hgs]; exact h4.1
   exact ⟨hs2,anyR_walk hsel l _ a' w' (inv.set hr) hs2 hB2 (by rw [hgs]; exact h4.2)⟩
  ·rw [if_neg hk] at hB1
   simp only [Bool.and_eq_true,decide_eq_true_eq,Bool.or_eq_true,beq_iff_eq] at hB1
   obtain ⟨⟨⟨⟨hr,hf⟩,hne⟩,his⟩,hw⟩:=hB1
   have hr':i∈Region.ready md ops listed:=by simpa using hr
   obtain ⟨_,o,ho,_⟩:=mem_ready.1 hr'
   have hne':noEnter o.op=true:=by rw [ho] at hne; exact hne
   have hgs:(listed.setIfInBounds i true).getD s false=listed.getD s false:=getD_set_ne false his
   have hs2:safeW C s (listed.setIfInBounds i true) w:=by unfold safeW; rw [hgs]; exact hs
   simp only [walkR,if_neg hk] at h
   have hread:∃ v,ReadsIn P ops md C s i o v a∧walkR P ops C s Q l (listed.getD s false) (a.put o.dst v) w:=by
    by_cases h2:k=2
    ·rw [if_pos h2] at h
     obtain ⟨v,hy,hK⟩:=yieldsIn_of_qOp ho (qOp_of_list ho h)
     exact ⟨v,.inr hy,hK⟩
    ·rw [if_neg h2] at h
     obtain ⟨v,hy,hK⟩:=yieldsIn_of_qOp ho (qOp_of_list ho h)
     exact ⟨v,.inl ⟨hw.resolve_left h2,hy⟩,hK⟩
   obtain ⟨v,hy,hK⟩:=hread
   exact anyR_first ho his hne' (Region.noSelect_spec hsel) l.length listed a w inv (Region.free_spec ho hf) hr' hy hs
    (anyR_walk hsel l _ _ w (inv.set hr') hs2 hB2 (by rw [hgs]; exact hK))
theorem pick_one:∀ (l:List Oper) (i:Nat),(l.toArray[i]?).toList=(l.drop i).take 1
 | [],i=>by simp
 | o :: l,0=>by simp
 | o :: l,i + 1=>by
  have:=pick_one l i
  simpa using this
theorem walkR_read {s i:Nat} {Q:Act→World→Prop} {l:List (Nat×Nat)} {b:Bool} {a:Act} {w:World} {lo:List Oper} (h:wpQuiet P lo.toArray C (fun a'=>walkR P lo.toArray C s Q l b a' w) ((lo.drop i).take 1) a):walkR P lo.toArray C s Q ((1,i) :: l) b a w:=by
 simp only [walkR,pick_one]
 exact h
theorem walkR_any {s i:Nat} {Q:Act→World→Prop} {l:List (Nat×Nat)} {b:Bool} {a:Act} {w:World} {lo:List Oper} (h:wpQuiet P lo.toArray (fun _=>True) (fun a'=>walkR P lo.toArray C s Q l b a' w) ((lo.drop i).take 1) a):walkR P lo.toArray C s Q ((2,i) :: l) b a w:=by
 simp only [walkR,pick_one]
 exact h
theorem walkR_move {s i:Nat} {Q:Act→World→Prop} {l:List (Nat×Nat)} {b:Bool} {a:Act} {w:World} {lo:List Oper}
  (h:wpList P lo.toArray (fun e a' w'=>e = .normal∧((b || i == s)=true∨C w')∧walkR P lo.toArray C s Q l (b || i == s) a' w') ((lo.drop i).take 1) a w):walkR P lo.toArray C s Q ((0,i) :: l) b a w:=by
 simp only [walkR,pick_one]
 exact h
theorem wp_region_readers {id:Nat} {Q:Exit→Act→World→Prop} {a:Act} {w:World} {l:List Oper} (s:Nat) (ord:List (Nat×Nat)) (C:World→Prop) (hm:P.follows .mixedOrders=true)
  (hB:(Region.noSelect l.toArray && decide (ord.length=l.length) && ordB .any l.toArray s ord (Array.replicate l.length false))=true)
  (hC:C { w with drawn:=w.drawn + 1 }) (h:walkR P l.toArray C s (fun a' w'=>Q .normal a' w') ord false a { w with drawn:=w.drawn + 1 }):(Code.region id l.toArray true).wp P Q a w:=by
 simp only [Bool.and_eq_true,decide_eq_true_eq] at hB
 obtain ⟨⟨hsel,hlen⟩,hord⟩:=hB
 refine wp_region_any hm ?_
 have inv0:RInv .any l.toArray (Array.replicate l.length false):=⟨by simp,fun j oj _ hl=>(by rw [getD_replicate_false] at hl; cases hl)⟩
 have H:=anyR_walk (md := .any) hsel ord _ a _ inv0 (.inr hC) hord (by rw [getD_replicate_false]; exact h)
 have:=anyR_any (Q':=Q) (fun a w h=>h) _ _ _ _ H
 rw [hlen] at this
 simpa using this
end
end Go.Proofs.YtpbapojnbmbdlaaGreatDoor.RX

namespace Go.Proofs.YtpbapojnbmbdlaaGreatDoor
open Go.RowKit
theorem fieldsQ : (Tryz.prog.fieldsOf 92).toList.map (fun f => (f.name, f.type, f.offset)) = [("Num", 54, 0), ("Den", 54, 1)] := by kernel_rfl
theorem stoodQ:Tryz.prog.stoodInHeld 92=false:=by kernel_rfl
theorem guardQ:Tryz.prog.eqGuardType Tryz.prog.depth 92=false:=by kernel_rfl
theorem eqFields_two (W : World) (d : Nat) (s t s' t' : ByteArray) (fs : List Field) (h : fs.map (fun f => (f.name, f.type, f.offset)) = [("Num", 54, 0), ("Den", 54, 1)]) :
  (Op.eqFields (d + 1) #[.string s,.string t] #[.string s',.string t'] fs).run Tryz.prog W = .ok (s.toList == s'.toList && t.toList == t'.toList) W:=by
 obtain ⟨f,g,rfl⟩:∃ f g,fs=[f,g]:=by
  have hl:=congrArg List.length h
  rw [List.length_map] at hl
  cases fs with
  | nil=>simp at hl
  | cons f fs =>
   cases fs with
   | nil=>simp at hl
   | cons g fs =>
    cases fs with
    | nil=>exact ⟨f,g,rfl⟩
    | cons x fs=>simp at hl
 simp only [List.map_cons,List.map_nil,List.cons.injEq,Prod.mk.injEq,and_true] at h
 obtain ⟨⟨h1,h2,h3⟩,h4,h5,h6⟩:=h
 have hu:=Tryz.underlying54
 simp [Op.eqFields,h1,h2,h3,h4,h5,h6,go_sem,hu]
 by_cases q1:s.toList=s'.toList <;> by_cases q2:t.toList=t'.toList <;> simp [q1,q2]
theorem structQ:Tryz.prog.underlying 92=some (.struct (Tryz.prog.fieldsOf 92)):=by
 have h:=Tryz.underlying92
 unfold Program.fieldsOf
 rw [h]
theorem neqQ_run (W:World) (s t s' t':ByteArray) :
  (binOp .neq 92 (.agg #[.string s,.string t]) (.agg #[.string s',.string t'])).run Tryz.prog W = .ok (.bool (!(s.toList == s'.toList && t.toList == t'.toList))) W:=by
 rw [run_neq_struct,show (10000:Nat)=9998 + 1 + 1 from rfl,run_equalIn_agg (ht:=structQ) (hp:=stoodQ),eqFields_two W _ s t s' t' _ fieldsQ]
 rfl
theorem guardQ_run (W:World) (op:BinOp) (x y:Operand) (xs ys:Array Value):(eqGuard op 92 x y (.agg xs) (.agg ys)).run Tryz.prog W = .ok () W:=run_eqGuard_agg W op _ x y xs ys guardQ
theorem toList_inj {a b:ByteArray} (h:(a.toList == b.toList)=true):a=b:=by
 have h1:=eq_of_beq h
 rw [ByteArray.toList_eq,ByteArray.toList_eq] at h1
 exact ByteArray.ext (Array.toList_inj.1 h1)
theorem qs_beq (p q:Rat):((itx p.num).toList == (itx q.num).toList && (dec p.den).toList == (dec q.den).toList)=decide (p=q):=by
 by_cases h:p=q
 ·subst h; simp
 ·rw [decide_eq_false h,Bool.eq_false_iff]
  intro hc
  rw [Bool.and_eq_true] at hc
  exact h (Rat.ext (itx_inj (toList_inj hc.1)) (decB_inj (toList_inj hc.2)))
theorem quiet_neqQ {C:World→Prop} {K:Act→Prop} {a:Act} {o:Oper} (x y:Operand) (r:TypeId) (p q:Rat) (h:o.op = .binOp .neq 92 x y r) (hx:a.eval x = .agg #[.string (itx p.num),.string (dec p.den)]) (hy:a.eval y = .agg #[.string (itx q.num),.string (dec q.den)])
  (hk:K (a.put o.dst (.bool (!decide (p=q))))):o.quiet Tryz.prog a C K :=
 ⟨_,fun w _=>by
  unfold Oper.quietAt execOp
  rw [h]
  simp only [Sem.run_bind,hx,hy,guardQ_run,neqQ_run,Result.andThen_ok,Sem.run_pure,qs_beq]
  exact ⟨rfl,rfl⟩,hk⟩
end Go.Proofs.YtpbapojnbmbdlaaGreatDoor

namespace Go.Proofs.YtpbapojnbmbdlaaGreatDoor
open Go.RowKit
theorem Sm.inv {D:Nat} {q:Rat} (h:Sm D q) (_:0 < D):Sm D q⁻¹:=by
 have e:q⁻¹=Rat.inv q:=rfl
 have h1:=h.1
 have h2:=h.2
 rw [e]
 unfold Rat.inv
 split
 ·refine ⟨?_,h.1⟩
  show (-(q.den:Int)).natAbs < _
  omega
 ·split
  ·exact ⟨by show ((q.den:Nat):Int).natAbs < _; omega,h.1⟩
  ·exact h
theorem Sm.div {D E:Nat} {a b:Rat} (ha:Sm D a) (hb:Sm E b):Sm (D + E) (a / b):=by
 rw [Rat.div_def]; exact ha.mul (hb.inv hb.pos)
def ratioK (la lb:List Rat):Nat→Rat
 | 0=>0
 | k + 1=>if lb.getD k 0=0 then ratioK la lb k else la.getD k 0 / lb.getD k 0
theorem getD_sm {D:Nat} {l:List Rat} (h:∀ q∈l,Sm D q) (hD:0 < D) (k:Nat):Sm D (l.getD k 0):=by
 rw [List.getD_eq_getElem?_getD]
 rcases Nat.lt_or_ge k l.length with hk | hk
 ·rw [List.getElem?_eq_getElem hk]; exact h _ (List.getElem_mem hk)
 ·rw [List.getElem?_eq_none hk]; exact Sm.zero.le hD
theorem ratioK_sm {D:Nat} {la lb:List Rat} (ha:∀ q∈la,Sm D q) (hb:∀ q∈lb,Sm D q) (hD:0 < D):∀ k,Sm (D + D) (ratioK la lb k)
 | 0=>Sm.zero.le (by omega)
 | k + 1=>by
  unfold ratioK
  split
  ·exact ratioK_sm ha hb hD k
  ·exact (getD_sm ha hD k).div (getD_sm hb hD k)
def ratioB (la lb:List Rat) (n:Nat) (k:Rat):Bool:=decide (∀ j,j < n→k * lb.getD j 0=la.getD j 0)
theorem obj_pair {w:World} {g:Nat} {a b:Value} {t:TypeId} (h:w.heap[g]?=some (.cells #[a,b] t (0,0))) (x y:Value) :
  ((w.setCell ⟨g,0,none⟩ x).setCell ⟨g,1,none⟩ y).heap[g]?=some (.cells #[x,y] t (0,0)):=by
 rw [obj_set (obj_set h 0 x) 1 y]; rfl
theorem obj_pair_other {w:World} {g k:Nat} {o:Obj} (h:w.heap[k]?=some o) (hk:g≠k) (x y:Value) :
  ((w.setCell ⟨g,0,none⟩ x).setCell ⟨g,1,none⟩ y).heap[k]?=some o:=by
 rw [obj_other hk,obj_other hk]; exact h
structure BW (W:World) where
 w:World
 b:Below W.heap.size W w
theorem BW.cell {W:World} {p:Addr} {v:Value} (h:W.cell? p=some v) (q:BW W):q.w.cell? p=some v:=(q.b.cell (block_lt_of_cell h)).trans h
set_option maxRecDepth 100000 in
set_option maxHeartbeats 8000000 in
theorem ratio_any (w:World) (a1 a2:Option Addr) (c1 c2 n D:Nat) (la lb:List Rat) (ra:Rd w a1 (cellsQ la)) (rb:Rd w a2 (cellsQ lb)) (ea:la.length=n) (eb:lb.length=n)
  (sa:∀ q∈la,Sm D q) (sb:∀ q∈lb,Sm D q) (hn:n≤1000) (hD0:0 < D) (hD:D≤1000) (L:Laid w) :
  Gives Tryz.prog 128 #[.slice a1 n c1,.slice a2 n c2] w (.tuple #[fr (ratioK la lb n),.bool (ratioB la lb n (ratioK la lb n))]):=by
 unfold Gives
 have HL:=Lib.hid L
 have Hra:=Lib.hid ra
 have Hrb:=Lib.hid rb
 have Hea:=Lib.hid ea
 have Heb:=Lib.hid eb
 have Hsa:=Lib.hid sa
 have Hsb:=Lib.hid sb
 have HD:=Lib.hid hD
 have HD0:=Lib.hid hD0
 have B0:=Lib.hid ((Below.refl w.heap.size w).alloc nr_ (.cells #[.string ⟨#[]⟩,.string ⟨#[]⟩] 92))
 have K0:=Lib.hid (heap_at w #[.string ⟨#[]⟩,.string ⟨#[]⟩] 92 _ rfl)
 have S0:Hid ((w.alloc (.cells #[.string ⟨#[]⟩,.string ⟨#[]⟩] 92)).heap.size=w.heap.size + 1):=by show (w.heap.push _).size=_; exact Array.size_push ..
 have Hnum:Hid (∀ W,Below w.heap.size w W→Gives Tryz.prog 90 #[.int .i64 0] W (.agg #[.string (itx 0),.string (dec 1)])):=fun W hW=>number_any W 0 (by decide) (by decide) (HL.out.below hW)
 clear L ra rb ea eb sa sb hD hD0
 go_enter Tryz.func128,Tryz.ntmps128
 go_wp2_with fail
 generalize w.alloc (.cells #[.string ⟨#[]⟩,.string ⟨#[]⟩] 92)=w0 at *
 refine Calls.mono (Hnum.out _ B0.out) ?_
 rintro e w1 ⟨rfl,hb⟩
 have B1:=Lib.hid (B0.out.trans (hb.mono B0.out.size))
 have K1:=Lib.hid (heap_kept K0.out hb nr_)
 have S1:Hid (w.heap.size + 1≤w1.heap.size):=by show _≤_; have:=hb.size; have:=S0.out; omega
 clear hb K0 B0 S0 Hnum
 go_wp2_with fail
 have B2:=Lib.hid (B1.out.alloc B1.out.size (.cells #[.string (itx 0),.string (dec 1)] 92))
 have K2:=Lib.hid (heap_old K1.out (.cells #[.string (itx 0),.string (dec 1)] 92))
 have M2:=Lib.hid (heap_at w1 #[.string (itx 0),.string (dec 1)] 92 _ rfl)
 have hne:w.heap.size≠w1.heap.size:=by have:=S1.out; omega
 have hge:w.heap.size≤w1.heap.size:=by have:=S1.out; omega
 have Hne:=Lib.hid hne
 have Hge:=Lib.hid hge
 generalize w1.alloc (.cells #[.string (itx 0),.string (dec 1)] 92)=w2 at *
 clear K1 B1 S1 hne hge
 generalize w1.heap.size=g1 at *
 go_loopw [14] (fun i wr=>∃ k:Nat,k≤n∧i = .int .i64 k∧Hid (wr.heap[w.heap.size]?=some (.cells #[.string ⟨#[]⟩,.string ⟨#[]⟩] 92 (0,0)))∧Hid (wr.heap[g1]?=some (.cells #[.string (itx (ratioK la lb k).num),.string (dec (ratioK la lb k).den)] 92 (0,0)))∧Hid (Below w.heap.size w wr)) (fun i _=>n - (intOf i).toNat)
 case atStart=>exact ⟨0,Nat.zero_le _,rfl,K2,M2,B2⟩
 case round =>
  obtain ⟨k,hk,rfl,K,M,B⟩:=hrel
  by_cases hlt:k < n
  ·have hlt':(k:Int) < n:=by omega
   have hkb:k < lb.length:=by rw [Heb.out]; exact hlt
   have hka:k < la.length:=by rw [Hea.out]; exact hlt
   obtain ⟨b,off,rfl,hb,hcells⟩:=Hrb.out.open (by rw [cellsQ_length,Heb.out]; omega)
   obtain ⟨x0,x1⟩:=cellsS_rd hcells k (by rw [List.length_map]; exact hkb)
   rw [← B.out.cell (p:=⟨b,off + k * 2,none⟩) hb,qs_getD _ k hkb] at x0
   rw [← B.out.cell (p:=⟨b,off + k * 2 + 1,none⟩) hb,qs_getD _ k hkb] at x1
   have Hxb:Hid (lb.getD k 0=lb[k]):=by show _=_; rw [List.getD_eq_getElem?_getD,List.getElem?_eq_getElem hkb]; rfl
   have Hxa:Hid (la.getD k 0=la[k]):=by show _=_; rw [List.getD_eq_getElem?_getD,List.getElem?_eq_getElem hka]; rfl
   have Sa:=Lib.hid (Hsa.out _ (List.getElem_mem hka))
   have Sb:=Lib.hid (Hsb.out _ (List.getElem_mem hkb))
   obtain ⟨b',off',rfl,hb',hcells'⟩:=Hra.out.open (by rw [cellsQ_length,Hea.out]; omega)
   obtain ⟨y0,y1⟩:=cellsS_rd hcells' k (by rw [List.length_map]; exact hka)
   rw [← B.out.cell (p:=⟨b',off' + k * 2,none⟩) hb',qs_getD _ k hka] at y0
   rw [← B.out.cell (p:=⟨b',off' + k * 2 + 1,none⟩) hb',qs_getD _ k hka] at y1
   have Hs:Hid (ratioK la lb (k + 1)=if lb.getD k 0=0 then ratioK la lb k else la.getD k 0 / lb.getD k 0):=Lib.hid rfl
   rw [Hxb.out,Hxa.out] at Hs
   generalize lb[k]=xb at *
   generalize la[k]=xa at *
   simp only [qs] at x0 x1 y0 y1
   clear hcells hcells' Hxb Hxa
   by_cases h0:xb=0
   ·subst h0
    have Hs':Hid (ratioK la lb (k + 1)=ratioK la lb k):=by show _=_; rw [Hs.out,if_pos rfl]
    have hz:((itx (0:Int)).toList == [48])=true:=by rw [itx_isz]; rfl
    have B':=Lib.hid (B.out.alloc B.out.size (.cells #[.string (itx 0),.string (dec 1)] 92))
    have K':=Lib.hid (heap_old K.out (.cells #[.string (itx 0),.string (dec 1)] 92))
    have M':=Lib.hid (heap_old M.out (.cells #[.string (itx 0),.string (dec 1)] 92))
    clear Hs y0 y1 B K M Sa Sb
    go_wp2_with fail
    go_roundw
    case rel =>
     refine ⟨k + 1,by omega,by go_num,K',?_,B'⟩
     rw [Hs'.out]
     exact M'
    case measure=>simp [intOf]; omega
   ·have Hs':Hid (ratioK la lb (k + 1)=xa / xb):=by show _=_; rw [Hs.out,if_neg h0]
    have hz:((itx xb.num).toList == [48])=false:=by rw [itx_isz]; exact decide_eq_false fun h=>h0 (Rat.num_eq_zero.1 h)
    have B':=Lib.hid (B.out.alloc B.out.size (.cells #[.string (itx xb.num),.string (dec xb.den)] 92))
    have K':=Lib.hid (heap_old K.out (.cells #[.string (itx xb.num),.string (dec xb.den)] 92))
    have M':=Lib.hid (heap_old M.out (.cells #[.string (itx xb.num),.string (dec xb.den)] 92))
    have N':=Lib.hid (heap_at wr #[.string (itx xb.num),.string (dec xb.den)] 92 _ rfl)
    have W':=Lib.hid ((Below.refl wr.heap.size wr).alloc nr_ (.cells #[.string (itx xb.num),.string (dec xb.den)] 92))
    have Y0:=Lib.hid ((W'.out.cell (p:=⟨b',off' + k * 2,none⟩) (Nat.lt_of_lt_of_le hb' B.out.size)).trans y0)
    have Y1:=Lib.hid ((W'.out.cell (p:=⟨b',off' + k * 2 + 1,none⟩) (Nat.lt_of_lt_of_le hb' B.out.size)).trans y1)
    have HDv:Hid (∀ W,Below w.heap.size w W→Gives Tryz.prog 164 #[fr xa,fr xb] W (.tuple #[fr (xa / xb),.int .i64 0])):=fun W hW =>
     divR W xa xb D D Sa.out Sb.out h0 (by have:=HD.out; omega) (HL.out.below hW)
    unfold fr fv at HDv
    clear Hs y0 y1 B K M Sa Sb h0 W'
    have H0:=Lib.hid (show ((0:Int)≤k∧(k:Int) < n) from ⟨by omega,by omega⟩)
    go_wp2_with fail
    generalize wr.alloc (.cells #[.string (itx xb.num),.string (dec xb.den)] 92)=W0 at *
    clear x0 x1
    obtain ⟨k0,k1,-,-⟩:=two_cells N'.out
    have q0:=BW.cell k0
    have q1:=BW.cell k1
    have q2:=BW.cell Y0.out
    have q3:=BW.cell Y1.out
    have hnon:Nonempty (BW W0):=⟨⟨W0,Below.refl _ _⟩⟩
    clear k0 k1 N'
    refine RX.wp_region_readers 9 [(1,0),(1,1),(1,2),(1,3),(1,4),(0,5),(2,6),(2,7),(2,8),(0,9)] (fun w'=>∃ p:BW W0,w'=p.w) (by kernel_rfl) (by kernel_rfl) ?_ ?_
    ·exact ⟨⟨{ W0 with drawn:=W0.drawn + 1 },⟨rfl,rfl,rfl,Nat.le_refl _,fun _ _=>rfl⟩⟩,rfl⟩
    iterate 5 (refine RX.walkR_read ?_; simp only [dsc_,dz_,tsc_,tz_]; go_big_quiet_step (fail); refine wpQuiet_nil ?_)
    clear q0 q1 q2 q3 hnon
    refine RX.walkR_move ?_
    simp only [dsc_,dz_,tsc_,tz_]
    go_wp2_with fail
    refine Calls.mono (HDv.out _ B'.out.drew) ?_
    rintro e w5 ⟨rfl,hb5⟩
    have W5:Hid (Below W0.heap.size W0 w5):=(Below.refl W0.heap.size W0).drew.trans hb5
    have B5:=Lib.hid (B'.out.trans (W5.out.mono B'.out.size))
    have K5:=Lib.hid (heap_kept K'.out W5.out nr_)
    have M5:=Lib.hid (heap_kept M'.out W5.out nr_)
    clear hb5 HDv K' M' B' Y0 Y1
    go_wp2_with fail
    refine ⟨⟨⟨w5,W5.out⟩,rfl⟩,?_⟩
    refine RX.walkR_any ?_
    simp only [dsc_,dz_,tsc_,tz_]
    go_big_quiet_step (fail)
    refine wpQuiet_nil ?_
    refine RX.walkR_any ?_
    simp only [dsc_,dz_,tsc_,tz_]
    go_big_quiet_step (fail)
    refine wpQuiet_nil ?_
    refine RX.walkR_any ?_
    simp only [dsc_,dz_,tsc_,tz_]
    go_big_quiet_step (fail)
    refine wpQuiet_nil ?_
    obtain ⟨k0,k1,f0,f1⟩:=two_cells M5.out
    refine RX.walkR_move ?_
    simp only [dsc_,dz_,tsc_,tz_]
    go_wp2_with fail
    have B6:=Lib.hid ((B5.out.setCell (p:=⟨g1,0,none⟩) Hge.out (.string (itx (xa / xb).num))).setCell (p:=⟨g1,1,none⟩) Hge.out (.string (dec (xa / xb).den)))
    have M6:=Lib.hid (obj_pair M5.out (.string (itx (xa / xb).num)) (.string (dec (xa / xb).den)))
    have K6:=Lib.hid (obj_pair_other K5.out Hne.out.symm (.string (itx (xa / xb).num)) (.string (dec (xa / xb).den)))
    clear k0 k1 f0 f1 K5 M5 B5 W5
    generalize (w5.setCell ⟨g1,0,none⟩ (.string (itx (xa / xb).num))).setCell ⟨g1,1,none⟩ (.string (dec (xa / xb).den))=w6 at *
    simp only [RX.walkR]
    go_wp2
    go_roundw
    case rel =>
     refine ⟨k + 1,by omega,by go_num,K6,?_,B6⟩
     rw [Hs'.out]
     exact M6
    case measure=>simp [intOf]; omega
  ·have hlt':¬ (k:Int) < n:=by omega
   have hkn:k=n:=by omega
   subst hkn
   clear hk hlt
   generalize hq:ratioK la lb k=q at *
   have Sq:Hid (Sm (D + D) q):=by show Sm _ q; rw [← hq]; exact ratioK_sm Hsa.out Hsb.out HD0.out k
   have Hq:=Lib.hid hq
   clear hq
   go_wp2_with fail
   go_loopw [34] (fun i wr=>∃ j:Nat,j≤k∧i = .int .i64 j∧Hid (∀ i,i < j→q * lb.getD i 0=la.getD i 0)∧Hid (wr.heap[w.heap.size]?=some (.cells #[.string ⟨#[]⟩,.string ⟨#[]⟩] 92 (0,0)))∧Hid (wr.heap[g1]?=some (.cells #[.string (itx q.num),.string (dec q.den)] 92 (0,0)))∧Hid (Below w.heap.size w wr)) (fun i _=>k - (intOf i).toNat)
   case atStart=>exact ⟨0,Nat.zero_le _,rfl,fun i hi=>absurd hi (Nat.not_lt_zero _),K,M,B⟩
   case round =>
    clear K M B
    obtain ⟨j,hj,rfl,Hall,K,M,B⟩:=hrel
    by_cases hlt:j < k
    ·have hlt':(j:Int) < k:=by omega
     have hkb:j < lb.length:=by rw [Heb.out]; exact hlt
     have hka:j < la.length:=by rw [Hea.out]; exact hlt
     obtain ⟨b,off,rfl,hb,hcells⟩:=Hrb.out.open (by rw [cellsQ_length,Heb.out]; omega)
     obtain ⟨x0,x1⟩:=cellsS_rd hcells j (by rw [List.length_map]; exact hkb)
     rw [← B.out.cell (p:=⟨b,off + j * 2,none⟩) hb,qs_getD _ j hkb] at x0
     rw [← B.out.cell (p:=⟨b,off + j * 2 + 1,none⟩) hb,qs_getD _ j hkb] at x1
     have Hxb:Hid (lb.getD j 0=lb[j]):=by show _=_; rw [List.getD_eq_getElem?_getD,List.getElem?_eq_getElem hkb]; rfl
     have Hxa:Hid (la.getD j 0=la[j]):=by show _=_; rw [List.getD_eq_getElem?_getD,List.getElem?_eq_getElem hka]; rfl
     have Sb:=Lib.hid (Hsb.out _ (List.getElem_mem hkb))
     obtain ⟨b',off',rfl,hb',hcells'⟩:=Hra.out.open (by rw [cellsQ_length,Hea.out]; omega)
     obtain ⟨y0,y1⟩:=cellsS_rd hcells' j (by rw [List.length_map]; exact hka)
     rw [← B.out.cell (p:=⟨b',off' + j * 2,none⟩) hb',qs_getD _ j hka] at y0
     rw [← B.out.cell (p:=⟨b',off' + j * 2 + 1,none⟩) hb',qs_getD _ j hka] at y1
     generalize lb[j]=xb at *
     generalize la[j]=xa at *
     simp only [qs] at x0 x1 y0 y1
     have B':=Lib.hid (B.out.alloc B.out.size (.cells #[.string (itx xb.num),.string (dec xb.den)] 92))
     have K':=Lib.hid (heap_old K.out (.cells #[.string (itx xb.num),.string (dec xb.den)] 92))
     have M':=Lib.hid (heap_old M.out (.cells #[.string (itx xb.num),.string (dec xb.den)] 92))
     have N':=Lib.hid (heap_at wr #[.string (itx xb.num),.string (dec xb.den)] 92 _ rfl)
     have W':=Lib.hid ((Below.refl wr.heap.size wr).alloc nr_ (.cells #[.string (itx xb.num),.string (dec xb.den)] 92))
     have Y0:=Lib.hid ((W'.out.cell (p:=⟨b',off' + j * 2,none⟩) (Nat.lt_of_lt_of_le hb' B.out.size)).trans y0)
     have Y1:=Lib.hid ((W'.out.cell (p:=⟨b',off' + j * 2 + 1,none⟩) (Nat.lt_of_lt_of_le hb' B.out.size)).trans y1)
     have HM:Hid (∀ W,Below w.heap.size w W→∀ d os,Calls Tryz.prog 159 #[fr q,fr xb] (Go.Sort.grow (redrawn W d) os) fun e w''=>e = .returned (fr (q * xb))∧∃ p:Regrown,w''=Go.Sort.grow (redrawn W p.d) p.os):=fun W hW =>
      mulR_regrown W q xb (D + D) D Sq.out Sb.out (by have:=HD.out; omega) (HL.out.below hW)
     unfold fr fv at HM
     clear hcells hcells' y0 y1 K M B W' Sb
     have H0:=Lib.hid (show ((0:Int)≤j∧(j:Int) < k) from ⟨by omega,by omega⟩)
     go_wp2_with fail
     generalize wr.alloc (.cells #[.string (itx xb.num),.string (dec xb.den)] 92)=W0 at *
     clear x0 x1
     obtain ⟨k0,k1,-,-⟩:=two_cells N'.out
     obtain ⟨m0,m1,-,-⟩:=two_cells M'.out
     have q0:=cell_regrown k0
     have q1:=cell_regrown k1
     have q2:=cell_regrown Y0.out
     have q3:=cell_regrown Y1.out
     have q4:=cell_regrown m0
     have q5:=cell_regrown m1
     have hM:=HM.out _ B'.out
     clear k0 k1 HM N' m0 m1
     refine wp_region_quiet_below (by kernel_rfl) (by kernel_rfl) ?_
     repeat (first | go_big_quiet_step (with_reducible exact hM _ _) | quiet_step (with_reducible exact hM _ _))
     refine BigFrame.wpQuiet_want rfl fun K hK=>quiet_neqQ _ _ _ (q * xb) xa rfl rfl rfl (hK _ ?_)
     refine wpQuiet_nil ?_
     intro w2 hw2
     obtain ⟨⟨dq,osq⟩,rfl⟩:=hw2
     have W2:=Lib.hid (below_regrown W0 dq osq)
     have B2:=Lib.hid (B'.out.trans (W2.out.mono B'.out.size))
     have K2:=Lib.hid (heap_kept K'.out W2.out nr_)
     have M2:=Lib.hid (heap_kept M'.out W2.out nr_)
     clear K' M' B' Y0 Y1 W2 hM q0 q1 q2 q3 q4 q5
     generalize Go.Sort.grow (redrawn W0 dq) osq=w2 at *
     by_cases hqx:q * xb=xa
     ·rw [decide_eq_true hqx]
      have Hall':Hid (∀ i,i < j + 1→q * lb.getD i 0=la.getD i 0):=fun i hi=>by
       rcases Nat.lt_or_ge i j with h | h
       ·exact Hall.out i h
       ·rw [show i=j by omega,Hxb.out,Hxa.out]; exact hqx
      clear hqx Hall Hxa Hxb
      go_wp2_with fail
      go_roundw
      case rel=>exact ⟨j + 1,by omega,by go_num,Hall',K2,M2,B2⟩
      case measure=>simp [intOf]; omega
     ·rw [decide_eq_false hqx]
      have HB:Hid (ratioB la lb k q=false):=by
       show _=_
       exact decide_eq_false fun h=>hqx (by rw [← Hxb.out,← Hxa.out]; exact h j hlt)
      clear hqx Hall Hxa Hxb
      obtain ⟨k0,k1,f0,f1⟩:=two_cells K2.out
      obtain ⟨m0,m1,-,-⟩:=two_cells M2.out
      go_wp2_with fail
      obtain ⟨c0,c1,hb3⟩:=two_stored (B:=w.heap.size) (.string (itx q.num)) (.string (dec q.den)) k0 k1 nr_ B2.out
      generalize (w2.setCell ⟨w.heap.size,0,none⟩ (.string (itx q.num))).setCell ⟨w.heap.size,1,none⟩ (.string (dec q.den))=w9 at *
      rw [Hq.out,HB.out]
      exact bodyPost_ret (v := .tuple #[.agg #[.string (itx q.num),.string (dec q.den)],.bool false]) (by simp [results,Tryz.results128,go_sem,c0,c1]) rfl ⟨rfl,hb3⟩
    ·have hlt':¬ (j:Int) < k:=by omega
     have HB:Hid (ratioB la lb k q=true):=by
      show _=_
      exact decide_eq_true fun i hi=>Hall.out i (by omega)
     clear Hall
     obtain ⟨k0,k1,f0,f1⟩:=two_cells K.out
     obtain ⟨m0,m1,-,-⟩:=two_cells M.out
     go_wp2_with fail
     obtain ⟨c0,c1,hb3⟩:=two_stored (B:=w.heap.size) (.string (itx q.num)) (.string (dec q.den)) k0 k1 nr_ B.out
     generalize (wr.setCell ⟨w.heap.size,0,none⟩ (.string (itx q.num))).setCell ⟨w.heap.size,1,none⟩ (.string (dec q.den))=w9 at *
     rw [Hq.out,HB.out]
     exact bodyPost_ret (v := .tuple #[.agg #[.string (itx q.num),.string (dec q.den)],.bool true]) (by simp [results,Tryz.results128,go_sem,c0,c1]) rfl ⟨rfl,hb3⟩
end Go.Proofs.YtpbapojnbmbdlaaGreatDoor

namespace Go.Proofs.YtpbapojnbmbdlaaGreatDoor
open Go.RowKit
end Go.Proofs.YtpbapojnbmbdlaaGreatDoor

namespace Go.Proofs.YtpbapojnbmbdlaaGreatDoor
open Go.RowKit
set_option maxRecDepth 100000 in
set_option maxHeartbeats 8000000 in
theorem floor_ratio (w:World) (ps:List Int) (a0 a1 a2:Option Addr) (c0 c1 c2 D:Nat) (la lb:List Rat) (A:SizeOk w ps a0 a1 la D) (B:SizeOk w ps a0 a2 lb D) (hD0:0 < D) (L:Laid w)
  (hr:ratioB la lb ps.length (ratioK la lb ps.length)=true) :
  Gives Tryz.prog 92 #[.slice a0 ps.length c0,.slice a1 la.length c1,.slice a2 lb.length c2] w (.string (itx (ratioK la lb ps.length).floor)):=by
 unfold Gives
 have hn:=A.n
 have hd:=A.d
 have Hra:=Lib.hid (ratio_any w a1 a2 c1 c2 ps.length D la lb A.rl B.rl A.len B.len A.sm B.sm (by omega) hD0 hd L)
 rw [hr] at Hra
 have Sk:=ratioK_sm A.sm B.sm hD0 ps.length
 have Hfl:Hid (∀ W,Below w.heap.size w W→Gives Tryz.prog 129 #[fr (ratioK la lb ps.length)] W (.string (itx (ratioK la lb ps.length).floor))):=fun W hW=>floorR W _ (D + D) Sk (by omega) (L.below hW)
 unfold fr fv at Hra Hfl
 rw [A.len,B.len]
 clear Sk A B L hr
 generalize ratioK la lb ps.length=k at *
 go_enter Tryz.func92,Tryz.ntmps92
 go_wp2_with fail
 refine Calls.mono Hra.out ?_
 rintro e w1 ⟨rfl,hb⟩
 have B1:=Lib.hid hb
 have B2:=Lib.hid (hb.alloc hb.size (.cells #[.string (itx k.num),.string (dec k.den)] 92))
 clear hb Hra
 go_wp2_with fail
 refine Calls.mono (Hfl.out _ B2.out) ?_
 rintro e w2 ⟨rfl,hb⟩
 have B3:=Lib.hid (B2.out.trans (hb.mono B2.out.size))
 clear hb Hfl
 go_wp2_with fail
 go_ret
 exact ⟨rfl,B3.out⟩
end Go.Proofs.YtpbapojnbmbdlaaGreatDoor

namespace Go.Proofs.YtpbapojnbmbdlaaGreatDoor
open Go.RowKit
set_option maxRecDepth 100000 in
set_option maxHeartbeats 8000000 in
theorem Floor_of (w:World) (ps:List Int) (a0 a1 a2:Option Addr) (c0 c1 c2:Nat) (la lb:List Rat) (A:SizeOk w ps a0 a1 la 30) (B:SizeOk w ps a0 a2 lb 30) (hp:pcode ps=0) (L:Laid w) (hz:tlQ ps lb≠[]) (q:Int)
  (hf:∀ W,Below w.heap.size w W→Gives Tryz.prog 92 #[.slice a0 ps.length c0,.slice a1 la.length c1,.slice a2 lb.length c2] W (.string (itx q))) :
  Gives Tryz.prog 56 #[.slice a0 ps.length c0,.slice a1 la.length c1,.slice a2 lb.length c2] w (.tuple #[.string (itx q),.int .i64 0]):=by
 unfold Gives
 have Hc:=Lib.hid (checkQuotient_ok w ps a0 a1 a2 c0 c1 c2 la lb A B hp L hz)
 have Hf:=Lib.hid hf
 clear A B hp L hz hf
 go_enter Tryz.func56,Tryz.ntmps56
 go_wp2_with fail
 refine Calls.mono Hc.out ?_
 rintro e w1 ⟨rfl,hb⟩
 have B1:=Lib.hid hb
 clear hb Hc
 go_wp2_with fail
 refine Calls.mono (Hf.out _ B1.out) ?_
 rintro e w2 ⟨rfl,hb⟩
 have B2:=Lib.hid (B1.out.trans (hb.mono B1.out.size))
 clear hb Hf
 go_wp2_with fail
 go_ret2
 exact ⟨rfl,B2.out⟩
theorem Sm.two:Sm 1 2:=⟨by decide,by decide⟩
end Go.Proofs.YtpbapojnbmbdlaaGreatDoor

namespace Go.Proofs.YtpbapojnbmbdlaaGreatDoor
open Go.RowKit
end Go.Proofs.YtpbapojnbmbdlaaGreatDoor

namespace Go.Proofs.YtpbapojnbmbdlaaGreatDoor
open Go.RowKit
end Go.Proofs.YtpbapojnbmbdlaaGreatDoor

namespace Go.Proofs.YtpbapojnbmbdlaaGreatDoor
open Go.RowKit
end Go.Proofs.YtpbapojnbmbdlaaGreatDoor

namespace Go.Proofs.YtpbapojnbmbdlaaGreatDoor
open Go.RowKit
end Go.Proofs.YtpbapojnbmbdlaaGreatDoor

namespace Go.Proofs.YtpbapojnbmbdlaaGreatDoor
open Go.RowKit
end Go.Proofs.YtpbapojnbmbdlaaGreatDoor

namespace Go.Proofs.YtpbapojnbmbdlaaGreatDoor
open Go.RowKit
end Go.Proofs.YtpbapojnbmbdlaaGreatDoor

namespace Go.Proofs.YtpbapojnbmbdlaaGreatDoor
open Go.RowKit
end Go.Proofs.YtpbapojnbmbdlaaGreatDoor

namespace Go.Proofs.YtpbapojnbmbdlaaGreatDoor
open Go.RowKit
end Go.Proofs.YtpbapojnbmbdlaaGreatDoor

namespace Go.Proofs.YtpbapojnbmbdlaaGreatDoor
open Go.RowKit
end Go.Proofs.YtpbapojnbmbdlaaGreatDoor

namespace Go.Proofs.YtpbapojnbmbdlaaGreatDoor
open Go.RowKit Go.Shelf
end Go.Proofs.YtpbapojnbmbdlaaGreatDoor

namespace Go.Proofs.YtpbapojnbmbdlaaGreatDoor
open Go.RowKit
theorem itoa_any (w:World) (z:Int) (h0 : -9223372036854775808≤z) (h1:z≤9223372036854775807) (L:Laid w):Gives Tryz.prog 46 #[.int .i64 z] w (.string (itx z)):=by
 refine (Tryz.strconv_Itoa z h0 h1 w L.tab).mono ?_
 rintro e w1 ⟨rfl,hw⟩
 exact ⟨rfl,below_of_grow hw⟩
end Go.Proofs.YtpbapojnbmbdlaaGreatDoor

namespace Go.Proofs.YtpbapojnbmbdlaaGreatDoor
open Go.RowKit
instance (D:Nat) (q:Rat):Decidable (Sm D q):=by unfold Sm; infer_instance
end Go.Proofs.YtpbapojnbmbdlaaGreatDoor

namespace Go.Proofs.YtpbapojnbmbdlaaGreatDoor
open Go.RowKit
theorem k7:((itx 7).toList == [55])=true:=by decide +kernel
theorem rd_ints {w:World} {g:Nat} {l:List Int} {t:TypeId} (h:w.heap[g]?=some (.cells (ints l).toArray t (0,0))):Rd w (some ⟨g,0,none⟩) (ints l):=by
 have:=rd_obj h
 simpa using this
end Go.Proofs.YtpbapojnbmbdlaaGreatDoor

namespace Go.Proofs.YtpbapojnbmbdlaaGreatDoor
open Go.RowKit
def primesL:Nat→List Int
 | 0=>[2,3,5] | 1=>[2,3] | 2=>[2,3,5,7] | 3=>[2,3,7] | 4=>[3,5,7] | 5=>[2] | 6=>[2,5,7] | 7=>[2,3,11] | 8=>[2,3,5,13] | _=>[2,3,7,11]
theorem primesL_ok:∀ k,k < 10→pcode (primesL k)=0∧(primesL k).length≤4∧0 < (primesL k).length∧(∀ p∈primesL k,2≤p∧p≤13):=by decide +kernel
set_option maxRecDepth 100000 in
set_option maxHeartbeats 8000000 in
theorem primes_any (w:World) (n:Nat) (hn:n < 256) :
  Calls Tryz.prog 12 #[.int .u8 n] w fun e w'=>∃ g,e = .returned (.slice (some ⟨g,0,none⟩) (primesL (n % 10)).length (primesL (n % 10)).length)∧Rd w' (some ⟨g,0,none⟩) (ints (primesL (n % 10)))∧Below w.heap.size w w':=by
 have htm:Int.tmod (n:Int) 10=((n % 10:Nat):Int):=by rw [Int.tmod_eq_emod_of_nonneg (by omega)]; omega
 have hk:n % 10 < 10:=Nat.mod_lt _ (by decide)
 generalize n % 10=k at *
 clear hn
 go_enter Tryz.func12,Tryz.ntmps12
 have hk':(0:Int)≤k∧(k:Int) < 10:=⟨by omega,by omega⟩
 go_wp2_with fail
 go_ret
 clear hk'
 have h10:k=0∨k=1∨k=2∨k=3∨k=4∨k=5∨k=6∨k=7∨k=8∨k=9:=by omega
 rcases h10 with rfl | rfl | rfl | rfl | rfl | rfl | rfl | rfl | rfl | rfl
 all_goals
  refine ⟨_,rfl,?_,?_⟩
  ·refine rd_ints (t:=3) ?_
   repeat (first | exact heap_at _ _ _ _ (by simp) | refine heap_old ?_ _)
  ·repeat (first | exact Below.refl _ _ | refine Below.alloc ?_ (by simp; try omega) _)
end Go.Proofs.YtpbapojnbmbdlaaGreatDoor

namespace Go.Proofs.YtpbapojnbmbdlaaGreatDoor
open Go.RowKit
end Go.Proofs.YtpbapojnbmbdlaaGreatDoor

namespace Go.Proofs.YtpbapojnbmbdlaaGreatDoor
open Go.RowKit
def GivesErr (f:FuncId) (args:Array Value) (w:World) (code:Int):Prop:=Gives Tryz.prog f args w (.tuple #[.slice none 0 0,.int .i64 code])
theorem OwnQ.lower {w:World} {B B' c:Nat} {a:Option Addr} {l:List Rat} (h:OwnQ w B a c l) (hb:B'≤B):OwnQ w B' a c l:=by
 exact ⟨h.1,h.2.imp id fun ⟨g,cap,cur,h1,h2,h3⟩=>⟨g,cap,cur,h1,Nat.le_trans hb h2,h3⟩⟩
theorem pcode_pos {ps:List Int} (h:pcode ps=0):0 < ps.length∧ps.length≤6:=by
 unfold pcode at h
 split at h
 ·cases h
 ·split at h
  ·cases h
  ·omega
end Go.Proofs.YtpbapojnbmbdlaaGreatDoor

namespace Go.Proofs.YtpbapojnbmbdlaaGreatDoor
open Go.RowKit
set_option maxHeartbeats 4000000 in
theorem tooLongR (w:World) (a:Rat):Gives Tryz.prog 163 #[fr a] w (.bool (!decide (shortQ a))):=by
 unfold Gives
 have Hs:Hid (∀ W,Gives Tryz.prog 157 #[fr a] W (.bool (decide (shortQ a)))):=fun W=>shortR W a
 unfold fr fv at Hs ⊢
 have B1:=Lib.hid ((Below.refl w.heap.size w).alloc nr_ (.cells #[.string (itx a.num),.string (dec a.den)] 92))
 generalize decide (shortQ a)=z at *
 go_enter Tryz.func163,Tryz.ntmps163
 go_wp2_with fail
 refine Calls.mono (Hs.out _) ?_
 rintro e w1 ⟨rfl,hb⟩
 have B2:=Lib.hid (B1.out.trans (hb.mono B1.out.size))
 clear hb
 go_wp2_with fail
 go_ret
 exact ⟨rfl,B2.out⟩
def shortAll (l:List Rat):Bool:=l.all fun q=>decide (shortQ q)
set_option maxRecDepth 100000 in
set_option maxHeartbeats 4000000 in
theorem index_long (w:World) (a:Option Addr) (c:Nat) (l:List Rat) (hr:Rd w a (cellsQ l)) (hl:l.length≤1000) :
  Calls Tryz.prog 196 #[.slice a l.length c,.func (.func 163) #[] #[]] w fun e w'=>∃ i:Int,e = .returned (.int .i64 i) ∧ -1≤i∧decide (0≤i) = !shortAll l∧Below w.heap.size w w':=by
 have Hr:=Lib.hid hr
 clear hr
 have Hall:Hid (∀ k,k≤l.length→(∀ j (h:j < l.length),j < k→decide (shortQ l[j])=true)→k=l.length→shortAll l=true):=fun k hk h hkl=>by
  unfold shortAll
  rw [List.all_eq_true]
  intro q hq
  obtain ⟨j,hj,rfl⟩:=List.mem_iff_getElem.1 hq
  exact h j hj (by omega)
 have Hone:Hid (∀ k (h:k < l.length),decide (shortQ l[k])=false→shortAll l=false):=fun k h hf=>by
  unfold shortAll
  rw [List.all_eq_false]
  exact ⟨l[k],List.getElem_mem h,by rw [hf]; decide⟩
 obtain ⟨m,hm⟩:∃ m,l.length=m:=⟨_,rfl⟩
 rw [hm] at hl ⊢
 have Hm:=Lib.hid hm
 clear hm
 generalize shortAll l=z at *
 go_enter Tryz.func196,Tryz.ntmps196
 go_wp2_with fail
 go_loopw [8] (fun i wr=>∃ k:Nat,k≤m∧i = .int .i64 k∧Hid (∀ j (h:j < l.length),j < k→decide (shortQ l[j])=true)∧Hid (Below w.heap.size w wr)) (fun i _=>m - (intOf i).toNat)
 case atStart=>exact ⟨0,Nat.zero_le _,rfl,fun j _ hj=>absurd hj (Nat.not_lt_zero _),Below.refl _ _⟩
 case round =>
  obtain ⟨k,hk,rfl,Hp,B⟩:=hrel
  by_cases hlt:k < m
  ·have hlt':(k:Int) < m:=by omega
   have hkb:k < l.length:=by rw [Hm.out]; exact hlt
   obtain ⟨b,off,rfl,hb,hcells⟩:=Hr.out.open (by rw [cellsQ_length,Hm.out]; omega)
   obtain ⟨x0,x1⟩:=cellsS_rd hcells k (by rw [List.length_map]; exact hkb)
   rw [← B.out.cell (p:=⟨b,off + k * 2,none⟩) hb,qs_getD _ k hkb] at x0
   rw [← B.out.cell (p:=⟨b,off + k * 2 + 1,none⟩) hb,qs_getD _ k hkb] at x1
   have Hc:Hid (Gives Tryz.prog 163 #[fr l[k]] wr (.bool (!decide (shortQ l[k])))):=tooLongR wr _
   unfold fr fv at Hc
   simp only [qs] at x0 x1
   clear hcells
   by_cases hs:decide (shortQ l[k])=true
   ·have Hp':Hid (∀ j (h:j < l.length),j < k + 1→decide (shortQ l[j])=true):=fun j h hj=>by
     rcases Nat.lt_or_ge j k with hh | hh
     ·exact Hp.out j h hh
     ·have e:j=k:=by omega
      subst e
      exact hs
    rw [hs] at Hc
    clear hs Hp
    generalize l[k]=x at *
    go_wp2_with fail
    refine Calls.mono Hc.out ?_
    rintro e w1 ⟨rfl,hb1⟩
    have B1:=Lib.hid (B.out.trans (hb1.mono B.out.size))
    clear hb1 Hc B x0 x1
    go_wp2_with fail
    go_roundw
    case rel=>exact ⟨k + 1,by omega,by go_num,Hp',B1⟩
    case measure=>simp [intOf]; omega
   ·have hs':decide (shortQ l[k])=false:=by simpa using hs
    have Hz:=Lib.hid (Hone.out k hkb hs')
    rw [hs'] at Hc
    clear hs hs' Hp
    generalize l[k]=x at *
    go_wp2_with fail
    refine Calls.mono Hc.out ?_
    rintro e w1 ⟨rfl,hb1⟩
    have B1:=Lib.hid (B.out.trans (hb1.mono B.out.size))
    clear hb1 Hc B x0 x1
    go_wp2_with fail
    go_ret
    exact ⟨k,rfl,by omega,by rw [Hz.out]; exact decide_eq_true (by omega),B1.out⟩
  ·have hlt':¬ (k:Int) < m:=by omega
   have Hz:=Lib.hid (Hall.out k (by rw [Hm.out]; exact hk) Hp.out (by rw [Hm.out]; omega))
   clear Hp
   go_wp2_with fail
   go_ret
   exact ⟨-1,rfl,by decide,by rw [Hz.out]; rfl,B.out⟩
set_option maxHeartbeats 4000000 in
theorem contains_long (w:World) (a:Option Addr) (c:Nat) (l:List Rat) (hr:Rd w a (cellsQ l)) (hl:l.length≤1000) :
  Gives Tryz.prog 162 #[.slice a l.length c,.func (.func 163) #[] #[]] w (.bool (!shortAll l)):=by
 unfold Gives
 have Hi:=Lib.hid (index_long w a c l hr hl)
 clear hr hl
 generalize shortAll l=z at *
 go_enter Tryz.func162,Tryz.ntmps162
 go_wp2_with fail
 refine Calls.mono Hi.out ?_
 rintro e w1 ⟨i,rfl,hi1,hi2,hb⟩
 have B:=Lib.hid hb
 have Hz:=Lib.hid hi2
 clear hb Hi hi2
 go_wp2_with fail
 go_ret
 exact ⟨by rw [← Hz.out]; rfl,B.out⟩
set_option maxHeartbeats 4000000 in
theorem result_fine (w:World) (a:Option Addr) (c:Nat) (l:List Rat) (hr:Rd w a (cellsQ l)) (hl:l.length≤1000) (hs:shortAll l=true) :
  Gives Tryz.prog 127 #[.slice a l.length c] w (.tuple #[.slice a l.length c,.int .i64 0]):=by
 unfold Gives
 have Hi:=Lib.hid (contains_long w a c l hr hl)
 rw [hs] at Hi
 clear hr hl hs
 go_enter Tryz.func127,Tryz.ntmps127
 go_wp2_with fail
 refine Calls.mono Hi.out ?_
 rintro e w1 ⟨rfl,hb⟩
 have B:=Lib.hid hb
 clear hb Hi
 go_wp2_with fail
 go_ret2
 exact ⟨rfl,B.out⟩
set_option maxHeartbeats 4000000 in
theorem result_long (w:World) (a:Option Addr) (c:Nat) (l:List Rat) (hr:Rd w a (cellsQ l)) (hl:l.length≤1000) (hs:shortAll l=false) :
  GivesErr 127 #[.slice a l.length c] w 4:=by
 unfold GivesErr Gives
 have Hi:=Lib.hid (contains_long w a c l hr hl)
 rw [hs] at Hi
 clear hr hl hs
 go_enter Tryz.func127,Tryz.ntmps127
 go_wp2_with fail
 refine Calls.mono Hi.out ?_
 rintro e w1 ⟨rfl,hb⟩
 have B:=Lib.hid hb
 clear hb Hi
 go_wp2_with fail
 go_ret2
 exact ⟨rfl,B.out⟩
open Classical in
noncomputable def wrongB (x:ByteArray×ByteArray):Bool := !decide (IsQ x.1 x.2)
open Classical in
noncomputable def rightAll (l:List (ByteArray×ByteArray)):Bool:=l.all fun x=>decide (IsQ x.1 x.2)
open Classical in
set_option maxHeartbeats 4000000 in
theorem wrongR (w:World) (s t:ByteArray) (hs:s.size≤10000000) (ht:t.size≤10000000) (L:Laid w):Gives Tryz.prog 125 #[.agg #[.string s,.string t]] w (.bool (wrongB (s,t))):=by
 have Hs:Hid (∃ z:Int,∀ W,Below w.heap.size w W→Gives Tryz.prog 126 #[.agg #[.string s,.string t]] W (.int .i64 z))∧True:=by
  refine ⟨?_,trivial⟩
  by_cases h:IsQ s t
  ·obtain ⟨q,rfl,rfl,hq⟩:=h
   exact ⟨0,fun W hW=>checkR W q hq (L.below hW)⟩
  ·exact ⟨2,fun W hW=>checkS_no W s t hs ht h (L.below hW)⟩
 have Hz:∃ z:Int,(z == 0) = !(wrongB (s,t))∧∀ W,Below w.heap.size w W→Gives Tryz.prog 126 #[.agg #[.string s,.string t]] W (.int .i64 z):=by
  by_cases h:IsQ s t
  ·refine ⟨0,by unfold wrongB; rw [decide_eq_true h]; rfl,?_⟩
   obtain ⟨q,rfl,rfl,hq⟩:=h
   exact fun W hW=>checkR W q hq (L.below hW)
  ·exact ⟨2,by unfold wrongB; rw [decide_eq_false h]; rfl,fun W hW=>checkS_no W s t hs ht h (L.below hW)⟩
 obtain ⟨z,hz,hc⟩:=Hz
 have Hc:=Lib.hid hc
 clear Hs hc hs ht L
 unfold Gives
 generalize wrongB (s,t)=b at *
 have B1:=Lib.hid ((Below.refl w.heap.size w).alloc nr_ (.cells #[.string s,.string t] 92))
 go_enter Tryz.func125,Tryz.ntmps125
 go_wp2_with fail
 refine Calls.mono (Hc.out _ B1.out) ?_
 rintro e w1 ⟨rfl,hb⟩
 have B2:=Lib.hid (B1.out.trans (hb.mono B1.out.size))
 have Hz:=Lib.hid hz
 clear hb hz
 go_wp2_with fail
 go_ret
 refine ⟨?_,B2.out⟩
 have:=Hz.out
 cases b
 ·have h1:(z == 0)=true:=this
  have h2:z=0:=by simpa using h1
  subst h2; rfl
 ·have h1:(z == 0)=false:=this
  have h2:z≠0:=by simpa using h1
  show Ending.returned (Value.bool _)=_
  first | rfl | (simp [h2])
end Go.Proofs.YtpbapojnbmbdlaaGreatDoor

namespace Go.Proofs.YtpbapojnbmbdlaaGreatDoor
open Go.RowKit
set_option maxRecDepth 100000 in
set_option maxHeartbeats 4000000 in
theorem index_wrong (w:World) (a:Option Addr) (c:Nat) (l:Pairs) (hr:Rd w a (cellsS l)) (hl:l.length≤1000) (hs:Ssz l) (L:Laid w) :
  Calls Tryz.prog 160 #[.slice a l.length c,.func (.func 125) #[] #[]] w fun e w'=>∃ i:Int,e = .returned (.int .i64 i) ∧ -1≤i∧decide (0≤i) = !rightAll l∧Below w.heap.size w w':=by
 have Hr:=Lib.hid hr
 have Hs:=Lib.hid hs
 have HL:=Lib.hid L
 clear hr hs L
 have Hall:Hid (∀ k,k≤l.length→(∀ j (h:j < l.length),j < k→wrongB l[j]=false)→k=l.length→rightAll l=true):=fun k hk h hkl=>by
  unfold rightAll
  rw [List.all_eq_true]
  intro q hq
  obtain ⟨j,hj,rfl⟩:=List.mem_iff_getElem.1 hq
  have:=h j hj (by omega)
  unfold wrongB at this
  simpa using this
 have Hone:Hid (∀ k (h:k < l.length),wrongB l[k]=true→rightAll l=false):=fun k h hf=>by
  unfold rightAll
  rw [List.all_eq_false]
  unfold wrongB at hf
  exact ⟨l[k],List.getElem_mem h,by simpa using hf⟩
 obtain ⟨m,hm⟩:∃ m,l.length=m:=⟨_,rfl⟩
 rw [hm] at hl ⊢
 have Hm:=Lib.hid hm
 clear hm
 generalize rightAll l=z at *
 go_enter Tryz.func160,Tryz.ntmps160
 go_wp2_with fail
 go_loopw [8] (fun i wr=>∃ k:Nat,k≤m∧i = .int .i64 k∧Hid (∀ j (h:j < l.length),j < k→wrongB l[j]=false)∧Hid (Below w.heap.size w wr)) (fun i _=>m - (intOf i).toNat)
 case atStart=>exact ⟨0,Nat.zero_le _,rfl,fun j _ hj=>absurd hj (Nat.not_lt_zero _),Below.refl _ _⟩
 case round =>
  obtain ⟨k,hk,rfl,Hp,B⟩:=hrel
  by_cases hlt:k < m
  ·have hlt':(k:Int) < m:=by omega
   have hkb:k < l.length:=by rw [Hm.out]; exact hlt
   obtain ⟨b,off,rfl,hb,hcells⟩:=Hr.out.open (by rw [cellsS_length,Hm.out]; omega)
   obtain ⟨x0,x1⟩:=cellsS_rd hcells k hkb
   rw [← B.out.cell (p:=⟨b,off + k * 2,none⟩) hb,show l.getD k default=l[k] by rw [List.getD_eq_getElem?_getD,List.getElem?_eq_getElem hkb]; rfl] at x0
   rw [← B.out.cell (p:=⟨b,off + k * 2 + 1,none⟩) hb,show l.getD k default=l[k] by rw [List.getD_eq_getElem?_getD,List.getElem?_eq_getElem hkb]; rfl] at x1
   have hsz:=Hs.out _ (List.getElem_mem hkb)
   have Hc:Hid (Gives Tryz.prog 125 #[.agg #[.string l[k].1,.string l[k].2]] wr (.bool (wrongB l[k]))):=wrongR wr _ _ (by omega) (by omega) (HL.out.below B.out)
   clear hcells hsz
   by_cases hs:wrongB l[k]=false
   ·have Hp':Hid (∀ j (h:j < l.length),j < k + 1→wrongB l[j]=false):=fun j h hj=>by
     rcases Nat.lt_or_ge j k with hh | hh
     ·exact Hp.out j h hh
     ·have e:j=k:=by omega
      subst e
      exact hs
    rw [hs] at Hc
    clear hs Hp
    generalize l[k]=x at *
    go_wp2_with fail
    refine Calls.mono Hc.out ?_
    rintro e w1 ⟨rfl,hb1⟩
    have B1:=Lib.hid (B.out.trans (hb1.mono B.out.size))
    clear hb1 Hc B x0 x1
    go_wp2_with fail
    go_roundw
    case rel=>exact ⟨k + 1,by omega,by go_num,Hp',B1⟩
    case measure=>simp [intOf]; omega
   ·have hs':wrongB l[k]=true:=by simpa using hs
    have Hz:=Lib.hid (Hone.out k hkb hs')
    rw [hs'] at Hc
    clear hs hs' Hp
    generalize l[k]=x at *
    go_wp2_with fail
    refine Calls.mono Hc.out ?_
    rintro e w1 ⟨rfl,hb1⟩
    have B1:=Lib.hid (B.out.trans (hb1.mono B.out.size))
    clear hb1 Hc B x0 x1
    go_wp2_with fail
    go_ret
    exact ⟨k,rfl,by omega,by rw [Hz.out]; exact decide_eq_true (by omega),B1.out⟩
  ·have hlt':¬ (k:Int) < m:=by omega
   have Hz:=Lib.hid (Hall.out k (by rw [Hm.out]; exact hk) Hp.out (by rw [Hm.out]; omega))
   clear Hp
   go_wp2_with fail
   go_ret
   exact ⟨-1,rfl,by decide,by rw [Hz.out]; rfl,B.out⟩
set_option maxHeartbeats 4000000 in
theorem contains_wrong (w:World) (a:Option Addr) (c:Nat) (l:Pairs) (hr:Rd w a (cellsS l)) (hl:l.length≤1000) (hs:Ssz l) (L:Laid w) :
  Gives Tryz.prog 124 #[.slice a l.length c,.func (.func 125) #[] #[]] w (.bool (!rightAll l)):=by
 unfold Gives
 have Hi:=Lib.hid (index_wrong w a c l hr hl hs L)
 clear hr hl hs L
 generalize rightAll l=z at *
 go_enter Tryz.func124,Tryz.ntmps124
 go_wp2_with fail
 refine Calls.mono Hi.out ?_
 rintro e w1 ⟨i,rfl,hi1,hi2,hb⟩
 have B:=Lib.hid hb
 have Hz:=Lib.hid hi2
 clear hb Hi hi2
 go_wp2_with fail
 go_ret
 exact ⟨by rw [← Hz.out]; rfl,B.out⟩
theorem lgo_ok (n:Nat):∀ ls:List (List Rat),(∀ l∈ls,l.length=n∧∀ q∈l,Sm 30 q)→lgo n (ls.map (List.map qs))=0
 | [],_=>rfl
 | l :: ls,h=>by
  have h1:=h l List.mem_cons_self
  rw [List.map_cons,lgo,if_pos (scode_ok h1.2 h1.1)]
  exact lgo_ok n ls fun m hm=>h m (List.mem_cons_of_mem _ hm)
theorem lcode_ok {ps:List Int} (hp:pcode ps=0) {ls:List (List Rat)} (h:∀ l∈ls,l.length=ps.length∧∀ q∈l,Sm 30 q):lcode ps (ls.map (List.map qs))=0:=by
 unfold lcode
 rw [if_pos hp]
 exact lgo_ok _ ls h
open Classical in
theorem rightAll_qs (l:List Rat) (h:∀ q∈l,Sm 400 q):rightAll (l.map qs)=true:=by
 unfold rightAll
 rw [List.all_eq_true]
 intro x hx
 obtain ⟨q,hq,rfl⟩:=List.mem_map.1 hx
 exact decide_eq_true ⟨q,rfl,rfl,h q hq⟩
def GivesSum (f:FuncId) (args:Array Value) (w:World) (l:List Rat):Prop:=if shortAll l=true then
  Calls Tryz.prog f args w fun e w'=>∃ a c,e = .returned (.tuple #[.slice a l.length c,.int .i64 0])∧Rd w' a (cellsQ l)∧Below w.heap.size w w'
 else GivesErr f args w 4
set_option maxRecDepth 100000 in
set_option maxHeartbeats 8000000 in
theorem combine_fine (w:World) (a0 a1 a2:Option Addr) (c0 c1 c2:Nat) (ps:List Int) (ls:List (List Rat)) (fs:List Rat) (rp:Rd w a0 (ints ps)) (hi:I64s ps) (hp:pcode ps=0) (rl:RdL w a1 (ls.map (List.map qs))) (hl:ls.length≤100)
  (h:∀ l∈ls,l.length=ps.length∧∀ q∈l,Sm 30 q) (rf:Rd w a2 (cellsQ fs)) (hf:fs.length=ls.length) (hfs:∀ q∈fs,Sm 400 q) (L:Laid w) :
  GivesSum 89 #[.slice a0 ps.length c0,.slice a1 ls.length c1,.slice a2 fs.length c2] w (sumQ ps.length ls fs):=by
 have hn:=pcode_pos hp
 have H1:=Lib.hid (checkAll_any w a0 a1 c0 c1 ps (ls.map (List.map qs)) rp hi (by omega) rl (by rw [List.length_map]; omega) (by
  intro l hl'
  obtain ⟨m,hm,rfl⟩:=List.mem_map.1 hl'
  exact ⟨by rw [List.length_map,(h m hm).1]; omega,ssz_ok (h m hm).2⟩) L)
 rw [lcode_ok hp h,List.length_map] at H1
 have H2:Hid (∀ W,Below w.heap.size w W→Gives Tryz.prog 124 #[.slice a2 fs.length c2,.func (.func 125) #[] #[]] W (.bool false)):=fun W hW=>by
  have:=contains_wrong W a2 c2 (fs.map qs) (rf.below hW nr_) (by rw [List.length_map]; omega) (fun x hx=>by
   obtain ⟨q,hq,rfl⟩:=List.mem_map.1 hx
   have h1:=itx_size q.num 400 (by decide) (hfs q hq).1
   have h2:=(size_lt q.den 400 (by decide)).2 (hfs q hq).2
   exact ⟨by show (itx q.num).size≤_; omega,by show (dec q.den).size≤_; omega⟩) (L.below hW)
  rw [rightAll_qs fs hfs,List.length_map] at this
  exact this
 have H3:Hid (∀ W,Below w.heap.size w W→GivesQ 122 #[.int .i64 ps.length,.slice a1 ls.length c1,.slice a2 fs.length c2] W (sumQ ps.length ls fs)):=fun W hW =>
  sum_any W a1 a2 c1 c2 ps.length ls fs 30 400 (rl.below hW nr_) (rf.below hW nr_) (fun l hl'=>(h l hl').1) hf (fun l hl'=>(h l hl').2) hfs (by omega) (by omega) (by
   have:(ls.length + 1) * (30 + 400 + 1)≤101 * (30 + 400 + 1):=Nat.mul_le_mul_right _ (by omega)
   omega) (L.below hW)
 have hsl:=sumQ_length ps.length ls fs (fun l hl'=>(h l hl').1) hf
 have H4:Hid (∀ W a c,Rd W a (cellsQ (sumQ ps.length ls fs))→shortAll (sumQ ps.length ls fs)=true→Gives Tryz.prog 127 #[.slice a (sumQ ps.length ls fs).length c] W (.tuple #[.slice a (sumQ ps.length ls fs).length c,.int .i64 0])):=fun W a c hr hs=>result_fine W a c _ hr (by omega) hs
 have H5:Hid (∀ W a c,Rd W a (cellsQ (sumQ ps.length ls fs))→shortAll (sumQ ps.length ls fs)=false→Gives Tryz.prog 127 #[.slice a (sumQ ps.length ls fs).length c] W (.tuple #[.slice none 0 0,.int .i64 4])):=fun W a c hr hs=>result_long W a c _ hr (by omega) hs
 unfold GivesQ at H3
 clear rp hi hp rl hl h rf hfs L hn hsl
 rw [hf] at *
 generalize sumQ ps.length ls fs=S at *
 generalize ps.length=n at *
 generalize ls.length=k at *
 unfold GivesSum GivesErr Gives
 by_cases hs:shortAll S=true
 ·rw [if_pos hs]
  have Hs:=Lib.hid hs
  clear H5 hs
  go_enter Tryz.func89,Tryz.ntmps89
  go_wp2_with fail
  refine Calls.mono H1.out ?_
  rintro e w1 ⟨rfl,hb1⟩
  have Hb1:=Lib.hid hb1
  clear hb1 H1
  go_wp2_with fail
  refine Calls.mono (H2.out _ Hb1.out) ?_
  rintro e w2 ⟨rfl,hb2⟩
  have Hb2:=Lib.hid (Hb1.out.trans (hb2.mono Hb1.out.size))
  clear hb2 H2 Hb1
  go_wp2_with fail
  refine Calls.mono (H3.out _ Hb2.out) ?_
  rintro e w3 ⟨a,c,rfl,ho,hb3⟩
  have Hb3:=Lib.hid (Hb2.out.trans (hb3.mono Hb2.out.size))
  have Hr:=Lib.hid ho.rd
  clear hb3 H3 Hb2 ho
  go_wp2_with fail
  refine Calls.mono (H4.out _ _ _ Hr.out Hs.out) ?_
  rintro e w4 ⟨rfl,hb4⟩
  have Hb4:=Lib.hid (Hb3.out.trans (hb4.mono Hb3.out.size))
  have Hr4:=Lib.hid (Hr.out.below hb4 nr_)
  clear hb4 H4 Hb3 Hr
  go_wp2_with fail
  go_ret2
  exact ⟨a,c,rfl,Hr4.out,Hb4.out⟩
 ·rw [if_neg hs]
  have Hs:Hid (shortAll S=false):=by show _=_; simpa using hs
  clear H4 hs
  go_enter Tryz.func89,Tryz.ntmps89
  go_wp2_with fail
  refine Calls.mono H1.out ?_
  rintro e w1 ⟨rfl,hb1⟩
  have Hb1:=Lib.hid hb1
  clear hb1 H1
  go_wp2_with fail
  refine Calls.mono (H2.out _ Hb1.out) ?_
  rintro e w2 ⟨rfl,hb2⟩
  have Hb2:=Lib.hid (Hb1.out.trans (hb2.mono Hb1.out.size))
  clear hb2 H2 Hb1
  go_wp2_with fail
  refine Calls.mono (H3.out _ Hb2.out) ?_
  rintro e w3 ⟨a,c,rfl,ho,hb3⟩
  have Hb3:=Lib.hid (Hb2.out.trans (hb3.mono Hb2.out.size))
  have Hr:=Lib.hid ho.rd
  clear hb3 H3 Hb2 ho
  go_wp2_with fail
  refine Calls.mono (H5.out _ _ _ Hr.out Hs.out) ?_
  rintro e w4 ⟨rfl,hb4⟩
  have Hb4:=Lib.hid (Hb3.out.trans (hb4.mono Hb3.out.size))
  clear hb4 H5 Hb3 Hr
  go_wp2_with fail
  go_ret2
  exact ⟨rfl,Hb4.out⟩
end Go.Proofs.YtpbapojnbmbdlaaGreatDoor

namespace Go.Proofs.YtpbapojnbmbdlaaGreatDoor
open Go.RowKit
end Go.Proofs.YtpbapojnbmbdlaaGreatDoor

namespace Go.Proofs.YtpbapojnbmbdlaaGreatDoor.RT
open Go Go.Sort Go.Proofs.YtpbapojnbmbdlaaGreatDoor Go.Proofs.YtpbapojnbmbdlaaGreatDoor.RX
section
variable {P:Program} {ops:Array Oper} {md:Region.Mode} {C:World→Prop}
inductive RTree where
 | nil:RTree
 | rd:Nat→Nat→RTree→RTree
 | mv:Nat→RTree→RTree
 | two:Nat→Nat→RTree→RTree→RTree
def RTree.len:RTree→Nat
 | .nil=>0
 | .rd _ _ t=>t.len + 1
 | .mv _ t=>t.len + 1
 | .two _ _ t _=>t.len + 1
end
end Go.Proofs.YtpbapojnbmbdlaaGreatDoor.RT

namespace Go.Proofs.YtpbapojnbmbdlaaGreatDoor
open Go.RowKit
end Go.Proofs.YtpbapojnbmbdlaaGreatDoor

namespace Go.Proofs.YtpbapojnbmbdlaaGreatDoor
open Go.RowKit
end Go.Proofs.YtpbapojnbmbdlaaGreatDoor

namespace Go.Proofs.YtpbapojnbmbdlaaGreatDoor
open Go.RowKit
end Go.Proofs.YtpbapojnbmbdlaaGreatDoor

namespace Go.Proofs.YtpbapojnbmbdlaaGreatDoor
open Go.RowKit Go.Proofs.YtpbapojnbmbdlaaGreatDoor.RT
def combineQ (la lb:List Rat) (k m:Rat):List Rat:=List.zipWith (fun x y=>x * k + y * m) la lb
theorem combineQ_length (la lb:List Rat) (k m:Rat) (h:la.length=lb.length):(combineQ la lb k m).length=la.length:=by simp [combineQ,h]
end Go.Proofs.YtpbapojnbmbdlaaGreatDoor

namespace Go.Proofs.YtpbapojnbmbdlaaGreatDoor
open Go.RowKit
def smallP:List Int:=[2,3,5,7,11,13]
theorem lg_lgN {p n L:Nat} (hp:p∈oddP) (hn:n≤1056) (h:LN.lg p p.log2 n 1120=some L):lgN p n=L:=by
 rw [lg_digs] at h
 obtain ⟨s,hs,e⟩:=Option.map_eq_some_iff.1 h
 rw [← digs_lgN hp hn (by decide) hs,e]
theorem lg_cert:([3,5,7,11,13]:List Nat).map (fun p=>LN.lg p p.log2 1024 1120)=LN.certL.tail.map fun x=>some x.toNat:=by decide +kernel
theorem certL_head:LN.certL.head?=some (2 ^ 1024):=by decide +kernel
theorem certL_pos:∀ x∈LN.certL,(0:Int)≤x:=by decide +kernel
theorem lf_two (n:Nat):((lf n 2:Nat):Int)=2 ^ n:=by
 show ((lgN 2 n:Nat):Int)=_
 rw [lgN_two,Int.natCast_pow]; rfl
theorem mul_pow_le {a k m:Nat} (ha:a≤100) (h:7 + k≤m):a * 2 ^ k≤2 ^ m:=by
 have:a * 2 ^ k≤2 ^ 7 * 2 ^ k:=Nat.mul_le_mul_right _ (by omega)
 rw [← Nat.pow_add] at this
 exact Nat.le_trans this (Nat.pow_le_pow_right (by decide) h)
theorem certL_eq:smallP.map (fun p=>((lf 1024 p:Nat):Int))=LN.certL:=by
 have h:=lg_cert
 have h0:=certL_head
 have hp:=certL_pos
 obtain ⟨c0,c1,c2,c3,c4,c5,e⟩:∃ c0 c1 c2 c3 c4 c5,LN.certL=[c0,c1,c2,c3,c4,c5]:=⟨_,_,_,_,_,_,rfl⟩
 rw [e] at h h0 hp ⊢
 have key:∀ (p:Nat) (c:Int),p∈oddP→0≤c→LN.lg p p.log2 1024 1120=some c.toNat→((lf 1024 (p:Int):Nat):Int)=c:=fun p c hp h0 h=>by
  have:=lg_lgN hp (by decide) h
  show ((lgN p 1024:Nat):Int)=c
  rw [this]; omega
 simp only [List.map_cons,List.map_nil,List.tail_cons,List.cons.injEq,and_true] at h
 obtain ⟨h1,h2,h3,h4,h5⟩:=h
 simp only [List.head?_cons,Option.some.injEq] at h0
 have p1:=hp c1 (by simp)
 have p2:=hp c2 (by simp)
 have p3:=hp c3 (by simp)
 have p4:=hp c4 (by simp)
 have p5:=hp c5 (by simp)
 have k1:=key 3 c1 (by decide) p1 h1
 have k2:=key 5 c2 (by decide) p2 h2
 have k3:=key 7 c3 (by decide) p3 h3
 have k4:=key 11 c4 (by decide) p4 h4
 have k5:=key 13 c5 (by decide) p5 h5
 have k0:((lf 1024 2:Nat):Int)=c0:=by
  rw [h0]
  exact lf_two 1024
 show [((lf 1024 2:Nat):Int),((lf 1024 3:Nat):Int),((lf 1024 5:Nat):Int),((lf 1024 7:Nat):Int),((lf 1024 11:Nat):Int),((lf 1024 13:Nat):Int)]=_
 rw [k0]
 rw [show ((lf 1024 3:Nat):Int)=c1 from k1,show ((lf 1024 5:Nat):Int)=c2 from k2,show ((lf 1024 7:Nat):Int)=c3 from k3,show ((lf 1024 11:Nat):Int)=c4 from k4,show ((lf 1024 13:Nat):Int)=c5 from k5]
def Kb:Nat:=2 ^ 100
theorem dec_of_cert {tl:List (Int×Int)} (h1:∀ x∈tl,x.1∈smallP) (h0:∀ x∈tl,x.2≠0) (hd:(tl.map Prod.fst).Nodup) (hk:∀ x∈tl,x.2.natAbs≤Kb) (hl:tl.length≤100) (hne:tl≠[]):Dec tl:=by
 have hc:=LN.cert_ok
 rw [← certL_eq] at hc
 have hS:=@mul_pow_le tl.length 100 503 hl (by decide)
 have:=LN.ends_decide hc (by decide) tl hS hne (fun x hx=>⟨h1 x hx,h0 x hx,hk x hx⟩) hd
 unfold Dec
 rw [LN.eLo_eq,LN.eHi_eq]
 omega
structure Good (ps:List Int) (l:List Rat):Prop where
 pr:∀ p∈ps,p∈smallP
 nd:ps.Nodup
 kb:∀ x∈tlQ ps l,x.2.natAbs≤Kb
theorem tlist_fst (D:Nat):∀ (ps:List Int) (l:List Rat),((tlist D ps l).map Prod.fst).Sublist ps
 | [],_=>by simp [tlist]
 | _ :: _,[]=>by simp [tlist]
 | p :: ps,q :: l=>by
  have ih:=tlist_fst D ps l
  unfold tlist at ih ⊢
  rw [List.zip_cons_cons,List.filterMap_cons]
  by_cases h:q.num=0
  ·simp only [h,if_true]; exact ih.cons _
  ·simp only [h,if_false]; exact ih.cons_cons _
theorem smallP_pr {p:Int} (h:p∈smallP):∃ q:Nat,p=q∧(q=2∨q∈oddP):=by
 simp only [smallP,List.mem_cons,List.not_mem_nil,or_false] at h
 rcases h with rfl | rfl | rfl | rfl | rfl | rfl
 ·exact ⟨2,rfl,.inl rfl⟩
 ·exact ⟨3,rfl,.inr (by decide)⟩
 ·exact ⟨5,rfl,.inr (by decide)⟩
 ·exact ⟨7,rfl,.inr (by decide)⟩
 ·exact ⟨11,rfl,.inr (by decide)⟩
 ·exact ⟨13,rfl,.inr (by decide)⟩
theorem tlQ_nz {ps:List Int} {l:List Rat} {x:Int×Int} (h:x∈tlQ ps l):x.2≠0:=by
 obtain ⟨_,q,hq,hn,he⟩:=tlist_mem h
 rw [he]
 refine Int.mul_ne_zero hn ?_
 have h1:=LN.tden_dvd hq
 have h2:=LN.tden_pos' l
 have h3:0 < tden l / q.den:=Nat.div_pos (Nat.le_of_dvd h2 h1) q.den_pos
 omega
theorem Good.trt {ps:List Int} {l:List Rat} (h:Good ps l):TrT (tlQ ps l) :=
 ⟨fun _ hx=>smallP_pr (h.pr _ (tlist_mem hx).1),fun _ hx=>tlQ_nz hx,(tlist_fst _ ps l).nodup h.nd⟩
theorem Good.lt {ps:List Int} {l:List Rat} (h:Good ps l):∀ x∈tlQ ps l,x.2.natAbs < 2 ^ 101:=fun x hx=>Nat.lt_of_le_of_lt (h.kb x hx) (by decide)
theorem Good.dec {ps:List Int} {l:List Rat} (h:Good ps l) (hn:ps.length≤100) (hne:tlQ ps l≠[]):Dec (tlQ ps l) :=
 dec_of_cert (fun x hx=>h.pr _ (tlist_mem hx).1) h.trt.nz h.trt.nd h.kb (Nat.le_trans (by have:=(tlist_fst (tden l) ps l).length_le; rw [List.length_map] at this; exact this) hn) hne
end Go.Proofs.YtpbapojnbmbdlaaGreatDoor

namespace Go.Proofs.YtpbapojnbmbdlaaGreatDoor
open Go.RowKit
theorem prod_le5 {k a:Int} (hk : -100000≤k∧k≤100000) (ha:0≤a∧a≤469762049) : -46976204900000≤k * a∧k * a≤46976204900000:=by
 have h:(k * a).natAbs≤100000 * 469762049:=by rw [Int.natAbs_mul]; exact Nat.mul_le_mul (by omega) (by omega)
 omega
theorem sums_le5:∀ (l:List (Int×Int)),(∀ x∈l,okT 100000 x)→(∀ x∈l,2≤x.1∧x.1≤97) →
  (-((l.length:Int) * 46976204900000)≤lowT l∧lowT l≤(l.length:Int) * 46976204900000)∧(-((l.length:Int) * 46976204900000)≤highT l∧highT l≤(l.length:Int) * 46976204900000)
 | [],_,_=>⟨⟨Int.le_refl _,Int.le_refl _⟩,⟨Int.le_refl _,Int.le_refl _⟩⟩
 | x :: l,h,hp=>by
  have ih:=sums_le5 l (fun y hy=>h y (List.mem_cons_of_mem _ hy)) (fun y hy=>hp y (List.mem_cons_of_mem _ hy))
  have hx:=(h x List.mem_cons_self).1
  have hq:=hp x List.mem_cons_self
  have ha:=lgA_le x.1 hq.1 hq.2
  have t1:=prod_le5 hx (show 0≤lgA x.1∧lgA x.1≤469762049 by omega)
  have t2:=prod_le5 hx (show 0≤lgB x.1∧lgB x.1≤469762049 by unfold lgB; split <;> omega)
  have e1:lowT (x :: l)=min (x.2 * lgA x.1) (x.2 * lgB x.1) + lowT l:=by simp [lowT]
  have e2:highT (x :: l)=max (x.2 * lgA x.1) (x.2 * lgB x.1) + highT l:=by simp [highT]
  rw [e1,e2,List.length_cons]
  omega
theorem lowT_le:∀ l:List (Int×Int),lowT l≤highT l
 | []=>Int.le_refl _
 | x :: l=>by
  have ih:=lowT_le l
  have e1:lowT (x :: l)=min (x.2 * lgA x.1) (x.2 * lgB x.1) + lowT l:=by simp [lowT]
  have e2:highT (x :: l)=max (x.2 * lgA x.1) (x.2 * lgB x.1) + highT l:=by simp [highT]
  rw [e1,e2]
  omega
structure QuoT (tx ty:List (Int×Int)) (d g:Nat) (q:Int):Prop where
 okx:∀ x∈tx,okT 100000 x
 oky:∀ x∈ty,okT 100000 x
 r:(0 < lowT ty∧LN.quoL (lowT tx) (lowT ty) (highT ty) g d=q∧LN.quoH (highT tx) (lowT ty) (highT ty) g d=q) ∨
   (highT ty < 0∧LN.quoL (-highT tx) (-highT ty) (-lowT ty) g d=q∧LN.quoH (-lowT tx) (-highT ty) (-lowT ty) g d=q)
 lo : -4000000000000000000≤q
 hi:q≤4000000000000000000
theorem near_says (w:World) (b1 b2:Option Addr) (d1 d2 D:Nat) (tl:List (Int×Int)) (T:TermsAt w tl b1 b2) (hl:tl.length≤6) :
  ∃ (a h:Int) (b:Bool),(b=true→(∀ x∈tl,okT 100000 x)∧a=lowT tl∧h=highT tl)∧(-300000000000000≤a∧a≤300000000000000)∧(-300000000000000≤h∧h≤300000000000000) ∧
   ∀ W,Below w.heap.size w W→Laid W→Gives Tryz.prog 165 #[.agg (tcells b1 d1 b2 d2 tl.length D),.int .i64 100000] W (.tuple #[.int .i64 a,.int .i64 h,.bool b]):=by
 by_cases ho:∀ x∈tl,okT 100000 x
 ·have hs:=sums_le5 tl ho T.p
  refine ⟨lowT tl,highT tl,true,fun _=>⟨ho,rfl,rfl⟩,by omega,by omega,fun W hW LW=>?_⟩
  have:=near_any W b1 b2 d1 d2 D tl 100000 (by decide) (by decide) T.len (T.below hW).r1 (T.below hW).r2 T.p T.z LW
  unfold nearV at this
  rw [if_pos ho] at this
  exact this
 ·refine ⟨0,0,false,fun h=>(by cases h),by decide,by decide,fun W hW LW=>?_⟩
  have:=near_any W b1 b2 d1 d2 D tl 100000 (by decide) (by decide) T.len (T.below hW).r1 (T.below hW).r2 T.p T.z LW
  unfold nearV at this
  rw [if_neg ho] at this
  exact this
theorem small_says (d:Nat) (hd:Num d):∃ (a:Int) (b:Bool),(b=true→a=d)∧0≤a∧a≤9223372036854775807∧∀ W,Laid W→Gives Tryz.prog 83 #[.string (dec d)] W (.tuple #[.int .i64 a,.bool b]):=by
 by_cases h : -9223372036854775808≤(d:Int)∧(d:Int)≤9223372036854775807
 ·refine ⟨d,true,fun _=>rfl,by omega,h.2,fun W LW=>?_⟩
  have:=smallz_any W (d:Int) hd LW
  rw [if_pos h,itx_nat] at this
  exact this
 ·refine ⟨0,false,fun h=>(by cases h),by decide,by decide,fun W LW=>?_⟩
  have:=smallz_any W (d:Int) hd LW
  rw [if_neg h,itx_nat] at this
  exact this
set_option maxRecDepth 100000 in
set_option maxHeartbeats 64000000 in
theorem quotient_any (w:World) (x1 x2 y1 y2:Option Addr) (e1 e2 g1 g2 d g:Nat) (tx ty:List (Int×Int)) (X:TermsAt w tx x1 x2) (Y:TermsAt w ty y1 y2) (hlx:tx.length≤6) (hly:ty.length≤6) (hd:Num d) (hg:Num g) (hd0:0 < d) (hg0:0 < g) (L:Laid w) :
  Calls Tryz.prog 130 #[.agg (tcells x1 e1 x2 e2 tx.length d),.agg (tcells y1 g1 y2 g2 ty.length g)] w fun e w'=>∃ q b,e = .returned (.tuple #[.int .i64 q,.bool b])∧(b=true→QuoT tx ty d g q)∧Below w.heap.size w w':=by
 obtain ⟨X1,X2,bx,hX,hX1,hX2,NX⟩:=near_says w x1 x2 e1 e2 d tx X hlx
 obtain ⟨Y1,Y2,by_,hY,hY1,hY2,NY⟩:=near_says w y1 y2 g1 g2 g ty Y hly
 obtain ⟨D,bd,hD,hD0,hD1,ND⟩:=small_says d hd
 obtain ⟨G,bg,hG,hG0,hG1,NG⟩:=small_says g hg
 have Hnx:Hid (∀ W,Below w.heap.size w W→Gives Tryz.prog 165 #[.agg (tcells x1 e1 x2 e2 tx.length d),.int .i64 100000] W (.tuple #[.int .i64 X1,.int .i64 X2,.bool bx])):=fun W hW=>NX W hW (L.below hW)
 have Hny:Hid (∀ W,Below w.heap.size w W→Gives Tryz.prog 165 #[.agg (tcells y1 g1 y2 g2 ty.length g),.int .i64 100000] W (.tuple #[.int .i64 Y1,.int .i64 Y2,.bool by_])):=fun W hW=>NY W hW (L.below hW)
 have Hsd:Hid (∀ W,Below w.heap.size w W→Gives Tryz.prog 83 #[.string (dec d)] W (.tuple #[.int .i64 D,.bool bd])):=fun W hW=>ND W (L.below hW)
 have Hsg:Hid (∀ W,Below w.heap.size w W→Gives Tryz.prog 83 #[.string (dec g)] W (.tuple #[.int .i64 G,.bool bg])):=fun W hW=>NG W (L.below hW)
 have R1:Hid (((w.alloc (.cells (tcells x1 e1 x2 e2 tx.length d) 168)).alloc (.cells (tcells y1 g1 y2 g2 ty.length g) 168)).heap[w.heap.size]?=some (.cells #[.slice x1 tx.length e1,.slice x2 tx.length e2,.string (dec d)] 168 (0,0))):=heap_old (heap_at w _ _ _ rfl) _
 have R2:Hid (((w.alloc (.cells (tcells x1 e1 x2 e2 tx.length d) 168)).alloc (.cells (tcells y1 g1 y2 g2 ty.length g) 168)).heap[w.heap.size + 1]?=some (.cells #[.slice y1 ty.length g1,.slice y2 ty.length g2,.string (dec g)] 168 (0,0))):=heap_at _ _ _ _ (by show (w.heap.push _).size=_; exact Array.size_push ..)
 have B0:Hid (Below w.heap.size w ((w.alloc (.cells (tcells x1 e1 x2 e2 tx.length d) 168)).alloc (.cells (tcells y1 g1 y2 g2 ty.length g) 168))):=by
  show Below _ _ _
  have b1:=(Below.refl w.heap.size w).alloc nr_ (.cells (tcells x1 e1 x2 e2 tx.length d) 168)
  exact b1.alloc b1.size _
 have HX:=Lib.hid hX
 have HY:=Lib.hid hY
 have HD:=Lib.hid hD
 have HG:=Lib.hid hG
 clear NX NY ND NG hX hY hD hG X Y L hlx hly hd hg
 generalize tx.length=n at *
 generalize ty.length=m at *
 cases bx with
 | false =>
  go_enter Tryz.func130,Tryz.ntmps130
  go_wp2_with fail
  generalize (w.alloc (.cells (tcells x1 e1 x2 e2 n d) 168)).alloc (.cells (tcells y1 g1 y2 g2 m g) 168)=W0 at *
  refine Calls.mono (Hnx.out _ B0.out) ?_
  rintro e W1 ⟨rfl,hb⟩
  have B1:=Lib.hid (B0.out.trans (hb.mono B0.out.size))
  have R3:=Lib.hid (heap_kept R1.out hb nr_)
  have R4:=Lib.hid (heap_kept R2.out hb nr_)
  clear hb B0 R1 R2 Hnx
  obtain ⟨k0,k1,k2,-⟩:=obj_cells3 R3.out
  obtain ⟨m0,m1,m2,-⟩:=obj_cells3 R4.out
  go_wp2_with fail
  refine Calls.mono (Hny.out _ B1.out) ?_
  rintro e W2 ⟨rfl,hb⟩
  have B2:=Lib.hid (B1.out.trans (hb.mono B1.out.size))
  have R5:=Lib.hid (heap_kept R3.out hb nr_)
  have R6:=Lib.hid (heap_kept R4.out hb nr_)
  clear hb B1 R3 R4 Hny k0 k1 k2 m0 m1 m2
  obtain ⟨k0,k1,k2,-⟩:=obj_cells3 R5.out
  go_wp2_with fail
  refine Calls.mono (Hsd.out _ B2.out) ?_
  rintro e W3 ⟨rfl,hb⟩
  have B3:=Lib.hid (B2.out.trans (hb.mono B2.out.size))
  have R8:=Lib.hid (heap_kept R6.out hb nr_)
  clear hb B2 R5 R6 Hsd k0 k1 k2
  obtain ⟨m0,m1,m2,-⟩:=obj_cells3 R8.out
  go_wp2_with fail
  refine Calls.mono (Hsg.out _ B3.out) ?_
  rintro e W4 ⟨rfl,hb⟩
  have B4:=Lib.hid (B3.out.trans (hb.mono B3.out.size))
  clear hb B3 R8 Hsg m0 m1 m2
  go_wp2_with fail
  go_ret2
  exact ⟨0,false,rfl,fun h=>(by cases h),B4.out⟩
 | true =>
  cases by_ with
  | false =>
   go_enter Tryz.func130,Tryz.ntmps130
   go_wp2_with fail
   generalize (w.alloc (.cells (tcells x1 e1 x2 e2 n d) 168)).alloc (.cells (tcells y1 g1 y2 g2 m g) 168)=W0 at *
   refine Calls.mono (Hnx.out _ B0.out) ?_
   rintro e W1 ⟨rfl,hb⟩
   have B1:=Lib.hid (B0.out.trans (hb.mono B0.out.size))
   have R3:=Lib.hid (heap_kept R1.out hb nr_)
   have R4:=Lib.hid (heap_kept R2.out hb nr_)
   clear hb B0 R1 R2 Hnx
   obtain ⟨k0,k1,k2,-⟩:=obj_cells3 R3.out
   obtain ⟨m0,m1,m2,-⟩:=obj_cells3 R4.out
   go_wp2_with fail
   refine Calls.mono (Hny.out _ B1.out) ?_
   rintro e W2 ⟨rfl,hb⟩
   have B2:=Lib.hid (B1.out.trans (hb.mono B1.out.size))
   have R5:=Lib.hid (heap_kept R3.out hb nr_)
   have R6:=Lib.hid (heap_kept R4.out hb nr_)
   clear hb B1 R3 R4 Hny k0 k1 k2 m0 m1 m2
   obtain ⟨k0,k1,k2,-⟩:=obj_cells3 R5.out
   go_wp2_with fail
   refine Calls.mono (Hsd.out _ B2.out) ?_
   rintro e W3 ⟨rfl,hb⟩
   have B3:=Lib.hid (B2.out.trans (hb.mono B2.out.size))
   have R8:=Lib.hid (heap_kept R6.out hb nr_)
   clear hb B2 R5 R6 Hsd k0 k1 k2
   obtain ⟨m0,m1,m2,-⟩:=obj_cells3 R8.out
   go_wp2_with fail
   refine Calls.mono (Hsg.out _ B3.out) ?_
   rintro e W4 ⟨rfl,hb⟩
   have B4:=Lib.hid (B3.out.trans (hb.mono B3.out.size))
   clear hb B3 R8 Hsg m0 m1 m2
   go_wp2_with fail
   go_ret2
   exact ⟨0,false,rfl,fun h=>(by cases h),B4.out⟩
  | true =>
   cases bd with
   | false =>
    go_enter Tryz.func130,Tryz.ntmps130
    go_wp2_with fail
    generalize (w.alloc (.cells (tcells x1 e1 x2 e2 n d) 168)).alloc (.cells (tcells y1 g1 y2 g2 m g) 168)=W0 at *
    refine Calls.mono (Hnx.out _ B0.out) ?_
    rintro e W1 ⟨rfl,hb⟩
    have B1:=Lib.hid (B0.out.trans (hb.mono B0.out.size))
    have R3:=Lib.hid (heap_kept R1.out hb nr_)
    have R4:=Lib.hid (heap_kept R2.out hb nr_)
    clear hb B0 R1 R2 Hnx
    obtain ⟨k0,k1,k2,-⟩:=obj_cells3 R3.out
    obtain ⟨m0,m1,m2,-⟩:=obj_cells3 R4.out
    go_wp2_with fail
    refine Calls.mono (Hny.out _ B1.out) ?_
    rintro e W2 ⟨rfl,hb⟩
    have B2:=Lib.hid (B1.out.trans (hb.mono B1.out.size))
    have R5:=Lib.hid (heap_kept R3.out hb nr_)
    have R6:=Lib.hid (heap_kept R4.out hb nr_)
    clear hb B1 R3 R4 Hny k0 k1 k2 m0 m1 m2
    obtain ⟨k0,k1,k2,-⟩:=obj_cells3 R5.out
    go_wp2_with fail
    refine Calls.mono (Hsd.out _ B2.out) ?_
    rintro e W3 ⟨rfl,hb⟩
    have B3:=Lib.hid (B2.out.trans (hb.mono B2.out.size))
    have R8:=Lib.hid (heap_kept R6.out hb nr_)
    clear hb B2 R5 R6 Hsd k0 k1 k2
    obtain ⟨m0,m1,m2,-⟩:=obj_cells3 R8.out
    go_wp2_with fail
    refine Calls.mono (Hsg.out _ B3.out) ?_
    rintro e W4 ⟨rfl,hb⟩
    have B4:=Lib.hid (B3.out.trans (hb.mono B3.out.size))
    clear hb B3 R8 Hsg m0 m1 m2
    go_wp2_with fail
    go_ret2
    exact ⟨0,false,rfl,fun h=>(by cases h),B4.out⟩
   | true =>
    cases bg with
    | false =>
     go_enter Tryz.func130,Tryz.ntmps130
     go_wp2_with fail
     generalize (w.alloc (.cells (tcells x1 e1 x2 e2 n d) 168)).alloc (.cells (tcells y1 g1 y2 g2 m g) 168)=W0 at *
     refine Calls.mono (Hnx.out _ B0.out) ?_
     rintro e W1 ⟨rfl,hb⟩
     have B1:=Lib.hid (B0.out.trans (hb.mono B0.out.size))
     have R3:=Lib.hid (heap_kept R1.out hb nr_)
     have R4:=Lib.hid (heap_kept R2.out hb nr_)
     clear hb B0 R1 R2 Hnx
     obtain ⟨k0,k1,k2,-⟩:=obj_cells3 R3.out
     obtain ⟨m0,m1,m2,-⟩:=obj_cells3 R4.out
     go_wp2_with fail
     refine Calls.mono (Hny.out _ B1.out) ?_
     rintro e W2 ⟨rfl,hb⟩
     have B2:=Lib.hid (B1.out.trans (hb.mono B1.out.size))
     have R5:=Lib.hid (heap_kept R3.out hb nr_)
     have R6:=Lib.hid (heap_kept R4.out hb nr_)
     clear hb B1 R3 R4 Hny k0 k1 k2 m0 m1 m2
     obtain ⟨k0,k1,k2,-⟩:=obj_cells3 R5.out
     go_wp2_with fail
     refine Calls.mono (Hsd.out _ B2.out) ?_
     rintro e W3 ⟨rfl,hb⟩
     have B3:=Lib.hid (B2.out.trans (hb.mono B2.out.size))
     have R8:=Lib.hid (heap_kept R6.out hb nr_)
     clear hb B2 R5 R6 Hsd k0 k1 k2
     obtain ⟨m0,m1,m2,-⟩:=obj_cells3 R8.out
     go_wp2_with fail
     refine Calls.mono (Hsg.out _ B3.out) ?_
     rintro e W4 ⟨rfl,hb⟩
     have B4:=Lib.hid (B3.out.trans (hb.mono B3.out.size))
     clear hb B3 R8 Hsg m0 m1 m2
     go_wp2_with fail
     go_ret2
     exact ⟨0,false,rfl,fun h=>(by cases h),B4.out⟩
    | true =>
     have hDd:=HD.out rfl
     have hGg:=HG.out rfl
     have hXx:=HX.out rfl
     have hYy:=HY.out rfl
     by_cases hD2:(10000:Int) < D
     ·clear hDd hGg hXx hYy HX HY HD HG
      go_enter Tryz.func130,Tryz.ntmps130
      go_wp2_with fail
      generalize (w.alloc (.cells (tcells x1 e1 x2 e2 n d) 168)).alloc (.cells (tcells y1 g1 y2 g2 m g) 168)=W0 at *
      refine Calls.mono (Hnx.out _ B0.out) ?_
      rintro e W1 ⟨rfl,hb⟩
      have B1:=Lib.hid (B0.out.trans (hb.mono B0.out.size))
      have R3:=Lib.hid (heap_kept R1.out hb nr_)
      have R4:=Lib.hid (heap_kept R2.out hb nr_)
      clear hb B0 R1 R2 Hnx
      obtain ⟨k0,k1,k2,-⟩:=obj_cells3 R3.out
      obtain ⟨m0,m1,m2,-⟩:=obj_cells3 R4.out
      go_wp2_with fail
      refine Calls.mono (Hny.out _ B1.out) ?_
      rintro e W2 ⟨rfl,hb⟩
      have B2:=Lib.hid (B1.out.trans (hb.mono B1.out.size))
      have R5:=Lib.hid (heap_kept R3.out hb nr_)
      have R6:=Lib.hid (heap_kept R4.out hb nr_)
      clear hb B1 R3 R4 Hny k0 k1 k2 m0 m1 m2
      obtain ⟨k0,k1,k2,-⟩:=obj_cells3 R5.out
      go_wp2_with fail
      refine Calls.mono (Hsd.out _ B2.out) ?_
      rintro e W3 ⟨rfl,hb⟩
      have B3:=Lib.hid (B2.out.trans (hb.mono B2.out.size))
      have R8:=Lib.hid (heap_kept R6.out hb nr_)
      clear hb B2 R5 R6 Hsd k0 k1 k2
      obtain ⟨m0,m1,m2,-⟩:=obj_cells3 R8.out
      go_wp2_with fail
      refine Calls.mono (Hsg.out _ B3.out) ?_
      rintro e W4 ⟨rfl,hb⟩
      have B4:=Lib.hid (B3.out.trans (hb.mono B3.out.size))
      clear hb B3 R8 Hsg m0 m1 m2
      go_wp2_with fail
      go_ret2
      exact ⟨0,false,rfl,fun h=>(by cases h),B4.out⟩
     by_cases hG2:(10000:Int) < G
     ·clear hDd hGg hXx hYy HX HY HD HG
      go_enter Tryz.func130,Tryz.ntmps130
      go_wp2_with fail
      generalize (w.alloc (.cells (tcells x1 e1 x2 e2 n d) 168)).alloc (.cells (tcells y1 g1 y2 g2 m g) 168)=W0 at *
      refine Calls.mono (Hnx.out _ B0.out) ?_
      rintro e W1 ⟨rfl,hb⟩
      have B1:=Lib.hid (B0.out.trans (hb.mono B0.out.size))
      have R3:=Lib.hid (heap_kept R1.out hb nr_)
      have R4:=Lib.hid (heap_kept R2.out hb nr_)
      clear hb B0 R1 R2 Hnx
      obtain ⟨k0,k1,k2,-⟩:=obj_cells3 R3.out
      obtain ⟨m0,m1,m2,-⟩:=obj_cells3 R4.out
      go_wp2_with fail
      refine Calls.mono (Hny.out _ B1.out) ?_
      rintro e W2 ⟨rfl,hb⟩
      have B2:=Lib.hid (B1.out.trans (hb.mono B1.out.size))
      have R5:=Lib.hid (heap_kept R3.out hb nr_)
      have R6:=Lib.hid (heap_kept R4.out hb nr_)
      clear hb B1 R3 R4 Hny k0 k1 k2 m0 m1 m2
      obtain ⟨k0,k1,k2,-⟩:=obj_cells3 R5.out
      go_wp2_with fail
      refine Calls.mono (Hsd.out _ B2.out) ?_
      rintro e W3 ⟨rfl,hb⟩
      have B3:=Lib.hid (B2.out.trans (hb.mono B2.out.size))
      have R8:=Lib.hid (heap_kept R6.out hb nr_)
      clear hb B2 R5 R6 Hsd k0 k1 k2
      obtain ⟨m0,m1,m2,-⟩:=obj_cells3 R8.out
      go_wp2_with fail
      refine Calls.mono (Hsg.out _ B3.out) ?_
      rintro e W4 ⟨rfl,hb⟩
      have B4:=Lib.hid (B3.out.trans (hb.mono B3.out.size))
      clear hb B3 R8 Hsg m0 m1 m2
      go_wp2_with fail
      go_ret2
      exact ⟨0,false,rfl,fun h=>(by cases h),B4.out⟩
     have HXx:=Lib.hid hXx
     have HYy:=Lib.hid hYy
     have HDd:=Lib.hid hDd
     have HGg:=Lib.hid hGg
     have hD3:0 < D:=by omega
     have hG3:0 < G:=by omega
     clear hXx hYy hDd hGg HX HY HD HG hd0 hg0
     by_cases hy:Y2≤0
     ·have wn1:IntKind.i64.wrap (-X1) = -X1:=IntWalk.i64_in _ (by omega)
      have wn2:IntKind.i64.wrap (-X2) = -X2:=IntWalk.i64_in _ (by omega)
      have wn3:IntKind.i64.wrap (-Y1) = -Y1:=IntWalk.i64_in _ (by omega)
      have wn4:IntKind.i64.wrap (-Y2) = -Y2:=IntWalk.i64_in _ (by omega)
      by_cases hy2 : -Y2≤0
      ·clear HXx HYy HDd HGg
       go_enter Tryz.func130,Tryz.ntmps130
       go_wp2_with fail
       generalize (w.alloc (.cells (tcells x1 e1 x2 e2 n d) 168)).alloc (.cells (tcells y1 g1 y2 g2 m g) 168)=W0 at *
       refine Calls.mono (Hnx.out _ B0.out) ?_
       rintro e W1 ⟨rfl,hb⟩
       have B1:=Lib.hid (B0.out.trans (hb.mono B0.out.size))
       have R3:=Lib.hid (heap_kept R1.out hb nr_)
       have R4:=Lib.hid (heap_kept R2.out hb nr_)
       clear hb B0 R1 R2 Hnx
       obtain ⟨k0,k1,k2,-⟩:=obj_cells3 R3.out
       obtain ⟨m0,m1,m2,-⟩:=obj_cells3 R4.out
       go_wp2_with fail
       refine Calls.mono (Hny.out _ B1.out) ?_
       rintro e W2 ⟨rfl,hb⟩
       have B2:=Lib.hid (B1.out.trans (hb.mono B1.out.size))
       have R5:=Lib.hid (heap_kept R3.out hb nr_)
       have R6:=Lib.hid (heap_kept R4.out hb nr_)
       clear hb B1 R3 R4 Hny k0 k1 k2 m0 m1 m2
       obtain ⟨k0,k1,k2,-⟩:=obj_cells3 R5.out
       go_wp2_with fail
       refine Calls.mono (Hsd.out _ B2.out) ?_
       rintro e W3 ⟨rfl,hb⟩
       have B3:=Lib.hid (B2.out.trans (hb.mono B2.out.size))
       have R8:=Lib.hid (heap_kept R6.out hb nr_)
       clear hb B2 R5 R6 Hsd k0 k1 k2
       obtain ⟨m0,m1,m2,-⟩:=obj_cells3 R8.out
       go_wp2_with fail
       refine Calls.mono (Hsg.out _ B3.out) ?_
       rintro e W4 ⟨rfl,hb⟩
       have B4:=Lib.hid (B3.out.trans (hb.mono B3.out.size))
       clear hb B3 R8 Hsg m0 m1 m2
       go_wp2_with fail
       go_ret2
       exact ⟨0,false,rfl,fun h=>(by cases h),B4.out⟩
      ·have hle : -Y2 ≤ -Y1:=by
        obtain ⟨u1,u2,u3⟩:=HYy.out
        rw [u2,u3]
        have:=lowT_le ty
        omega
       by_cases hx1:(-X2) < 0
       ·by_cases hx2:(-X1) < 0
        ·skip
         have r1:((-X2) * G).natAbs≤300000000000000 * 10000:=by rw [Int.natAbs_mul]; exact Nat.mul_le_mul (by omega) (by omega)
         have r2:((-X1) * G).natAbs≤300000000000000 * 10000:=by rw [Int.natAbs_mul]; exact Nat.mul_le_mul (by omega) (by omega)
         have r3:((-Y2) * D).natAbs≤300000000000000 * 10000:=by rw [Int.natAbs_mul]; exact Nat.mul_le_mul (by omega) (by omega)
         have r4:((-Y1) * D).natAbs≤300000000000000 * 10000:=by rw [Int.natAbs_mul]; exact Nat.mul_le_mul (by omega) (by omega)
         have p3:0 < (-Y2) * D:=Int.mul_pos (by omega) hD3
         have p4:0 < (-Y1) * D:=Int.mul_pos (by omega) hD3
         have w1:IntKind.i64.wrap ((-X2) * G)=(-X2) * G:=IntWalk.i64_in _ (by omega)
         have w2:IntKind.i64.wrap ((-X1) * G)=(-X1) * G:=IntWalk.i64_in _ (by omega)
         have w3:IntKind.i64.wrap ((-Y2) * D)=(-Y2) * D:=IntWalk.i64_in _ (by omega)
         have w4:IntKind.i64.wrap ((-Y1) * D)=(-Y1) * D:=IntWalk.i64_in _ (by omega)
         have D1:Hid (∀ W,Gives Tryz.prog 166 #[.int .i64 ((-X2) * G),.int .i64 ((-Y2) * D)] W (.int .i64 ((-X2) * G / ((-Y2) * D)))):=fun W=>downward_any W _ _ (by omega) p3 (by omega)
         have D2:Hid (∀ W,Gives Tryz.prog 166 #[.int .i64 ((-X1) * G),.int .i64 ((-Y1) * D)] W (.int .i64 ((-X1) * G / ((-Y1) * D)))):=fun W=>downward_any W _ _ (by omega) p4 (by omega)
         have q5:(((-X2) * G / ((-Y2) * D)).natAbs:Int)≤4000000000000000000:=by
          have:=Int.natAbs_ediv_le_natAbs ((-X2) * G) ((-Y2) * D)
          omega
         have Hq:Hid ((-X2) * G / ((-Y2) * D)=(-X1) * G / ((-Y1) * D)→QuoT tx ty d g ((-X2) * G / ((-Y2) * D))):=fun h=>by
          obtain ⟨o1,o2,o3⟩:=HXx.out
          obtain ⟨u1,u2,u3⟩:=HYy.out
          refine ⟨o1,u1,?_,by omega,by omega⟩
          rw [← o2,← o3,← u2,← u3,← HDd.out,← HGg.out]
          refine .inr ⟨by omega,?_,?_⟩
          ·unfold LN.quoL
           rw [if_pos (by omega)]
          ·unfold LN.quoH
           rw [if_pos (by omega)]
           exact h.symm
         clear r1 r2 r3 r4 p3 p4 q5 HXx HYy HDd HGg
         obtain ⟨q1,hq1⟩:∃ q,(-X2) * G / ((-Y2) * D)=q:=⟨_,rfl⟩
         obtain ⟨q2,hq2⟩:∃ q,(-X1) * G / ((-Y1) * D)=q:=⟨_,rfl⟩
         rw [hq1] at D1 Hq
         rw [hq2] at D2 Hq
         clear hq1 hq2
         go_enter Tryz.func130,Tryz.ntmps130
         go_wp2_with fail
         generalize (w.alloc (.cells (tcells x1 e1 x2 e2 n d) 168)).alloc (.cells (tcells y1 g1 y2 g2 m g) 168)=W0 at *
         refine Calls.mono (Hnx.out _ B0.out) ?_
         rintro e W1 ⟨rfl,hb⟩
         have B1:=Lib.hid (B0.out.trans (hb.mono B0.out.size))
         have R3:=Lib.hid (heap_kept R1.out hb nr_)
         have R4:=Lib.hid (heap_kept R2.out hb nr_)
         clear hb B0 R1 R2 Hnx
         obtain ⟨k0,k1,k2,-⟩:=obj_cells3 R3.out
         obtain ⟨m0,m1,m2,-⟩:=obj_cells3 R4.out
         go_wp2_with fail
         refine Calls.mono (Hny.out _ B1.out) ?_
         rintro e W2 ⟨rfl,hb⟩
         have B2:=Lib.hid (B1.out.trans (hb.mono B1.out.size))
         have R5:=Lib.hid (heap_kept R3.out hb nr_)
         have R6:=Lib.hid (heap_kept R4.out hb nr_)
         clear hb B1 R3 R4 Hny k0 k1 k2 m0 m1 m2
         obtain ⟨k0,k1,k2,-⟩:=obj_cells3 R5.out
         go_wp2_with fail
         refine Calls.mono (Hsd.out _ B2.out) ?_
         rintro e W3 ⟨rfl,hb⟩
         have B3:=Lib.hid (B2.out.trans (hb.mono B2.out.size))
         have R8:=Lib.hid (heap_kept R6.out hb nr_)
         clear hb B2 R5 R6 Hsd k0 k1 k2
         obtain ⟨m0,m1,m2,-⟩:=obj_cells3 R8.out
         go_wp2_with fail
         refine Calls.mono (Hsg.out _ B3.out) ?_
         rintro e W4 ⟨rfl,hb⟩
         have B4:=Lib.hid (B3.out.trans (hb.mono B3.out.size))
         clear hb B3 R8 Hsg m0 m1 m2
         go_wp2_with fail
         refine Calls.mono (D1.out _) ?_
         rintro e W5 ⟨rfl,hb⟩
         have B5:=Lib.hid (B4.out.trans (hb.mono B4.out.size))
         clear hb B4
         go_wp2_with fail
         refine Calls.mono (D2.out _) ?_
         rintro e W6 ⟨rfl,hb⟩
         have B6:=Lib.hid (B5.out.trans (hb.mono B5.out.size))
         clear hb B5
         go_wp2_with fail
         go_ret2
         exact ⟨q1,q1 == q2,rfl,fun h=>Hq.out (by simpa using h),B6.out⟩
        ·skip
         have r1:((-X2) * G).natAbs≤300000000000000 * 10000:=by rw [Int.natAbs_mul]; exact Nat.mul_le_mul (by omega) (by omega)
         have r2:((-X1) * G).natAbs≤300000000000000 * 10000:=by rw [Int.natAbs_mul]; exact Nat.mul_le_mul (by omega) (by omega)
         have r3:((-Y2) * D).natAbs≤300000000000000 * 10000:=by rw [Int.natAbs_mul]; exact Nat.mul_le_mul (by omega) (by omega)
         have r4:((-Y2) * D).natAbs≤300000000000000 * 10000:=by rw [Int.natAbs_mul]; exact Nat.mul_le_mul (by omega) (by omega)
         have p3:0 < (-Y2) * D:=Int.mul_pos (by omega) hD3
         have p4:0 < (-Y2) * D:=Int.mul_pos (by omega) hD3
         have w1:IntKind.i64.wrap ((-X2) * G)=(-X2) * G:=IntWalk.i64_in _ (by omega)
         have w2:IntKind.i64.wrap ((-X1) * G)=(-X1) * G:=IntWalk.i64_in _ (by omega)
         have w3:IntKind.i64.wrap ((-Y2) * D)=(-Y2) * D:=IntWalk.i64_in _ (by omega)
         have w4:IntKind.i64.wrap ((-Y2) * D)=(-Y2) * D:=IntWalk.i64_in _ (by omega)
         have D1:Hid (∀ W,Gives Tryz.prog 166 #[.int .i64 ((-X2) * G),.int .i64 ((-Y2) * D)] W (.int .i64 ((-X2) * G / ((-Y2) * D)))):=fun W=>downward_any W _ _ (by omega) p3 (by omega)
         have D2:Hid (∀ W,Gives Tryz.prog 166 #[.int .i64 ((-X1) * G),.int .i64 ((-Y2) * D)] W (.int .i64 ((-X1) * G / ((-Y2) * D)))):=fun W=>downward_any W _ _ (by omega) p4 (by omega)
         have q5:(((-X2) * G / ((-Y2) * D)).natAbs:Int)≤4000000000000000000:=by
          have:=Int.natAbs_ediv_le_natAbs ((-X2) * G) ((-Y2) * D)
          omega
         have Hq:Hid ((-X2) * G / ((-Y2) * D)=(-X1) * G / ((-Y2) * D)→QuoT tx ty d g ((-X2) * G / ((-Y2) * D))):=fun h=>by
          obtain ⟨o1,o2,o3⟩:=HXx.out
          obtain ⟨u1,u2,u3⟩:=HYy.out
          refine ⟨o1,u1,?_,by omega,by omega⟩
          rw [← o2,← o3,← u2,← u3,← HDd.out,← HGg.out]
          refine .inr ⟨by omega,?_,?_⟩
          ·unfold LN.quoL
           rw [if_pos (by omega)]
          ·unfold LN.quoH
           rw [if_neg (by omega)]
           exact h.symm
         clear r1 r2 r3 r4 p3 p4 q5 HXx HYy HDd HGg
         obtain ⟨q1,hq1⟩:∃ q,(-X2) * G / ((-Y2) * D)=q:=⟨_,rfl⟩
         obtain ⟨q2,hq2⟩:∃ q,(-X1) * G / ((-Y2) * D)=q:=⟨_,rfl⟩
         rw [hq1] at D1 Hq
         rw [hq2] at D2 Hq
         clear hq1 hq2
         go_enter Tryz.func130,Tryz.ntmps130
         go_wp2_with fail
         generalize (w.alloc (.cells (tcells x1 e1 x2 e2 n d) 168)).alloc (.cells (tcells y1 g1 y2 g2 m g) 168)=W0 at *
         refine Calls.mono (Hnx.out _ B0.out) ?_
         rintro e W1 ⟨rfl,hb⟩
         have B1:=Lib.hid (B0.out.trans (hb.mono B0.out.size))
         have R3:=Lib.hid (heap_kept R1.out hb nr_)
         have R4:=Lib.hid (heap_kept R2.out hb nr_)
         clear hb B0 R1 R2 Hnx
         obtain ⟨k0,k1,k2,-⟩:=obj_cells3 R3.out
         obtain ⟨m0,m1,m2,-⟩:=obj_cells3 R4.out
         go_wp2_with fail
         refine Calls.mono (Hny.out _ B1.out) ?_
         rintro e W2 ⟨rfl,hb⟩
         have B2:=Lib.hid (B1.out.trans (hb.mono B1.out.size))
         have R5:=Lib.hid (heap_kept R3.out hb nr_)
         have R6:=Lib.hid (heap_kept R4.out hb nr_)
         clear hb B1 R3 R4 Hny k0 k1 k2 m0 m1 m2
         obtain ⟨k0,k1,k2,-⟩:=obj_cells3 R5.out
         go_wp2_with fail
         refine Calls.mono (Hsd.out _ B2.out) ?_
         rintro e W3 ⟨rfl,hb⟩
         have B3:=Lib.hid (B2.out.trans (hb.mono B2.out.size))
         have R8:=Lib.hid (heap_kept R6.out hb nr_)
         clear hb B2 R5 R6 Hsd k0 k1 k2
         obtain ⟨m0,m1,m2,-⟩:=obj_cells3 R8.out
         go_wp2_with fail
         refine Calls.mono (Hsg.out _ B3.out) ?_
         rintro e W4 ⟨rfl,hb⟩
         have B4:=Lib.hid (B3.out.trans (hb.mono B3.out.size))
         clear hb B3 R8 Hsg m0 m1 m2
         go_wp2_with fail
         refine Calls.mono (D1.out _) ?_
         rintro e W5 ⟨rfl,hb⟩
         have B5:=Lib.hid (B4.out.trans (hb.mono B4.out.size))
         clear hb B4
         go_wp2_with fail
         refine Calls.mono (D2.out _) ?_
         rintro e W6 ⟨rfl,hb⟩
         have B6:=Lib.hid (B5.out.trans (hb.mono B5.out.size))
         clear hb B5
         go_wp2_with fail
         go_ret2
         exact ⟨q1,q1 == q2,rfl,fun h=>Hq.out (by simpa using h),B6.out⟩
       ·by_cases hx2:(-X1) < 0
        ·skip
         have r1:((-X2) * G).natAbs≤300000000000000 * 10000:=by rw [Int.natAbs_mul]; exact Nat.mul_le_mul (by omega) (by omega)
         have r2:((-X1) * G).natAbs≤300000000000000 * 10000:=by rw [Int.natAbs_mul]; exact Nat.mul_le_mul (by omega) (by omega)
         have r3:((-Y1) * D).natAbs≤300000000000000 * 10000:=by rw [Int.natAbs_mul]; exact Nat.mul_le_mul (by omega) (by omega)
         have r4:((-Y1) * D).natAbs≤300000000000000 * 10000:=by rw [Int.natAbs_mul]; exact Nat.mul_le_mul (by omega) (by omega)
         have p3:0 < (-Y1) * D:=Int.mul_pos (by omega) hD3
         have p4:0 < (-Y1) * D:=Int.mul_pos (by omega) hD3
         have w1:IntKind.i64.wrap ((-X2) * G)=(-X2) * G:=IntWalk.i64_in _ (by omega)
         have w2:IntKind.i64.wrap ((-X1) * G)=(-X1) * G:=IntWalk.i64_in _ (by omega)
         have w3:IntKind.i64.wrap ((-Y1) * D)=(-Y1) * D:=IntWalk.i64_in _ (by omega)
         have w4:IntKind.i64.wrap ((-Y1) * D)=(-Y1) * D:=IntWalk.i64_in _ (by omega)
         have D1:Hid (∀ W,Gives Tryz.prog 166 #[.int .i64 ((-X2) * G),.int .i64 ((-Y1) * D)] W (.int .i64 ((-X2) * G / ((-Y1) * D)))):=fun W=>downward_any W _ _ (by omega) p3 (by omega)
         have D2:Hid (∀ W,Gives Tryz.prog 166 #[.int .i64 ((-X1) * G),.int .i64 ((-Y1) * D)] W (.int .i64 ((-X1) * G / ((-Y1) * D)))):=fun W=>downward_any W _ _ (by omega) p4 (by omega)
         have q5:(((-X2) * G / ((-Y1) * D)).natAbs:Int)≤4000000000000000000:=by
          have:=Int.natAbs_ediv_le_natAbs ((-X2) * G) ((-Y1) * D)
          omega
         have Hq:Hid ((-X2) * G / ((-Y1) * D)=(-X1) * G / ((-Y1) * D)→QuoT tx ty d g ((-X2) * G / ((-Y1) * D))):=fun h=>by
          obtain ⟨o1,o2,o3⟩:=HXx.out
          obtain ⟨u1,u2,u3⟩:=HYy.out
          refine ⟨o1,u1,?_,by omega,by omega⟩
          rw [← o2,← o3,← u2,← u3,← HDd.out,← HGg.out]
          refine .inr ⟨by omega,?_,?_⟩
          ·unfold LN.quoL
           rw [if_neg (by omega)]
          ·unfold LN.quoH
           rw [if_pos (by omega)]
           exact h.symm
         clear r1 r2 r3 r4 p3 p4 q5 HXx HYy HDd HGg
         obtain ⟨q1,hq1⟩:∃ q,(-X2) * G / ((-Y1) * D)=q:=⟨_,rfl⟩
         obtain ⟨q2,hq2⟩:∃ q,(-X1) * G / ((-Y1) * D)=q:=⟨_,rfl⟩
         rw [hq1] at D1 Hq
         rw [hq2] at D2 Hq
         clear hq1 hq2
         go_enter Tryz.func130,Tryz.ntmps130
         go_wp2_with fail
         generalize (w.alloc (.cells (tcells x1 e1 x2 e2 n d) 168)).alloc (.cells (tcells y1 g1 y2 g2 m g) 168)=W0 at *
         refine Calls.mono (Hnx.out _ B0.out) ?_
         rintro e W1 ⟨rfl,hb⟩
         have B1:=Lib.hid (B0.out.trans (hb.mono B0.out.size))
         have R3:=Lib.hid (heap_kept R1.out hb nr_)
         have R4:=Lib.hid (heap_kept R2.out hb nr_)
         clear hb B0 R1 R2 Hnx
         obtain ⟨k0,k1,k2,-⟩:=obj_cells3 R3.out
         obtain ⟨m0,m1,m2,-⟩:=obj_cells3 R4.out
         go_wp2_with fail
         refine Calls.mono (Hny.out _ B1.out) ?_
         rintro e W2 ⟨rfl,hb⟩
         have B2:=Lib.hid (B1.out.trans (hb.mono B1.out.size))
         have R5:=Lib.hid (heap_kept R3.out hb nr_)
         have R6:=Lib.hid (heap_kept R4.out hb nr_)
         clear hb B1 R3 R4 Hny k0 k1 k2 m0 m1 m2
         obtain ⟨k0,k1,k2,-⟩:=obj_cells3 R5.out
         go_wp2_with fail
         refine Calls.mono (Hsd.out _ B2.out) ?_
         rintro e W3 ⟨rfl,hb⟩
         have B3:=Lib.hid (B2.out.trans (hb.mono B2.out.size))
         have R8:=Lib.hid (heap_kept R6.out hb nr_)
         clear hb B2 R5 R6 Hsd k0 k1 k2
         obtain ⟨m0,m1,m2,-⟩:=obj_cells3 R8.out
         go_wp2_with fail
         refine Calls.mono (Hsg.out _ B3.out) ?_
         rintro e W4 ⟨rfl,hb⟩
         have B4:=Lib.hid (B3.out.trans (hb.mono B3.out.size))
         clear hb B3 R8 Hsg m0 m1 m2
         go_wp2_with fail
         refine Calls.mono (D1.out _) ?_
         rintro e W5 ⟨rfl,hb⟩
         have B5:=Lib.hid (B4.out.trans (hb.mono B4.out.size))
         clear hb B4
         go_wp2_with fail
         refine Calls.mono (D2.out _) ?_
         rintro e W6 ⟨rfl,hb⟩
         have B6:=Lib.hid (B5.out.trans (hb.mono B5.out.size))
         clear hb B5
         go_wp2_with fail
         go_ret2
         exact ⟨q1,q1 == q2,rfl,fun h=>Hq.out (by simpa using h),B6.out⟩
        ·skip
         have r1:((-X2) * G).natAbs≤300000000000000 * 10000:=by rw [Int.natAbs_mul]; exact Nat.mul_le_mul (by omega) (by omega)
         have r2:((-X1) * G).natAbs≤300000000000000 * 10000:=by rw [Int.natAbs_mul]; exact Nat.mul_le_mul (by omega) (by omega)
         have r3:((-Y1) * D).natAbs≤300000000000000 * 10000:=by rw [Int.natAbs_mul]; exact Nat.mul_le_mul (by omega) (by omega)
         have r4:((-Y2) * D).natAbs≤300000000000000 * 10000:=by rw [Int.natAbs_mul]; exact Nat.mul_le_mul (by omega) (by omega)
         have p3:0 < (-Y1) * D:=Int.mul_pos (by omega) hD3
         have p4:0 < (-Y2) * D:=Int.mul_pos (by omega) hD3
         have w1:IntKind.i64.wrap ((-X2) * G)=(-X2) * G:=IntWalk.i64_in _ (by omega)
         have w2:IntKind.i64.wrap ((-X1) * G)=(-X1) * G:=IntWalk.i64_in _ (by omega)
         have w3:IntKind.i64.wrap ((-Y1) * D)=(-Y1) * D:=IntWalk.i64_in _ (by omega)
         have w4:IntKind.i64.wrap ((-Y2) * D)=(-Y2) * D:=IntWalk.i64_in _ (by omega)
         have D1:Hid (∀ W,Gives Tryz.prog 166 #[.int .i64 ((-X2) * G),.int .i64 ((-Y1) * D)] W (.int .i64 ((-X2) * G / ((-Y1) * D)))):=fun W=>downward_any W _ _ (by omega) p3 (by omega)
         have D2:Hid (∀ W,Gives Tryz.prog 166 #[.int .i64 ((-X1) * G),.int .i64 ((-Y2) * D)] W (.int .i64 ((-X1) * G / ((-Y2) * D)))):=fun W=>downward_any W _ _ (by omega) p4 (by omega)
         have q5:(((-X2) * G / ((-Y1) * D)).natAbs:Int)≤4000000000000000000:=by
          have:=Int.natAbs_ediv_le_natAbs ((-X2) * G) ((-Y1) * D)
          omega
         have Hq:Hid ((-X2) * G / ((-Y1) * D)=(-X1) * G / ((-Y2) * D)→QuoT tx ty d g ((-X2) * G / ((-Y1) * D))):=fun h=>by
          obtain ⟨o1,o2,o3⟩:=HXx.out
          obtain ⟨u1,u2,u3⟩:=HYy.out
          refine ⟨o1,u1,?_,by omega,by omega⟩
          rw [← o2,← o3,← u2,← u3,← HDd.out,← HGg.out]
          refine .inr ⟨by omega,?_,?_⟩
          ·unfold LN.quoL
           rw [if_neg (by omega)]
          ·unfold LN.quoH
           rw [if_neg (by omega)]
           exact h.symm
         clear r1 r2 r3 r4 p3 p4 q5 HXx HYy HDd HGg
         obtain ⟨q1,hq1⟩:∃ q,(-X2) * G / ((-Y1) * D)=q:=⟨_,rfl⟩
         obtain ⟨q2,hq2⟩:∃ q,(-X1) * G / ((-Y2) * D)=q:=⟨_,rfl⟩
         rw [hq1] at D1 Hq
         rw [hq2] at D2 Hq
         clear hq1 hq2
         go_enter Tryz.func130,Tryz.ntmps130
         go_wp2_with fail
         generalize (w.alloc (.cells (tcells x1 e1 x2 e2 n d) 168)).alloc (.cells (tcells y1 g1 y2 g2 m g) 168)=W0 at *
         refine Calls.mono (Hnx.out _ B0.out) ?_
         rintro e W1 ⟨rfl,hb⟩
         have B1:=Lib.hid (B0.out.trans (hb.mono B0.out.size))
         have R3:=Lib.hid (heap_kept R1.out hb nr_)
         have R4:=Lib.hid (heap_kept R2.out hb nr_)
         clear hb B0 R1 R2 Hnx
         obtain ⟨k0,k1,k2,-⟩:=obj_cells3 R3.out
         obtain ⟨m0,m1,m2,-⟩:=obj_cells3 R4.out
         go_wp2_with fail
         refine Calls.mono (Hny.out _ B1.out) ?_
         rintro e W2 ⟨rfl,hb⟩
         have B2:=Lib.hid (B1.out.trans (hb.mono B1.out.size))
         have R5:=Lib.hid (heap_kept R3.out hb nr_)
         have R6:=Lib.hid (heap_kept R4.out hb nr_)
         clear hb B1 R3 R4 Hny k0 k1 k2 m0 m1 m2
         obtain ⟨k0,k1,k2,-⟩:=obj_cells3 R5.out
         go_wp2_with fail
         refine Calls.mono (Hsd.out _ B2.out) ?_
         rintro e W3 ⟨rfl,hb⟩
         have B3:=Lib.hid (B2.out.trans (hb.mono B2.out.size))
         have R8:=Lib.hid (heap_kept R6.out hb nr_)
         clear hb B2 R5 R6 Hsd k0 k1 k2
         obtain ⟨m0,m1,m2,-⟩:=obj_cells3 R8.out
         go_wp2_with fail
         refine Calls.mono (Hsg.out _ B3.out) ?_
         rintro e W4 ⟨rfl,hb⟩
         have B4:=Lib.hid (B3.out.trans (hb.mono B3.out.size))
         clear hb B3 R8 Hsg m0 m1 m2
         go_wp2_with fail
         refine Calls.mono (D1.out _) ?_
         rintro e W5 ⟨rfl,hb⟩
         have B5:=Lib.hid (B4.out.trans (hb.mono B4.out.size))
         clear hb B4
         go_wp2_with fail
         refine Calls.mono (D2.out _) ?_
         rintro e W6 ⟨rfl,hb⟩
         have B6:=Lib.hid (B5.out.trans (hb.mono B5.out.size))
         clear hb B5
         go_wp2_with fail
         go_ret2
         exact ⟨q1,q1 == q2,rfl,fun h=>Hq.out (by simpa using h),B6.out⟩
     ·by_cases hy2:Y1≤0
      ·clear HXx HYy HDd HGg
       go_enter Tryz.func130,Tryz.ntmps130
       go_wp2_with fail
       generalize (w.alloc (.cells (tcells x1 e1 x2 e2 n d) 168)).alloc (.cells (tcells y1 g1 y2 g2 m g) 168)=W0 at *
       refine Calls.mono (Hnx.out _ B0.out) ?_
       rintro e W1 ⟨rfl,hb⟩
       have B1:=Lib.hid (B0.out.trans (hb.mono B0.out.size))
       have R3:=Lib.hid (heap_kept R1.out hb nr_)
       have R4:=Lib.hid (heap_kept R2.out hb nr_)
       clear hb B0 R1 R2 Hnx
       obtain ⟨k0,k1,k2,-⟩:=obj_cells3 R3.out
       obtain ⟨m0,m1,m2,-⟩:=obj_cells3 R4.out
       go_wp2_with fail
       refine Calls.mono (Hny.out _ B1.out) ?_
       rintro e W2 ⟨rfl,hb⟩
       have B2:=Lib.hid (B1.out.trans (hb.mono B1.out.size))
       have R5:=Lib.hid (heap_kept R3.out hb nr_)
       have R6:=Lib.hid (heap_kept R4.out hb nr_)
       clear hb B1 R3 R4 Hny k0 k1 k2 m0 m1 m2
       obtain ⟨k0,k1,k2,-⟩:=obj_cells3 R5.out
       go_wp2_with fail
       refine Calls.mono (Hsd.out _ B2.out) ?_
       rintro e W3 ⟨rfl,hb⟩
       have B3:=Lib.hid (B2.out.trans (hb.mono B2.out.size))
       have R8:=Lib.hid (heap_kept R6.out hb nr_)
       clear hb B2 R5 R6 Hsd k0 k1 k2
       obtain ⟨m0,m1,m2,-⟩:=obj_cells3 R8.out
       go_wp2_with fail
       refine Calls.mono (Hsg.out _ B3.out) ?_
       rintro e W4 ⟨rfl,hb⟩
       have B4:=Lib.hid (B3.out.trans (hb.mono B3.out.size))
       clear hb B3 R8 Hsg m0 m1 m2
       go_wp2_with fail
       go_ret2
       exact ⟨0,false,rfl,fun h=>(by cases h),B4.out⟩
      ·skip
       by_cases hx1:X1 < 0
       ·by_cases hx2:X2 < 0
        ·skip
         have r1:(X1 * G).natAbs≤300000000000000 * 10000:=by rw [Int.natAbs_mul]; exact Nat.mul_le_mul (by omega) (by omega)
         have r2:(X2 * G).natAbs≤300000000000000 * 10000:=by rw [Int.natAbs_mul]; exact Nat.mul_le_mul (by omega) (by omega)
         have r3:(Y1 * D).natAbs≤300000000000000 * 10000:=by rw [Int.natAbs_mul]; exact Nat.mul_le_mul (by omega) (by omega)
         have r4:(Y2 * D).natAbs≤300000000000000 * 10000:=by rw [Int.natAbs_mul]; exact Nat.mul_le_mul (by omega) (by omega)
         have p3:0 < Y1 * D:=Int.mul_pos (by omega) hD3
         have p4:0 < Y2 * D:=Int.mul_pos (by omega) hD3
         have w1:IntKind.i64.wrap (X1 * G)=X1 * G:=IntWalk.i64_in _ (by omega)
         have w2:IntKind.i64.wrap (X2 * G)=X2 * G:=IntWalk.i64_in _ (by omega)
         have w3:IntKind.i64.wrap (Y1 * D)=Y1 * D:=IntWalk.i64_in _ (by omega)
         have w4:IntKind.i64.wrap (Y2 * D)=Y2 * D:=IntWalk.i64_in _ (by omega)
         have D1:Hid (∀ W,Gives Tryz.prog 166 #[.int .i64 (X1 * G),.int .i64 (Y1 * D)] W (.int .i64 (X1 * G / (Y1 * D)))):=fun W=>downward_any W _ _ (by omega) p3 (by omega)
         have D2:Hid (∀ W,Gives Tryz.prog 166 #[.int .i64 (X2 * G),.int .i64 (Y2 * D)] W (.int .i64 (X2 * G / (Y2 * D)))):=fun W=>downward_any W _ _ (by omega) p4 (by omega)
         have q5:((X1 * G / (Y1 * D)).natAbs:Int)≤4000000000000000000:=by
          have:=Int.natAbs_ediv_le_natAbs (X1 * G) (Y1 * D)
          omega
         have Hq:Hid (X1 * G / (Y1 * D)=X2 * G / (Y2 * D)→QuoT tx ty d g (X1 * G / (Y1 * D))):=fun h=>by
          obtain ⟨o1,o2,o3⟩:=HXx.out
          obtain ⟨u1,u2,u3⟩:=HYy.out
          refine ⟨o1,u1,?_,by omega,by omega⟩
          rw [← o2,← o3,← u2,← u3,← HDd.out,← HGg.out]
          refine .inl ⟨by omega,?_,?_⟩
          ·unfold LN.quoL
           rw [if_pos (by omega)]
          ·unfold LN.quoH
           rw [if_pos (by omega)]
           exact h.symm
         clear r1 r2 r3 r4 p3 p4 q5 HXx HYy HDd HGg
         obtain ⟨q1,hq1⟩:∃ q,X1 * G / (Y1 * D)=q:=⟨_,rfl⟩
         obtain ⟨q2,hq2⟩:∃ q,X2 * G / (Y2 * D)=q:=⟨_,rfl⟩
         rw [hq1] at D1 Hq
         rw [hq2] at D2 Hq
         clear hq1 hq2
         go_enter Tryz.func130,Tryz.ntmps130
         go_wp2_with fail
         generalize (w.alloc (.cells (tcells x1 e1 x2 e2 n d) 168)).alloc (.cells (tcells y1 g1 y2 g2 m g) 168)=W0 at *
         refine Calls.mono (Hnx.out _ B0.out) ?_
         rintro e W1 ⟨rfl,hb⟩
         have B1:=Lib.hid (B0.out.trans (hb.mono B0.out.size))
         have R3:=Lib.hid (heap_kept R1.out hb nr_)
         have R4:=Lib.hid (heap_kept R2.out hb nr_)
         clear hb B0 R1 R2 Hnx
         obtain ⟨k0,k1,k2,-⟩:=obj_cells3 R3.out
         obtain ⟨m0,m1,m2,-⟩:=obj_cells3 R4.out
         go_wp2_with fail
         refine Calls.mono (Hny.out _ B1.out) ?_
         rintro e W2 ⟨rfl,hb⟩
         have B2:=Lib.hid (B1.out.trans (hb.mono B1.out.size))
         have R5:=Lib.hid (heap_kept R3.out hb nr_)
         have R6:=Lib.hid (heap_kept R4.out hb nr_)
         clear hb B1 R3 R4 Hny k0 k1 k2 m0 m1 m2
         obtain ⟨k0,k1,k2,-⟩:=obj_cells3 R5.out
         go_wp2_with fail
         refine Calls.mono (Hsd.out _ B2.out) ?_
         rintro e W3 ⟨rfl,hb⟩
         have B3:=Lib.hid (B2.out.trans (hb.mono B2.out.size))
         have R8:=Lib.hid (heap_kept R6.out hb nr_)
         clear hb B2 R5 R6 Hsd k0 k1 k2
         obtain ⟨m0,m1,m2,-⟩:=obj_cells3 R8.out
         go_wp2_with fail
         refine Calls.mono (Hsg.out _ B3.out) ?_
         rintro e W4 ⟨rfl,hb⟩
         have B4:=Lib.hid (B3.out.trans (hb.mono B3.out.size))
         clear hb B3 R8 Hsg m0 m1 m2
         go_wp2_with fail
         refine Calls.mono (D1.out _) ?_
         rintro e W5 ⟨rfl,hb⟩
         have B5:=Lib.hid (B4.out.trans (hb.mono B4.out.size))
         clear hb B4
         go_wp2_with fail
         refine Calls.mono (D2.out _) ?_
         rintro e W6 ⟨rfl,hb⟩
         have B6:=Lib.hid (B5.out.trans (hb.mono B5.out.size))
         clear hb B5
         go_wp2_with fail
         go_ret2
         exact ⟨q1,q1 == q2,rfl,fun h=>Hq.out (by simpa using h),B6.out⟩
        ·skip
         have r1:(X1 * G).natAbs≤300000000000000 * 10000:=by rw [Int.natAbs_mul]; exact Nat.mul_le_mul (by omega) (by omega)
         have r2:(X2 * G).natAbs≤300000000000000 * 10000:=by rw [Int.natAbs_mul]; exact Nat.mul_le_mul (by omega) (by omega)
         have r3:(Y1 * D).natAbs≤300000000000000 * 10000:=by rw [Int.natAbs_mul]; exact Nat.mul_le_mul (by omega) (by omega)
         have r4:(Y1 * D).natAbs≤300000000000000 * 10000:=by rw [Int.natAbs_mul]; exact Nat.mul_le_mul (by omega) (by omega)
         have p3:0 < Y1 * D:=Int.mul_pos (by omega) hD3
         have p4:0 < Y1 * D:=Int.mul_pos (by omega) hD3
         have w1:IntKind.i64.wrap (X1 * G)=X1 * G:=IntWalk.i64_in _ (by omega)
         have w2:IntKind.i64.wrap (X2 * G)=X2 * G:=IntWalk.i64_in _ (by omega)
         have w3:IntKind.i64.wrap (Y1 * D)=Y1 * D:=IntWalk.i64_in _ (by omega)
         have w4:IntKind.i64.wrap (Y1 * D)=Y1 * D:=IntWalk.i64_in _ (by omega)
         have D1:Hid (∀ W,Gives Tryz.prog 166 #[.int .i64 (X1 * G),.int .i64 (Y1 * D)] W (.int .i64 (X1 * G / (Y1 * D)))):=fun W=>downward_any W _ _ (by omega) p3 (by omega)
         have D2:Hid (∀ W,Gives Tryz.prog 166 #[.int .i64 (X2 * G),.int .i64 (Y1 * D)] W (.int .i64 (X2 * G / (Y1 * D)))):=fun W=>downward_any W _ _ (by omega) p4 (by omega)
         have q5:((X1 * G / (Y1 * D)).natAbs:Int)≤4000000000000000000:=by
          have:=Int.natAbs_ediv_le_natAbs (X1 * G) (Y1 * D)
          omega
         have Hq:Hid (X1 * G / (Y1 * D)=X2 * G / (Y1 * D)→QuoT tx ty d g (X1 * G / (Y1 * D))):=fun h=>by
          obtain ⟨o1,o2,o3⟩:=HXx.out
          obtain ⟨u1,u2,u3⟩:=HYy.out
          refine ⟨o1,u1,?_,by omega,by omega⟩
          rw [← o2,← o3,← u2,← u3,← HDd.out,← HGg.out]
          refine .inl ⟨by omega,?_,?_⟩
          ·unfold LN.quoL
           rw [if_pos (by omega)]
          ·unfold LN.quoH
           rw [if_neg (by omega)]
           exact h.symm
         clear r1 r2 r3 r4 p3 p4 q5 HXx HYy HDd HGg
         obtain ⟨q1,hq1⟩:∃ q,X1 * G / (Y1 * D)=q:=⟨_,rfl⟩
         obtain ⟨q2,hq2⟩:∃ q,X2 * G / (Y1 * D)=q:=⟨_,rfl⟩
         rw [hq1] at D1 Hq
         rw [hq2] at D2 Hq
         clear hq1 hq2
         go_enter Tryz.func130,Tryz.ntmps130
         go_wp2_with fail
         generalize (w.alloc (.cells (tcells x1 e1 x2 e2 n d) 168)).alloc (.cells (tcells y1 g1 y2 g2 m g) 168)=W0 at *
         refine Calls.mono (Hnx.out _ B0.out) ?_
         rintro e W1 ⟨rfl,hb⟩
         have B1:=Lib.hid (B0.out.trans (hb.mono B0.out.size))
         have R3:=Lib.hid (heap_kept R1.out hb nr_)
         have R4:=Lib.hid (heap_kept R2.out hb nr_)
         clear hb B0 R1 R2 Hnx
         obtain ⟨k0,k1,k2,-⟩:=obj_cells3 R3.out
         obtain ⟨m0,m1,m2,-⟩:=obj_cells3 R4.out
         go_wp2_with fail
         refine Calls.mono (Hny.out _ B1.out) ?_
         rintro e W2 ⟨rfl,hb⟩
         have B2:=Lib.hid (B1.out.trans (hb.mono B1.out.size))
         have R5:=Lib.hid (heap_kept R3.out hb nr_)
         have R6:=Lib.hid (heap_kept R4.out hb nr_)
         clear hb B1 R3 R4 Hny k0 k1 k2 m0 m1 m2
         obtain ⟨k0,k1,k2,-⟩:=obj_cells3 R5.out
         go_wp2_with fail
         refine Calls.mono (Hsd.out _ B2.out) ?_
         rintro e W3 ⟨rfl,hb⟩
         have B3:=Lib.hid (B2.out.trans (hb.mono B2.out.size))
         have R8:=Lib.hid (heap_kept R6.out hb nr_)
         clear hb B2 R5 R6 Hsd k0 k1 k2
         obtain ⟨m0,m1,m2,-⟩:=obj_cells3 R8.out
         go_wp2_with fail
         refine Calls.mono (Hsg.out _ B3.out) ?_
         rintro e W4 ⟨rfl,hb⟩
         have B4:=Lib.hid (B3.out.trans (hb.mono B3.out.size))
         clear hb B3 R8 Hsg m0 m1 m2
         go_wp2_with fail
         refine Calls.mono (D1.out _) ?_
         rintro e W5 ⟨rfl,hb⟩
         have B5:=Lib.hid (B4.out.trans (hb.mono B4.out.size))
         clear hb B4
         go_wp2_with fail
         refine Calls.mono (D2.out _) ?_
         rintro e W6 ⟨rfl,hb⟩
         have B6:=Lib.hid (B5.out.trans (hb.mono B5.out.size))
         clear hb B5
         go_wp2_with fail
         go_ret2
         exact ⟨q1,q1 == q2,rfl,fun h=>Hq.out (by simpa using h),B6.out⟩
       ·by_cases hx2:X2 < 0
        ·skip
         have r1:(X1 * G).natAbs≤300000000000000 * 10000:=by rw [Int.natAbs_mul]; exact Nat.mul_le_mul (by omega) (by omega)
         have r2:(X2 * G).natAbs≤300000000000000 * 10000:=by rw [Int.natAbs_mul]; exact Nat.mul_le_mul (by omega) (by omega)
         have r3:(Y2 * D).natAbs≤300000000000000 * 10000:=by rw [Int.natAbs_mul]; exact Nat.mul_le_mul (by omega) (by omega)
         have r4:(Y2 * D).natAbs≤300000000000000 * 10000:=by rw [Int.natAbs_mul]; exact Nat.mul_le_mul (by omega) (by omega)
         have p3:0 < Y2 * D:=Int.mul_pos (by omega) hD3
         have p4:0 < Y2 * D:=Int.mul_pos (by omega) hD3
         have w1:IntKind.i64.wrap (X1 * G)=X1 * G:=IntWalk.i64_in _ (by omega)
         have w2:IntKind.i64.wrap (X2 * G)=X2 * G:=IntWalk.i64_in _ (by omega)
         have w3:IntKind.i64.wrap (Y2 * D)=Y2 * D:=IntWalk.i64_in _ (by omega)
         have w4:IntKind.i64.wrap (Y2 * D)=Y2 * D:=IntWalk.i64_in _ (by omega)
         have D1:Hid (∀ W,Gives Tryz.prog 166 #[.int .i64 (X1 * G),.int .i64 (Y2 * D)] W (.int .i64 (X1 * G / (Y2 * D)))):=fun W=>downward_any W _ _ (by omega) p3 (by omega)
         have D2:Hid (∀ W,Gives Tryz.prog 166 #[.int .i64 (X2 * G),.int .i64 (Y2 * D)] W (.int .i64 (X2 * G / (Y2 * D)))):=fun W=>downward_any W _ _ (by omega) p4 (by omega)
         have q5:((X1 * G / (Y2 * D)).natAbs:Int)≤4000000000000000000:=by
          have:=Int.natAbs_ediv_le_natAbs (X1 * G) (Y2 * D)
          omega
         have Hq:Hid (X1 * G / (Y2 * D)=X2 * G / (Y2 * D)→QuoT tx ty d g (X1 * G / (Y2 * D))):=fun h=>by
          obtain ⟨o1,o2,o3⟩:=HXx.out
          obtain ⟨u1,u2,u3⟩:=HYy.out
          refine ⟨o1,u1,?_,by omega,by omega⟩
          rw [← o2,← o3,← u2,← u3,← HDd.out,← HGg.out]
          refine .inl ⟨by omega,?_,?_⟩
          ·unfold LN.quoL
           rw [if_neg (by omega)]
          ·unfold LN.quoH
           rw [if_pos (by omega)]
           exact h.symm
         clear r1 r2 r3 r4 p3 p4 q5 HXx HYy HDd HGg
         obtain ⟨q1,hq1⟩:∃ q,X1 * G / (Y2 * D)=q:=⟨_,rfl⟩
         obtain ⟨q2,hq2⟩:∃ q,X2 * G / (Y2 * D)=q:=⟨_,rfl⟩
         rw [hq1] at D1 Hq
         rw [hq2] at D2 Hq
         clear hq1 hq2
         go_enter Tryz.func130,Tryz.ntmps130
         go_wp2_with fail
         generalize (w.alloc (.cells (tcells x1 e1 x2 e2 n d) 168)).alloc (.cells (tcells y1 g1 y2 g2 m g) 168)=W0 at *
         refine Calls.mono (Hnx.out _ B0.out) ?_
         rintro e W1 ⟨rfl,hb⟩
         have B1:=Lib.hid (B0.out.trans (hb.mono B0.out.size))
         have R3:=Lib.hid (heap_kept R1.out hb nr_)
         have R4:=Lib.hid (heap_kept R2.out hb nr_)
         clear hb B0 R1 R2 Hnx
         obtain ⟨k0,k1,k2,-⟩:=obj_cells3 R3.out
         obtain ⟨m0,m1,m2,-⟩:=obj_cells3 R4.out
         go_wp2_with fail
         refine Calls.mono (Hny.out _ B1.out) ?_
         rintro e W2 ⟨rfl,hb⟩
         have B2:=Lib.hid (B1.out.trans (hb.mono B1.out.size))
         have R5:=Lib.hid (heap_kept R3.out hb nr_)
         have R6:=Lib.hid (heap_kept R4.out hb nr_)
         clear hb B1 R3 R4 Hny k0 k1 k2 m0 m1 m2
         obtain ⟨k0,k1,k2,-⟩:=obj_cells3 R5.out
         go_wp2_with fail
         refine Calls.mono (Hsd.out _ B2.out) ?_
         rintro e W3 ⟨rfl,hb⟩
         have B3:=Lib.hid (B2.out.trans (hb.mono B2.out.size))
         have R8:=Lib.hid (heap_kept R6.out hb nr_)
         clear hb B2 R5 R6 Hsd k0 k1 k2
         obtain ⟨m0,m1,m2,-⟩:=obj_cells3 R8.out
         go_wp2_with fail
         refine Calls.mono (Hsg.out _ B3.out) ?_
         rintro e W4 ⟨rfl,hb⟩
         have B4:=Lib.hid (B3.out.trans (hb.mono B3.out.size))
         clear hb B3 R8 Hsg m0 m1 m2
         go_wp2_with fail
         refine Calls.mono (D1.out _) ?_
         rintro e W5 ⟨rfl,hb⟩
         have B5:=Lib.hid (B4.out.trans (hb.mono B4.out.size))
         clear hb B4
         go_wp2_with fail
         refine Calls.mono (D2.out _) ?_
         rintro e W6 ⟨rfl,hb⟩
         have B6:=Lib.hid (B5.out.trans (hb.mono B5.out.size))
         clear hb B5
         go_wp2_with fail
         go_ret2
         exact ⟨q1,q1 == q2,rfl,fun h=>Hq.out (by simpa using h),B6.out⟩
        ·skip
         have r1:(X1 * G).natAbs≤300000000000000 * 10000:=by rw [Int.natAbs_mul]; exact Nat.mul_le_mul (by omega) (by omega)
         have r2:(X2 * G).natAbs≤300000000000000 * 10000:=by rw [Int.natAbs_mul]; exact Nat.mul_le_mul (by omega) (by omega)
         have r3:(Y2 * D).natAbs≤300000000000000 * 10000:=by rw [Int.natAbs_mul]; exact Nat.mul_le_mul (by omega) (by omega)
         have r4:(Y1 * D).natAbs≤300000000000000 * 10000:=by rw [Int.natAbs_mul]; exact Nat.mul_le_mul (by omega) (by omega)
         have p3:0 < Y2 * D:=Int.mul_pos (by omega) hD3
         have p4:0 < Y1 * D:=Int.mul_pos (by omega) hD3
         have w1:IntKind.i64.wrap (X1 * G)=X1 * G:=IntWalk.i64_in _ (by omega)
         have w2:IntKind.i64.wrap (X2 * G)=X2 * G:=IntWalk.i64_in _ (by omega)
         have w3:IntKind.i64.wrap (Y2 * D)=Y2 * D:=IntWalk.i64_in _ (by omega)
         have w4:IntKind.i64.wrap (Y1 * D)=Y1 * D:=IntWalk.i64_in _ (by omega)
         have D1:Hid (∀ W,Gives Tryz.prog 166 #[.int .i64 (X1 * G),.int .i64 (Y2 * D)] W (.int .i64 (X1 * G / (Y2 * D)))):=fun W=>downward_any W _ _ (by omega) p3 (by omega)
         have D2:Hid (∀ W,Gives Tryz.prog 166 #[.int .i64 (X2 * G),.int .i64 (Y1 * D)] W (.int .i64 (X2 * G / (Y1 * D)))):=fun W=>downward_any W _ _ (by omega) p4 (by omega)
         have q5:((X1 * G / (Y2 * D)).natAbs:Int)≤4000000000000000000:=by
          have:=Int.natAbs_ediv_le_natAbs (X1 * G) (Y2 * D)
          omega
         have Hq:Hid (X1 * G / (Y2 * D)=X2 * G / (Y1 * D)→QuoT tx ty d g (X1 * G / (Y2 * D))):=fun h=>by
          obtain ⟨o1,o2,o3⟩:=HXx.out
          obtain ⟨u1,u2,u3⟩:=HYy.out
          refine ⟨o1,u1,?_,by omega,by omega⟩
          rw [← o2,← o3,← u2,← u3,← HDd.out,← HGg.out]
          refine .inl ⟨by omega,?_,?_⟩
          ·unfold LN.quoL
           rw [if_neg (by omega)]
          ·unfold LN.quoH
           rw [if_neg (by omega)]
           exact h.symm
         clear r1 r2 r3 r4 p3 p4 q5 HXx HYy HDd HGg
         obtain ⟨q1,hq1⟩:∃ q,X1 * G / (Y2 * D)=q:=⟨_,rfl⟩
         obtain ⟨q2,hq2⟩:∃ q,X2 * G / (Y1 * D)=q:=⟨_,rfl⟩
         rw [hq1] at D1 Hq
         rw [hq2] at D2 Hq
         clear hq1 hq2
         go_enter Tryz.func130,Tryz.ntmps130
         go_wp2_with fail
         generalize (w.alloc (.cells (tcells x1 e1 x2 e2 n d) 168)).alloc (.cells (tcells y1 g1 y2 g2 m g) 168)=W0 at *
         refine Calls.mono (Hnx.out _ B0.out) ?_
         rintro e W1 ⟨rfl,hb⟩
         have B1:=Lib.hid (B0.out.trans (hb.mono B0.out.size))
         have R3:=Lib.hid (heap_kept R1.out hb nr_)
         have R4:=Lib.hid (heap_kept R2.out hb nr_)
         clear hb B0 R1 R2 Hnx
         obtain ⟨k0,k1,k2,-⟩:=obj_cells3 R3.out
         obtain ⟨m0,m1,m2,-⟩:=obj_cells3 R4.out
         go_wp2_with fail
         refine Calls.mono (Hny.out _ B1.out) ?_
         rintro e W2 ⟨rfl,hb⟩
         have B2:=Lib.hid (B1.out.trans (hb.mono B1.out.size))
         have R5:=Lib.hid (heap_kept R3.out hb nr_)
         have R6:=Lib.hid (heap_kept R4.out hb nr_)
         clear hb B1 R3 R4 Hny k0 k1 k2 m0 m1 m2
         obtain ⟨k0,k1,k2,-⟩:=obj_cells3 R5.out
         go_wp2_with fail
         refine Calls.mono (Hsd.out _ B2.out) ?_
         rintro e W3 ⟨rfl,hb⟩
         have B3:=Lib.hid (B2.out.trans (hb.mono B2.out.size))
         have R8:=Lib.hid (heap_kept R6.out hb nr_)
         clear hb B2 R5 R6 Hsd k0 k1 k2
         obtain ⟨m0,m1,m2,-⟩:=obj_cells3 R8.out
         go_wp2_with fail
         refine Calls.mono (Hsg.out _ B3.out) ?_
         rintro e W4 ⟨rfl,hb⟩
         have B4:=Lib.hid (B3.out.trans (hb.mono B3.out.size))
         clear hb B3 R8 Hsg m0 m1 m2
         go_wp2_with fail
         refine Calls.mono (D1.out _) ?_
         rintro e W5 ⟨rfl,hb⟩
         have B5:=Lib.hid (B4.out.trans (hb.mono B4.out.size))
         clear hb B4
         go_wp2_with fail
         refine Calls.mono (D2.out _) ?_
         rintro e W6 ⟨rfl,hb⟩
         have B6:=Lib.hid (B5.out.trans (hb.mono B5.out.size))
         clear hb B5
         go_wp2_with fail
         go_ret2
         exact ⟨q1,q1 == q2,rfl,fun h=>Hq.out (by simpa using h),B6.out⟩
end Go.Proofs.YtpbapojnbmbdlaaGreatDoor

namespace Go.Proofs.YtpbapojnbmbdlaaGreatDoor
open Go.RowKit
def flE (xl xh yl yh g d:Int):Option Int:=if yl≤0 then none else if LN.quoL xl yl yh g d=LN.quoH xh yl yh g d then some (LN.quoL xl yl yh g d) else none
def flS (xl xh yl yh g d:Int):Option Int:=if yh≤0 then flE (-xh) (-xl) (-yh) (-yl) g d else flE xl xh yl yh g d
def flAt (n:Nat) (tx ty:List (Int×Int)) (d g:Nat):Option Int:=flS (LN.eLo (lf n) tx) (LN.eHi (lf n) tx) (LN.eLo (lf n) ty) (LN.eHi (lf n) ty) g d
theorem eLo_le (f:Int→Nat):∀ l:List (Int×Int),LN.eLo f l≤LN.eHi f l
 | []=>Int.le_refl _
 | x :: l=>by
  have ih:=eLo_le f l
  have e1:LN.eLo f (x :: l)=(if x.2 < 0 then x.2 * (LN.hiL f x.1:Int) else x.2 * (f x.1:Int)) + LN.eLo f l:=by simp [LN.eLo]
  have e2:LN.eHi f (x :: l)=(if x.2 < 0 then x.2 * (f x.1:Int) else x.2 * (LN.hiL f x.1:Int)) + LN.eHi f l:=by simp [LN.eHi]
  have hle:f x.1≤LN.hiL f x.1:=by unfold LN.hiL; split <;> omega
  rw [e1,e2]
  by_cases hk:x.2 < 0
  ·have h1:x.2 * (LN.hiL f x.1:Int)≤x.2 * (f x.1:Int):=Int.mul_le_mul_of_nonpos_left (by omega) (by omega)
   rw [if_pos hk,if_pos hk]; omega
  ·have h1:x.2 * (f x.1:Int)≤x.2 * (LN.hiL f x.1:Int):=Int.mul_le_mul_of_nonneg_left (by omega) (by omega)
   rw [if_neg hk,if_neg hk]; omega
theorem flE_some {xl xh yl yh g d q:Int} (h:flE xl xh yl yh g d=some q):0 < yl∧LN.quoL xl yl yh g d=q∧LN.quoH xh yl yh g d=q:=by
 unfold flE at h
 split at h
 ·cases h
 ·rename_i h1
  split at h
  ·rename_i h2
   have h3:LN.quoL xl yl yh g d=q:=by simpa using h
   exact ⟨by omega,h3,by rw [← h2]; exact h3⟩
  ·cases h
theorem smallP_log {ps:List Int} (h:∀ p∈ps,p∈smallP) {n:Nat} (hn:n≤1056):∀ p∈ps,LN.LogAt n p (lf n p):=fun p hp=>by
 obtain ⟨q,rfl,hq⟩:=smallP_pr (h p hp)
 exact lgN_at hq hn
theorem smallP_pos' {ps:List Int} (h:∀ p∈ps,p∈smallP):∀ p∈ps,0 < p:=fun p hp=>by
 have key:∀ q∈smallP,0 < q:=by decide
 exact key p (h p hp)
theorem flAt_floor {ps:List Int} {la lb:List Rat} (h:∀ p∈ps,p∈smallP) (hl:la.length=lb.length) {n:Nat} (hn:n≤1056) {q:Int} (hq:flAt n (tlQ ps la) (tlQ ps lb) (tden la) (tden lb)=some q):LN.FloorOf ps la lb q:=by
 unfold flAt flS at hq
 have hy:=eLo_le (lf n) (tlQ ps lb)
 split at hq
 ·obtain ⟨h1,h2,h3⟩:=flE_some hq
  exact LN.floor_neg (smallP_pos' h) hl (smallP_log h hn) rfl rfl rfl rfl (by show LN.eHi (lf n) (tlQ ps lb) < 0; omega) hy h2 h3
 ·obtain ⟨h1,h2,h3⟩:=flE_some hq
  exact LN.floor_pos (smallP_pos' h) hl (smallP_log h hn) rfl rfl rfl rfl h1 hy h2 h3
theorem quoT_floor {ps:List Int} {la lb:List Rat} (h:∀ p∈ps,p∈smallP) (hl:la.length=lb.length) {q:Int} (hq:QuoT (tlQ ps la) (tlQ ps lb) (tden la) (tden lb) q):LN.FloorOf ps la lb q:=by
 have pa:PrT (tlQ ps la):=fun x hx=>smallP_pr (h _ (tlist_mem hx).1)
 have pb:PrT (tlQ ps lb):=fun x hx=>smallP_pr (h _ (tlist_mem hx).1)
 obtain ⟨a1,a2⟩:=lowT_eq _ pa hq.okx
 obtain ⟨b1,b2⟩:=lowT_eq _ pb hq.oky
 have hr:=hq.r
 rw [a1,a2,b1,b2] at hr
 have hy:=eLo_le (lf 26) (tlQ ps lb)
 rcases hr with ⟨h1,h2,h3⟩ | ⟨h1,h2,h3⟩
 ·exact LN.floor_pos (smallP_pos' h) hl (smallP_log h (by decide)) rfl rfl rfl rfl h1 hy h2 h3
 ·exact LN.floor_neg (smallP_pos' h) hl (smallP_log h (by decide)) rfl rfl rfl rfl h1 hy h2 h3
theorem ratio_floor {ps:List Int} {la lb:List Rat} (h:∀ p∈ps,p∈smallP) (h1:la.length=ps.length) (h2:lb.length=ps.length) {k:Rat} (hr:ratioB la lb ps.length k=true) (h0:LN.sz ps lb≠0):LN.FloorOf ps la lb k.floor:=by
 refine LN.floor_mult (smallP_pos' h) (k:=k) ?_ h0
 have hr':=of_decide_eq_true hr
 refine List.ext_getElem (by simp; omega) fun i i1 i2=>?_
 have:=hr' i (by omega)
 rw [List.getElem_map]
 rw [List.getD_eq_getElem?_getD,List.getD_eq_getElem?_getD,List.getElem?_eq_getElem (by omega),List.getElem?_eq_getElem i1] at this
 exact this.symm
theorem divZ (w:World) (a b:Int) (K:Nat) (hK:K < 90000) (ha:a.natAbs < 2 ^ K) (hb:b.natAbs < 2 ^ K) (h0:0 < b) (L:Laid w):Gives Tryz.prog 133 #[.string (itx a),.string (itx b)] w (.tuple #[.string (itx (a / b)),.string (itx (a % b)),.int .i64 0]):=by
 obtain ⟨n,rfl⟩:=Int.eq_ofNat_of_zero_le (Int.le_of_lt h0)
 have hs:Num (a.natAbs + 1):=num_two (K:=K + 1) (by rw [Nat.pow_succ]; omega) (by omega)
 have:=divmodz_any w a n (num_two ha (by omega)) (num_two hb (by omega)) (by omega) hs L
 rw [itx_nat]
 exact this
theorem same_itx (a b:Int):((itx a).toList == (itx b).toList)=decide (a=b):=by
 by_cases h:a=b
 ·subst h; simp
 ·rw [decide_eq_false h,beq_eq_false_iff_ne]
  intro e
  rw [toList_lb,toList_lb] at e
  exact h (itx_inj (by
   have h1:(itx a).data.toList=(itx b).data.toList:=e
   exact ByteArray.ext (Array.toList_inj.1 h1)))
def FlrPost (ps:List Int) (la lb:List Rat) (e:Ending):Prop:=∃ q,e = .returned (.string (itx q))∧LN.FloorOf ps la lb q
structure FlrOk (ps:List Int) (la lb:List Rat) (E:Nat):Prop where
 pr:∀ p∈ps,p∈smallP
 n6:ps.length≤6
 kx:∀ x∈tlQ ps la,x.2.natAbs < 2 ^ E
 ky:∀ x∈tlQ ps lb,x.2.natAbs < 2 ^ E
 d:tden la < 2 ^ E
 g:tden lb < 2 ^ E
 e:E≤3000
 nz:LN.sz ps lb≠0
 dec:ratioB la lb ps.length (ratioK la lb ps.length)=false→flAt 1024 (tlQ ps la) (tlQ ps lb) (tden la) (tden lb)≠none
set_option maxRecDepth 100000 in
set_option maxHeartbeats 64000000 in
theorem floor_any (w:World) (ps:List Int) (a0 a1 a2:Option Addr) (c0 c1 c2 D E:Nat) (la lb:List Rat) (A:SizeOk w ps a0 a1 la D) (B:SizeOk w ps a0 a2 lb D) (hD0:0 < D) (F:FlrOk ps la lb E) (L:Laid w) :
  Calls Tryz.prog 92 #[.slice a0 ps.length c0,.slice a1 la.length c1,.slice a2 lb.length c2] w fun e w'=>FlrPost ps la lb e∧Below w.heap.size w w':=by
 cases hr:ratioB la lb ps.length (ratioK la lb ps.length) with
 | true =>
  refine Calls.mono (floor_ratio w ps a0 a1 a2 c0 c1 c2 D la lb A B hD0 L hr) ?_
  rintro e w' ⟨rfl,hb⟩
  exact ⟨⟨_,rfl,ratio_floor F.pr A.len B.len hr F.nz⟩,hb⟩
 | false =>
  have hn:=A.n
  have hdd:=A.d
  have HL:=Lib.hid L
  have HF:=Lib.hid F
  have Hdec:=Lib.hid (F.dec hr)
  have Hra:=Lib.hid (ratio_any w a1 a2 c1 c2 ps.length D la lb A.rl B.rl A.len B.len A.sm B.sm (by omega) hD0 hdd L)
  rw [hr] at Hra
  have Ht1:Hid (∀ W,Below w.heap.size w W→Calls Tryz.prog 111 #[.slice a0 ps.length c0,.slice a1 ps.length c1] W fun e w'=>∃ b1 d1 b2 d2,e = .returned (.agg (tcells b1 d1 b2 d2 (tlQ ps la).length (tden la)))∧TermsAt w' (tlQ ps la) b1 b2∧Below W.heap.size W w'):=fun W hW=>by
   have:=terms_ok (c0:=c0) (c:=c1) (A.below hW) (L.below hW)
   rw [A.len] at this
   exact this
  have Ht2:Hid (∀ W,Below w.heap.size w W→Calls Tryz.prog 111 #[.slice a0 ps.length c0,.slice a2 ps.length c2] W fun e w'=>∃ b1 d1 b2 d2,e = .returned (.agg (tcells b1 d1 b2 d2 (tlQ ps lb).length (tden lb)))∧TermsAt w' (tlQ ps lb) b1 b2∧Below W.heap.size W w'):=fun W hW=>by
   have:=terms_ok (c0:=c0) (c:=c2) (B.below hW) (L.below hW)
   rw [B.len] at this
   exact this
  have hE:=F.e
  have lx:(tlQ ps la).length≤6:=Nat.le_trans (by have:=(tlist_fst (tden la) ps la).length_le; rw [List.length_map] at this; exact this) F.n6
  have ly:(tlQ ps lb).length≤6:=Nat.le_trans (by have:=(tlist_fst (tden lb) ps lb).length_le; rw [List.length_map] at this; exact this) F.n6
  have hd0:=LN.tden_pos' la
  have hg0:=LN.tden_pos' lb
  have px:PrT (tlQ ps la):=fun x hx=>smallP_pr (F.pr _ (tlist_mem hx).1)
  have py:PrT (tlQ ps lb):=fun x hx=>smallP_pr (F.pr _ (tlist_mem hx).1)
  have hll:la.length=lb.length:=A.len.trans B.len.symm
  have Hqu:Hid (∀ W x1 x2 y1 y2 e1 e2 g1 g2,TermsAt W (tlQ ps la) x1 x2→TermsAt W (tlQ ps lb) y1 y2→Laid W→Calls Tryz.prog 130 #[.agg (tcells x1 e1 x2 e2 (tlQ ps la).length (tden la)),.agg (tcells y1 g1 y2 g2 (tlQ ps lb).length (tden lb))] W fun e w'=>∃ q b,e = .returned (.tuple #[.int .i64 q,.bool b])∧(b=true→QuoT (tlQ ps la) (tlQ ps lb) (tden la) (tden lb) q)∧Below W.heap.size W w'):=fun W x1 x2 y1 y2 e1 e2 g1 g2 X Y LW =>
   quotient_any W x1 x2 y1 y2 e1 e2 g1 g2 _ _ _ _ X Y lx ly (num_two F.d (by omega)) (num_two F.g (by omega)) hd0 hg0 LW
  have Hof:Hid (∀ W q,-9223372036854775808≤q→q≤9223372036854775807→Below w.heap.size w W→Gives Tryz.prog 113 #[.int .i64 q] W (.string (itx q))):=fun W q h1 h2 hW=>ofz_any W q h1 h2 (L.below hW)
  have HqF:Hid (∀ q,QuoT (tlQ ps la) (tlQ ps lb) (tden la) (tden lb) q→LN.FloorOf ps la lb q):=fun q h=>quoT_floor F.pr hll h
  have HfF:Hid (∀ n q,n≤1056→flAt n (tlQ ps la) (tlQ ps lb) (tden la) (tden lb)=some q→LN.FloorOf ps la lb q):=fun n q hn h=>flAt_floor F.pr hll hn h
  have Hen1:Hid (∀ (n:Nat) W x1 x2 e1 e2,n≤1056→TermsAt W (tlQ ps la) x1 x2→Laid W→Gives Tryz.prog 131 #[.agg (tcells x1 e1 x2 e2 (tlQ ps la).length (tden la)),.int .i64 n] W (.tuple #[.string (itx (LN.eLo (lf n) (tlQ ps la))),.string (itx (LN.eHi (lf n) (tlQ ps la)))])):=fun n W x1 x2 e1 e2 hn T LW =>
   ends_any W x1 x2 e1 e2 _ n E _ T px (by omega) F.kx hn LW
  have Hen2:Hid (∀ (n:Nat) W x1 x2 e1 e2,n≤1056→TermsAt W (tlQ ps lb) x1 x2→Laid W→Gives Tryz.prog 131 #[.agg (tcells x1 e1 x2 e2 (tlQ ps lb).length (tden lb)),.int .i64 n] W (.tuple #[.string (itx (LN.eLo (lf n) (tlQ ps lb))),.string (itx (LN.eHi (lf n) (tlQ ps lb)))])):=fun n W x1 x2 e1 e2 hn T LW =>
   ends_any W x1 x2 e1 e2 _ n E _ T py (by omega) F.ky hn LW
  obtain ⟨K,hK⟩:∃ K:Nat,K=E + 1060 + 10:=⟨_,rfl⟩
  have Hbx:Hid (∀ n:Nat,n≤1024→(LN.eLo (lf n) (tlQ ps la)).natAbs < 2 ^ K∧(LN.eHi (lf n) (tlQ ps la)).natAbs < 2 ^ K):=fun n hn=>by
   obtain ⟨h1,h2⟩:=eSum_num (n:=n) (E:=E) (by omega) (tlQ ps la) (by omega) px F.kx
   exact ⟨Nat.lt_of_lt_of_le h1 (Nat.pow_le_pow_right (by decide) (by omega)),Nat.lt_of_lt_of_le h2 (Nat.pow_le_pow_right (by decide) (by omega))⟩
  have Hby:Hid (∀ n:Nat,n≤1024→(LN.eLo (lf n) (tlQ ps lb)).natAbs < 2 ^ K∧(LN.eHi (lf n) (tlQ ps lb)).natAbs < 2 ^ K):=fun n hn=>by
   obtain ⟨h1,h2⟩:=eSum_num (n:=n) (E:=E) (by omega) (tlQ ps lb) (by omega) py F.ky
   exact ⟨Nat.lt_of_lt_of_le h1 (Nat.pow_le_pow_right (by decide) (by omega)),Nat.lt_of_lt_of_le h2 (Nat.pow_le_pow_right (by decide) (by omega))⟩
  have hKK:K + K < 90000:=by omega
  have hdK:tden la < 2 ^ K:=Nat.lt_of_lt_of_le F.d (Nat.pow_le_pow_right (by decide) (by omega))
  have hgK:tden lb < 2 ^ K:=Nat.lt_of_lt_of_le F.g (Nat.pow_le_pow_right (by decide) (by omega))
  have HS:Hid (∀ (z:Int) W,Gives Tryz.prog 93 #[.string (itx z)] W (.int .i64 z.sign)):=fun z W=>sign_any W z
  have HN:Hid (∀ (z:Int) W,z.natAbs < 2 ^ K→Gives Tryz.prog 132 #[.string (itx z)] W (.string (itx (-z)))):=fun z W hz=>neg_any W z (num_two hz (by omega))
  have HMd:Hid (∀ (a:Int) W,a.natAbs < 2 ^ K→Below w.heap.size w W→Gives Tryz.prog 134 #[.string (itx a),.string (dec (tden la))] W (.string (itx (a * (tden la:Int))))):=fun a W ha hW=>by
   have:=mulZ W a (tden la:Int) K K hKK ha (by rw [Int.natAbs_natCast]; exact hdK) (L.below hW)
   rw [itx_nat] at this; exact this
  have HMg:Hid (∀ (a:Int) W,a.natAbs < 2 ^ K→Below w.heap.size w W→Gives Tryz.prog 134 #[.string (itx a),.string (dec (tden lb))] W (.string (itx (a * (tden lb:Int))))):=fun a W ha hW=>by
   have:=mulZ W a (tden lb:Int) K K hKK ha (by rw [Int.natAbs_natCast]; exact hgK) (L.below hW)
   rw [itx_nat] at this; exact this
  have HDv:Hid (∀ (a b:Int) W,a.natAbs < 2 ^ K→b.natAbs < 2 ^ K→0 < b→Below w.heap.size w W→Gives Tryz.prog 133 #[.string (itx (a * (tden lb:Int))),.string (itx (b * (tden la:Int)))] W (.tuple #[.string (itx (a * (tden lb:Int) / (b * (tden la:Int)))),.string (itx (a * (tden lb:Int) % (b * (tden la:Int)))),.int .i64 0])):=fun a b W ha hb hb0 hW =>
   divZ W _ _ (K + K) hKK (abs_mul_lt ha hgK) (abs_mul_lt hb hdK) (Int.mul_pos hb0 (by omega)) (L.below hW)
  have Hfl:Hid (∀ n,flAt n (tlQ ps la) (tlQ ps lb) (tden la) (tden lb)=flS (LN.eLo (lf n) (tlQ ps la)) (LN.eHi (lf n) (tlQ ps la)) (LN.eLo (lf n) (tlQ ps lb)) (LN.eHi (lf n) (tlQ ps lb)) (tden lb) (tden la)):=fun n=>rfl
  unfold fr fv at Hra
  rw [A.len,B.len]
  clear A B L hr F hn hdd hE lx ly hd0 hg0 px py hll hK hKK hdK hgK hD0
  generalize ratioK la lb ps.length=k at *
  generalize tlQ ps la=tx at *
  generalize tlQ ps lb=ty at *
  generalize tden la=dx at *
  generalize tden lb=dy at *
  go_enter Tryz.func92,Tryz.ntmps92
  go_wp2_with fail
  refine Calls.mono Hra.out ?_
  rintro e w1 ⟨rfl,hb⟩
  have B2:=Lib.hid (hb.alloc hb.size (.cells #[.string (itx k.num),.string (dec k.den)] 92))
  clear hb Hra
  go_wp2_with fail
  generalize w1.alloc (.cells #[.string (itx k.num),.string (dec k.den)] 92)=w2 at *
  refine Calls.mono (Ht1.out _ B2.out) ?_
  rintro e w3 ⟨b1,d1,b2,d2,rfl,X,hb⟩
  have B3:=Lib.hid (B2.out.trans (hb.mono B2.out.size))
  have HX:=Lib.hid X
  clear hb Ht1 X B2
  go_wp2_with fail
  refine Calls.mono (Ht2.out _ B3.out) ?_
  rintro e w4 ⟨b3,d3,b4,d4,rfl,Y,hb⟩
  have B4:=Lib.hid (B3.out.trans (hb.mono B3.out.size))
  have HX4:=Lib.hid (HX.out.below hb)
  have HY:=Lib.hid Y
  clear hb Ht2 Y B3 HX
  go_wp2_with fail
  have Bx:=Lib.hid (((Below.refl w4.heap.size w4).alloc nr_ (.cells #[.slice b1 tx.length d1,.slice b2 tx.length d2,.string (dec dx)] 168)).alloc ((Below.refl w4.heap.size w4).alloc nr_ (.cells #[.slice b1 tx.length d1,.slice b2 tx.length d2,.string (dec dx)] 168)).size (.cells #[.slice b3 ty.length d3,.slice b4 ty.length d4,.string (dec dy)] 168))
  have S1:=Lib.hid (heap_old (heap_at w4 #[.slice b1 tx.length d1,.slice b2 tx.length d2,.string (dec dx)] 168 _ rfl) (.cells #[.slice b3 ty.length d3,.slice b4 ty.length d4,.string (dec dy)] 168))
  have S2:=Lib.hid (heap_at (w4.alloc (.cells #[.slice b1 tx.length d1,.slice b2 tx.length d2,.string (dec dx)] 168)) #[.slice b3 ty.length d3,.slice b4 ty.length d4,.string (dec dy)] 168 (w4.heap.size + 1) (by show (w4.heap.push _).size=_; exact Array.size_push ..))
  have HX5:=Lib.hid (HX4.out.below Bx.out)
  have HY5:=Lib.hid (HY.out.below Bx.out)
  have B5:=Lib.hid (B4.out.trans (Bx.out.mono B4.out.size))
  clear HX4 HY Bx
  generalize hN:w4.heap.size=N9 at *
  generalize (w4.alloc (.cells #[.slice b1 tx.length d1,.slice b2 tx.length d2,.string (dec dx)] 168)).alloc (.cells #[.slice b3 ty.length d3,.slice b4 ty.length d4,.string (dec dy)] 168)=w5 at *
  clear hN B4
  refine Calls.mono (Hqu.out _ _ _ _ _ d1 d2 d3 d4 HX5.out HY5.out (HL.out.below B5.out)) ?_
  rintro e w6 ⟨q0,bq,rfl,hq0,hb⟩
  have B6:=Lib.hid (B5.out.trans (hb.mono B5.out.size))
  have T1:=Lib.hid (heap_kept S1.out hb nr_)
  have T2:=Lib.hid (heap_kept S2.out hb nr_)
  have HX6:=Lib.hid (HX5.out.below hb)
  have HY6:=Lib.hid (HY5.out.below hb)
  have Hq0:=Lib.hid hq0
  clear hb Hqu HX5 HY5 S1 S2 B5 hq0
  cases bq with
  | true =>
   have hqt:=Hq0.out rfl
   have Hfo:=Lib.hid (HqF.out q0 hqt)
   have Hoq:=Lib.hid (Hof.out w6 q0 (by have:=hqt.lo; omega) (by have:=hqt.hi; omega) B6.out)
   clear hqt
   go_wp2_with fail
   refine Calls.mono Hoq.out ?_
   rintro e w7 ⟨rfl,hb⟩
   have B7:=Lib.hid (B6.out.trans (hb.mono B6.out.size))
   clear hb Hoq
   go_wp2_with fail
   go_ret
   exact ⟨⟨q0,rfl,Hfo.out⟩,B7.out⟩
  | false =>
   clear Hq0 HqF Hof
   go_wp2_with fail
   go_loopw [13] (fun a wr=>∃ (n:Nat),Hid (Pw n)∧n≤1024∧a = .int .i64 n∧Hid (Below w.heap.size w wr)∧Hid (wr.heap[N9]?=some (.cells #[.slice b1 tx.length d1,.slice b2 tx.length d2,.string (dec dx)] 168 (0,0)))∧Hid (wr.heap[N9 + 1]?=some (.cells #[.slice b3 ty.length d3,.slice b4 ty.length d4,.string (dec dy)] 168 (0,0)))∧Hid (TermsAt wr tx b1 b2)∧Hid (TermsAt wr ty b3 b4)) (fun a _=>1024 - (intOf a).toNat)
   case atStart=>exact ⟨64,.inl rfl,by decide,rfl,B6,T1,T2,HX6,HY6⟩
   case round =>
    clear B6 T1 T2 HX6 HY6
    obtain ⟨n,Hp,hn,rfl,B1,T1,T2,HX,HY⟩:=hrel
    obtain ⟨vx1,vx2⟩:=Hbx.out n hn
    obtain ⟨vy1,vy2⟩:=Hby.out n hn
    have HE1:=Lib.hid (Hen1.out n wr b1 b2 d1 d2 (by omega) HX.out (HL.out.below B1.out))
    have HE2:Hid (∀ W,Below wr.heap.size wr W→Gives Tryz.prog 131 #[.agg (tcells b3 d3 b4 d4 ty.length dy),.int .i64 n] W (.tuple #[.string (itx (LN.eLo (lf n) ty)),.string (itx (LN.eHi (lf n) ty))])):=fun W hW=>Hen2.out n W b3 b4 d3 d4 (by omega) (HY.out.below hW) (HL.out.below (B1.out.trans (hW.mono B1.out.size)))
    have Hf:=Lib.hid (Hfl.out n)
    have Hspec:Hid (∀ q,flAt n tx ty dx dy=some q→LN.FloorOf ps la lb q):=fun q h=>HfF.out n q (by omega) h
    have hn0:0 < n:=by rcases Hp.out with h | h | h | h | h <;> omega
    have Hnx:Hid (flAt n tx ty dx dy=none→n * 2≤1024∧Pw (n * 2)):=fun h=>by
     rcases Hp.out with e | e | e | e | e
     ·subst e; exact ⟨by decide,.inr (.inl rfl)⟩
     ·subst e; exact ⟨by decide,.inr (.inr (.inl rfl))⟩
     ·subst e; exact ⟨by decide,.inr (.inr (.inr (.inl rfl)))⟩
     ·subst e; exact ⟨by decide,.inr (.inr (.inr (.inr rfl)))⟩
     ·subst e; exact absurd h Hdec.out
    clear Hen1 Hen2 Hfl HfF Hdec Hbx Hby
    have hyy:=eLo_le (lf n) ty
    generalize flAt n tx ty dx dy=fl at *
    generalize LN.eLo (lf n) tx=xl at *
    generalize LN.eHi (lf n) tx=xh at *
    generalize LN.eLo (lf n) ty=yl at *
    generalize LN.eHi (lf n) ty=yh at *
    have hwn:IntKind.i64.wrap ((n:Int) * 2)=((n * 2:Nat):Int):=by rw [show (n:Int) * 2=((n * 2:Nat):Int) by omega]; exact IntWalk.i64_in _ (by omega)
    obtain ⟨m0,m1,m2,-⟩:=obj_cells3 T1.out
    go_wp2_with fail
    refine Calls.mono HE1.out ?_
    rintro e_ w2 ⟨rfl,hb⟩
    replace HE2:=Lib.hid (HE2.out w2 hb)
    have B2:=Lib.hid (B1.out.trans (hb.mono B1.out.size))
    replace T1:=Lib.hid (heap_kept T1.out hb nr_)
    replace T2:=Lib.hid (heap_kept T2.out hb nr_)
    replace HX:=Lib.hid (HX.out.below hb)
    replace HY:=Lib.hid (HY.out.below hb)
    clear hb HE1 B1 m0 m1 m2
    obtain ⟨m0,m1,m2,-⟩:=obj_cells3 T2.out
    go_wp2_with fail
    clear m0 m1 m2
    refine Calls.mono (HE2.out) ?_
    rintro e_ w3 ⟨rfl,hb⟩
    have B3:=Lib.hid (B2.out.trans (hb.mono B2.out.size))
    replace T1:=Lib.hid (heap_kept T1.out hb nr_)
    replace T2:=Lib.hid (heap_kept T2.out hb nr_)
    replace HX:=Lib.hid (HX.out.below hb)
    replace HY:=Lib.hid (HY.out.below hb)
    clear hb B2
    clear HE2
    go_wp2_with fail
    refine Calls.mono (HS.out yh _) ?_
    rintro e_ w4 ⟨rfl,hb⟩
    have B4:=Lib.hid (B3.out.trans (hb.mono B3.out.size))
    replace T1:=Lib.hid (heap_kept T1.out hb nr_)
    replace T2:=Lib.hid (heap_kept T2.out hb nr_)
    replace HX:=Lib.hid (HX.out.below hb)
    replace HY:=Lib.hid (HY.out.below hb)
    clear hb B3
    by_cases hyh:yh≤0
    ·have hsg0:yh.sign≤0:=by have:=sign_cases yh; omega
     generalize yh.sign=sg0 at *
     go_wp2_with fail
     refine Calls.mono (HN.out xh _ (by omega)) ?_
     rintro e_ w5 ⟨rfl,hb⟩
     have B5:=Lib.hid (B4.out.trans (hb.mono B4.out.size))
     replace T1:=Lib.hid (heap_kept T1.out hb nr_)
     replace T2:=Lib.hid (heap_kept T2.out hb nr_)
     replace HX:=Lib.hid (HX.out.below hb)
     replace HY:=Lib.hid (HY.out.below hb)
     clear hb B4
     go_wp2_with fail
     refine Calls.mono (HN.out xl _ (by omega)) ?_
     rintro e_ w6 ⟨rfl,hb⟩
     have B6:=Lib.hid (B5.out.trans (hb.mono B5.out.size))
     replace T1:=Lib.hid (heap_kept T1.out hb nr_)
     replace T2:=Lib.hid (heap_kept T2.out hb nr_)
     replace HX:=Lib.hid (HX.out.below hb)
     replace HY:=Lib.hid (HY.out.below hb)
     clear hb B5
     go_wp2_with fail
     refine Calls.mono (HN.out yh _ (by omega)) ?_
     rintro e_ w7 ⟨rfl,hb⟩
     have B7:=Lib.hid (B6.out.trans (hb.mono B6.out.size))
     replace T1:=Lib.hid (heap_kept T1.out hb nr_)
     replace T2:=Lib.hid (heap_kept T2.out hb nr_)
     replace HX:=Lib.hid (HX.out.below hb)
     replace HY:=Lib.hid (HY.out.below hb)
     clear hb B6
     go_wp2_with fail
     refine Calls.mono (HN.out yl _ (by omega)) ?_
     rintro e_ w8 ⟨rfl,hb⟩
     have B8:=Lib.hid (B7.out.trans (hb.mono B7.out.size))
     replace T1:=Lib.hid (heap_kept T1.out hb nr_)
     replace T2:=Lib.hid (heap_kept T2.out hb nr_)
     replace HX:=Lib.hid (HX.out.below hb)
     replace HY:=Lib.hid (HY.out.below hb)
     clear hb B7
     go_wp2_with fail
     refine Calls.mono (HS.out (-yh) _) ?_
     rintro e_ w9 ⟨rfl,hb⟩
     have B9:=Lib.hid (B8.out.trans (hb.mono B8.out.size))
     replace T1:=Lib.hid (heap_kept T1.out hb nr_)
     replace T2:=Lib.hid (heap_kept T2.out hb nr_)
     replace HX:=Lib.hid (HX.out.below hb)
     replace HY:=Lib.hid (HY.out.below hb)
     clear hb B8
     by_cases hyl2:(-yh)≤0
     ·have hsg:(-yh).sign≤0:=by have:=sign_cases (-yh); omega
      have hfl:fl=none:=by
       rw [Hf.out]
       unfold flS
       rw [if_pos (by omega)]
       unfold flE
       rw [if_pos (by omega)]
      obtain ⟨hn2,hp2⟩:=Hnx.out hfl
      have Hp2:=Lib.hid hp2
      clear hfl Hspec Hnx hp2 Hf
      generalize (-yh).sign=sg at *
      go_wp2_with fail
      go_roundw
      case rel=>exact ⟨n * 2,Hp2,hn2,rfl,B9,T1,T2,HX,HY⟩
      case measure=>simp [intOf]; omega
     ·have hsg:0 < (-yh).sign:=by have:=sign_cases (-yh); omega
      generalize (-yh).sign=sg at *
      go_wp2_with fail
      clear hsg
      refine Calls.mono (HS.out (-xh) _) ?_
      rintro e_ w10 ⟨rfl,hb⟩
      have B10:=Lib.hid (B9.out.trans (hb.mono B9.out.size))
      replace T1:=Lib.hid (heap_kept T1.out hb nr_)
      replace T2:=Lib.hid (heap_kept T2.out hb nr_)
      replace HX:=Lib.hid (HX.out.below hb)
      replace HY:=Lib.hid (HY.out.below hb)
      clear hb B9
      by_cases hx1:(-xh) < 0
      ·have hsg:(-xh).sign < 0:=by have:=sign_cases (-xh); omega
       generalize (-xh).sign=sg at *
       go_wp2_with fail
       clear hsg
       refine Calls.mono (HS.out (-xl) _) ?_
       rintro e_ w11 ⟨rfl,hb⟩
       have B11:=Lib.hid (B10.out.trans (hb.mono B10.out.size))
       replace T1:=Lib.hid (heap_kept T1.out hb nr_)
       replace T2:=Lib.hid (heap_kept T2.out hb nr_)
       replace HX:=Lib.hid (HX.out.below hb)
       replace HY:=Lib.hid (HY.out.below hb)
       clear hb B10
       by_cases hx2:(-xl) < 0
       ·have hsg:(-xl).sign < 0:=by have:=sign_cases (-xl); omega
        generalize (-xl).sign=sg at *
        obtain ⟨k0,k1,k2,-⟩:=obj_cells3 T1.out
        obtain ⟨m0,m1,m2,-⟩:=obj_cells3 T2.out
        have s2:=BW.cell k2
        have r2:=BW.cell m2
        have hnon:Nonempty (BW w11):=⟨⟨w11,Below.refl _ _⟩⟩
        have I:Hid (Below w11.heap.size w11 w11.drew):=(Below.refl _ _).drew
        go_wp2_with fail
        clear k0 k1 k2 m0 m1 m2
        refine RX.wp_region_readers 15 [(1,0),(1,1),(1,2),(1,4),(1,5),(1,6),(0,3),(0,7),(0,8),(2,9),(2,10),(2,11),(2,12),(0,13),(0,14),(0,15)] (fun w'=>∃ p:BW w11,w'=p.w) (by kernel_rfl) (by kernel_rfl) ?_ ?_
        ·exact ⟨⟨_,I.out⟩,rfl⟩
        iterate 6 (refine RX.walkR_read ?_; simp only [dsc_,dz_,tsc_,tz_]; go_big_quiet_step (fail); refine wpQuiet_nil ?_)
        clear hnon s2 r2
        refine RX.walkR_move ?_
        simp only [dsc_,dz_,tsc_,tz_]
        go_wp2_with fail
        refine Calls.mono (HMg.out (-xh) _ (by omega) (B11.out.drew)) ?_
        rintro e_ wa ⟨rfl,hb⟩
        have Wa:Hid (Below w11.heap.size w11 wa):=(Below.refl w11.heap.size w11).drew.trans hb
        clear hb I
        go_wp2_with fail
        refine ⟨⟨⟨_,Wa.out⟩,rfl⟩,?_⟩
        refine RX.walkR_move ?_
        simp only [dsc_,dz_,tsc_,tz_]
        go_wp2_with fail
        refine Calls.mono (HMd.out (-yh) _ (by omega) (B11.out.trans (Wa.out.mono B11.out.size))) ?_
        rintro e_ wb ⟨rfl,hb⟩
        have Wb:=Lib.hid (Wa.out.trans (hb.mono Wa.out.size))
        clear hb Wa
        go_wp2_with fail
        refine ⟨⟨⟨_,Wb.out⟩,rfl⟩,?_⟩
        refine RX.walkR_move ?_
        simp only [dsc_,dz_,tsc_,tz_]
        go_wp2_with fail
        refine Calls.mono (HDv.out (-xh) (-yh) _ (by omega) (by omega) (by omega) (B11.out.trans (Wb.out.mono B11.out.size))) ?_
        rintro e_ wc ⟨rfl,hb⟩
        have Wc:=Lib.hid (Wb.out.trans (hb.mono Wb.out.size))
        clear hb Wb
        go_wp2_with fail
        refine ⟨⟨⟨_,Wc.out⟩,rfl⟩,?_⟩
        refine RX.walkR_any ?_
        simp only [dsc_,dz_,tsc_,tz_]
        go_big_quiet_step (fail)
        refine wpQuiet_nil ?_
        refine RX.walkR_any ?_
        simp only [dsc_,dz_,tsc_,tz_]
        go_big_quiet_step (fail)
        refine wpQuiet_nil ?_
        refine RX.walkR_any ?_
        simp only [dsc_,dz_,tsc_,tz_]
        go_big_quiet_step (fail)
        refine wpQuiet_nil ?_
        refine RX.walkR_any ?_
        simp only [dsc_,dz_,tsc_,tz_]
        go_big_quiet_step (fail)
        refine wpQuiet_nil ?_
        refine RX.walkR_move ?_
        simp only [dsc_,dz_,tsc_,tz_]
        go_wp2_with fail
        refine ⟨⟨⟨_,Wc.out⟩,rfl⟩,?_⟩
        refine RX.walkR_move ?_
        simp only [dsc_,dz_,tsc_,tz_]
        go_wp2_with fail
        refine ⟨⟨⟨_,Wc.out⟩,rfl⟩,?_⟩
        refine RX.walkR_move ?_
        simp only [dsc_,dz_,tsc_,tz_]
        go_wp2_with fail
        simp only [RX.walkR]
        have hb:=Wc.out
        have B12:=Lib.hid (B11.out.trans (hb.mono B11.out.size))
        replace T1:=Lib.hid (heap_kept T1.out hb nr_)
        replace T2:=Lib.hid (heap_kept T2.out hb nr_)
        replace HX:=Lib.hid (HX.out.below hb)
        replace HY:=Lib.hid (HY.out.below hb)
        clear hb Wc B11
        generalize wc=w12 at *
        go_wp2_with fail
        obtain ⟨k0,k1,k2,-⟩:=obj_cells3 T1.out
        obtain ⟨m0,m1,m2,-⟩:=obj_cells3 T2.out
        have s2:=BW.cell k2
        have r2:=BW.cell m2
        have hnon:Nonempty (BW w12):=⟨⟨w12,Below.refl _ _⟩⟩
        have I:Hid (Below w12.heap.size w12 w12.drew):=(Below.refl _ _).drew
        go_wp2_with fail
        clear k0 k1 k2 m0 m1 m2
        refine RX.wp_region_readers 15 [(1,0),(1,1),(1,2),(1,4),(1,5),(1,6),(0,3),(0,7),(0,8),(2,9),(2,10),(2,11),(2,12),(0,13),(0,14),(0,15)] (fun w'=>∃ p:BW w12,w'=p.w) (by kernel_rfl) (by kernel_rfl) ?_ ?_
        ·exact ⟨⟨_,I.out⟩,rfl⟩
        iterate 6 (refine RX.walkR_read ?_; simp only [dsc_,dz_,tsc_,tz_]; go_big_quiet_step (fail); refine wpQuiet_nil ?_)
        clear hnon s2 r2
        refine RX.walkR_move ?_
        simp only [dsc_,dz_,tsc_,tz_]
        go_wp2_with fail
        refine Calls.mono (HMg.out (-xl) _ (by omega) (B12.out.drew)) ?_
        rintro e_ wa ⟨rfl,hb⟩
        have Wa:Hid (Below w12.heap.size w12 wa):=(Below.refl w12.heap.size w12).drew.trans hb
        clear hb I
        go_wp2_with fail
        refine ⟨⟨⟨_,Wa.out⟩,rfl⟩,?_⟩
        refine RX.walkR_move ?_
        simp only [dsc_,dz_,tsc_,tz_]
        go_wp2_with fail
        refine Calls.mono (HMd.out (-yl) _ (by omega) (B12.out.trans (Wa.out.mono B12.out.size))) ?_
        rintro e_ wb ⟨rfl,hb⟩
        have Wb:=Lib.hid (Wa.out.trans (hb.mono Wa.out.size))
        clear hb Wa
        go_wp2_with fail
        refine ⟨⟨⟨_,Wb.out⟩,rfl⟩,?_⟩
        refine RX.walkR_move ?_
        simp only [dsc_,dz_,tsc_,tz_]
        go_wp2_with fail
        refine Calls.mono (HDv.out (-xl) (-yl) _ (by omega) (by omega) (by omega) (B12.out.trans (Wb.out.mono B12.out.size))) ?_
        rintro e_ wc ⟨rfl,hb⟩
        have Wc:=Lib.hid (Wb.out.trans (hb.mono Wb.out.size))
        clear hb Wb
        go_wp2_with fail
        refine ⟨⟨⟨_,Wc.out⟩,rfl⟩,?_⟩
        refine RX.walkR_any ?_
        simp only [dsc_,dz_,tsc_,tz_]
        go_big_quiet_step (fail)
        refine wpQuiet_nil ?_
        refine RX.walkR_any ?_
        simp only [dsc_,dz_,tsc_,tz_]
        go_big_quiet_step (fail)
        refine wpQuiet_nil ?_
        refine RX.walkR_any ?_
        simp only [dsc_,dz_,tsc_,tz_]
        go_big_quiet_step (fail)
        refine wpQuiet_nil ?_
        refine RX.walkR_any ?_
        simp only [dsc_,dz_,tsc_,tz_]
        go_big_quiet_step (fail)
        refine wpQuiet_nil ?_
        refine RX.walkR_move ?_
        simp only [dsc_,dz_,tsc_,tz_]
        go_wp2_with fail
        refine ⟨⟨⟨_,Wc.out⟩,rfl⟩,?_⟩
        refine RX.walkR_move ?_
        simp only [dsc_,dz_,tsc_,tz_]
        go_wp2_with fail
        refine ⟨⟨⟨_,Wc.out⟩,rfl⟩,?_⟩
        refine RX.walkR_move ?_
        simp only [dsc_,dz_,tsc_,tz_]
        go_wp2_with fail
        simp only [RX.walkR]
        have hb:=Wc.out
        have B13:=Lib.hid (B12.out.trans (hb.mono B12.out.size))
        replace T1:=Lib.hid (heap_kept T1.out hb nr_)
        replace T2:=Lib.hid (heap_kept T2.out hb nr_)
        replace HX:=Lib.hid (HX.out.below hb)
        replace HY:=Lib.hid (HY.out.below hb)
        clear hb Wc B12
        generalize wc=w13 at *
        have hfl:fl=if (-xh) * (dy:Int) / ((-yh) * (dx:Int))=(-xl) * (dy:Int) / ((-yl) * (dx:Int)) then some ((-xh) * (dy:Int) / ((-yh) * (dx:Int))) else none:=by
         rw [Hf.out]
         unfold flS
         rw [if_pos (show yh≤0 by omega)]
         unfold flE LN.quoL LN.quoH
         rw [if_neg (show ¬ (-yh)≤0 by omega),if_pos (show (-xh) < 0 by omega),if_pos (show (-xl) < 0 by omega)]
        have hsame:=same_itx ((-xh) * (dy:Int) / ((-yh) * (dx:Int))) ((-xl) * (dy:Int) / ((-yl) * (dx:Int)))
        clear Hf
        generalize (-xh) * (dy:Int) / ((-yh) * (dx:Int))=q1 at *
        generalize (-xl) * (dy:Int) / ((-yl) * (dx:Int))=q2 at *
        by_cases hqq:q1=q2
        ·rw [if_pos hqq] at hfl
         rw [decide_eq_true hqq] at hsame
         have Hans:=Lib.hid (Hspec.out _ hfl)
         clear hfl hqq Hspec Hnx
         go_wp2_with fail
         go_ret
         exact ⟨⟨q1,rfl,Hans.out⟩,B13.out⟩
        ·rw [if_neg hqq] at hfl
         rw [decide_eq_false hqq] at hsame
         obtain ⟨hn2,hp2⟩:=Hnx.out hfl
         have Hp2:=Lib.hid hp2
         clear hfl hqq Hspec Hnx hp2
         go_wp2_with fail
         go_roundw
         case rel=>exact ⟨n * 2,Hp2,hn2,rfl,B13,T1,T2,HX,HY⟩
         case measure=>simp [intOf]; omega
       ·have hsg:¬ (-xl).sign < 0:=by have:=sign_cases (-xl); omega
        generalize (-xl).sign=sg at *
        obtain ⟨k0,k1,k2,-⟩:=obj_cells3 T1.out
        obtain ⟨m0,m1,m2,-⟩:=obj_cells3 T2.out
        have s2:=BW.cell k2
        have r2:=BW.cell m2
        have hnon:Nonempty (BW w11):=⟨⟨w11,Below.refl _ _⟩⟩
        have I:Hid (Below w11.heap.size w11 w11.drew):=(Below.refl _ _).drew
        go_wp2_with fail
        clear k0 k1 k2 m0 m1 m2
        refine RX.wp_region_readers 15 [(1,0),(1,1),(1,2),(1,4),(1,5),(1,6),(0,3),(0,7),(0,8),(2,9),(2,10),(2,11),(2,12),(0,13),(0,14),(0,15)] (fun w'=>∃ p:BW w11,w'=p.w) (by kernel_rfl) (by kernel_rfl) ?_ ?_
        ·exact ⟨⟨_,I.out⟩,rfl⟩
        iterate 6 (refine RX.walkR_read ?_; simp only [dsc_,dz_,tsc_,tz_]; go_big_quiet_step (fail); refine wpQuiet_nil ?_)
        clear hnon s2 r2
        refine RX.walkR_move ?_
        simp only [dsc_,dz_,tsc_,tz_]
        go_wp2_with fail
        refine Calls.mono (HMg.out (-xh) _ (by omega) (B11.out.drew)) ?_
        rintro e_ wa ⟨rfl,hb⟩
        have Wa:Hid (Below w11.heap.size w11 wa):=(Below.refl w11.heap.size w11).drew.trans hb
        clear hb I
        go_wp2_with fail
        refine ⟨⟨⟨_,Wa.out⟩,rfl⟩,?_⟩
        refine RX.walkR_move ?_
        simp only [dsc_,dz_,tsc_,tz_]
        go_wp2_with fail
        refine Calls.mono (HMd.out (-yh) _ (by omega) (B11.out.trans (Wa.out.mono B11.out.size))) ?_
        rintro e_ wb ⟨rfl,hb⟩
        have Wb:=Lib.hid (Wa.out.trans (hb.mono Wa.out.size))
        clear hb Wa
        go_wp2_with fail
        refine ⟨⟨⟨_,Wb.out⟩,rfl⟩,?_⟩
        refine RX.walkR_move ?_
        simp only [dsc_,dz_,tsc_,tz_]
        go_wp2_with fail
        refine Calls.mono (HDv.out (-xh) (-yh) _ (by omega) (by omega) (by omega) (B11.out.trans (Wb.out.mono B11.out.size))) ?_
        rintro e_ wc ⟨rfl,hb⟩
        have Wc:=Lib.hid (Wb.out.trans (hb.mono Wb.out.size))
        clear hb Wb
        go_wp2_with fail
        refine ⟨⟨⟨_,Wc.out⟩,rfl⟩,?_⟩
        refine RX.walkR_any ?_
        simp only [dsc_,dz_,tsc_,tz_]
        go_big_quiet_step (fail)
        refine wpQuiet_nil ?_
        refine RX.walkR_any ?_
        simp only [dsc_,dz_,tsc_,tz_]
        go_big_quiet_step (fail)
        refine wpQuiet_nil ?_
        refine RX.walkR_any ?_
        simp only [dsc_,dz_,tsc_,tz_]
        go_big_quiet_step (fail)
        refine wpQuiet_nil ?_
        refine RX.walkR_any ?_
        simp only [dsc_,dz_,tsc_,tz_]
        go_big_quiet_step (fail)
        refine wpQuiet_nil ?_
        refine RX.walkR_move ?_
        simp only [dsc_,dz_,tsc_,tz_]
        go_wp2_with fail
        refine ⟨⟨⟨_,Wc.out⟩,rfl⟩,?_⟩
        refine RX.walkR_move ?_
        simp only [dsc_,dz_,tsc_,tz_]
        go_wp2_with fail
        refine ⟨⟨⟨_,Wc.out⟩,rfl⟩,?_⟩
        refine RX.walkR_move ?_
        simp only [dsc_,dz_,tsc_,tz_]
        go_wp2_with fail
        simp only [RX.walkR]
        have hb:=Wc.out
        have B12:=Lib.hid (B11.out.trans (hb.mono B11.out.size))
        replace T1:=Lib.hid (heap_kept T1.out hb nr_)
        replace T2:=Lib.hid (heap_kept T2.out hb nr_)
        replace HX:=Lib.hid (HX.out.below hb)
        replace HY:=Lib.hid (HY.out.below hb)
        clear hb Wc B11
        generalize wc=w12 at *
        go_wp2_with fail
        obtain ⟨k0,k1,k2,-⟩:=obj_cells3 T1.out
        obtain ⟨m0,m1,m2,-⟩:=obj_cells3 T2.out
        have s2:=BW.cell k2
        have r2:=BW.cell m2
        have hnon:Nonempty (BW w12):=⟨⟨w12,Below.refl _ _⟩⟩
        have I:Hid (Below w12.heap.size w12 w12.drew):=(Below.refl _ _).drew
        go_wp2_with fail
        clear k0 k1 k2 m0 m1 m2
        refine RX.wp_region_readers 15 [(1,0),(1,1),(1,2),(1,4),(1,5),(1,6),(0,3),(0,7),(0,8),(2,9),(2,10),(2,11),(2,12),(0,13),(0,14),(0,15)] (fun w'=>∃ p:BW w12,w'=p.w) (by kernel_rfl) (by kernel_rfl) ?_ ?_
        ·exact ⟨⟨_,I.out⟩,rfl⟩
        iterate 6 (refine RX.walkR_read ?_; simp only [dsc_,dz_,tsc_,tz_]; go_big_quiet_step (fail); refine wpQuiet_nil ?_)
        clear hnon s2 r2
        refine RX.walkR_move ?_
        simp only [dsc_,dz_,tsc_,tz_]
        go_wp2_with fail
        refine Calls.mono (HMg.out (-xl) _ (by omega) (B12.out.drew)) ?_
        rintro e_ wa ⟨rfl,hb⟩
        have Wa:Hid (Below w12.heap.size w12 wa):=(Below.refl w12.heap.size w12).drew.trans hb
        clear hb I
        go_wp2_with fail
        refine ⟨⟨⟨_,Wa.out⟩,rfl⟩,?_⟩
        refine RX.walkR_move ?_
        simp only [dsc_,dz_,tsc_,tz_]
        go_wp2_with fail
        refine Calls.mono (HMd.out (-yh) _ (by omega) (B12.out.trans (Wa.out.mono B12.out.size))) ?_
        rintro e_ wb ⟨rfl,hb⟩
        have Wb:=Lib.hid (Wa.out.trans (hb.mono Wa.out.size))
        clear hb Wa
        go_wp2_with fail
        refine ⟨⟨⟨_,Wb.out⟩,rfl⟩,?_⟩
        refine RX.walkR_move ?_
        simp only [dsc_,dz_,tsc_,tz_]
        go_wp2_with fail
        refine Calls.mono (HDv.out (-xl) (-yh) _ (by omega) (by omega) (by omega) (B12.out.trans (Wb.out.mono B12.out.size))) ?_
        rintro e_ wc ⟨rfl,hb⟩
        have Wc:=Lib.hid (Wb.out.trans (hb.mono Wb.out.size))
        clear hb Wb
        go_wp2_with fail
        refine ⟨⟨⟨_,Wc.out⟩,rfl⟩,?_⟩
        refine RX.walkR_any ?_
        simp only [dsc_,dz_,tsc_,tz_]
        go_big_quiet_step (fail)
        refine wpQuiet_nil ?_
        refine RX.walkR_any ?_
        simp only [dsc_,dz_,tsc_,tz_]
        go_big_quiet_step (fail)
        refine wpQuiet_nil ?_
        refine RX.walkR_any ?_
        simp only [dsc_,dz_,tsc_,tz_]
        go_big_quiet_step (fail)
        refine wpQuiet_nil ?_
        refine RX.walkR_any ?_
        simp only [dsc_,dz_,tsc_,tz_]
        go_big_quiet_step (fail)
        refine wpQuiet_nil ?_
        refine RX.walkR_move ?_
        simp only [dsc_,dz_,tsc_,tz_]
        go_wp2_with fail
        refine ⟨⟨⟨_,Wc.out⟩,rfl⟩,?_⟩
        refine RX.walkR_move ?_
        simp only [dsc_,dz_,tsc_,tz_]
        go_wp2_with fail
        refine ⟨⟨⟨_,Wc.out⟩,rfl⟩,?_⟩
        refine RX.walkR_move ?_
        simp only [dsc_,dz_,tsc_,tz_]
        go_wp2_with fail
        simp only [RX.walkR]
        have hb:=Wc.out
        have B13:=Lib.hid (B12.out.trans (hb.mono B12.out.size))
        replace T1:=Lib.hid (heap_kept T1.out hb nr_)
        replace T2:=Lib.hid (heap_kept T2.out hb nr_)
        replace HX:=Lib.hid (HX.out.below hb)
        replace HY:=Lib.hid (HY.out.below hb)
        clear hb Wc B12
        generalize wc=w13 at *
        have hfl:fl=if (-xh) * (dy:Int) / ((-yh) * (dx:Int))=(-xl) * (dy:Int) / ((-yh) * (dx:Int)) then some ((-xh) * (dy:Int) / ((-yh) * (dx:Int))) else none:=by
         rw [Hf.out]
         unfold flS
         rw [if_pos (show yh≤0 by omega)]
         unfold flE LN.quoL LN.quoH
         rw [if_neg (show ¬ (-yh)≤0 by omega),if_pos (show (-xh) < 0 by omega),if_neg (show ¬ (-xl) < 0 by omega)]
        have hsame:=same_itx ((-xh) * (dy:Int) / ((-yh) * (dx:Int))) ((-xl) * (dy:Int) / ((-yh) * (dx:Int)))
        clear Hf
        generalize (-xh) * (dy:Int) / ((-yh) * (dx:Int))=q1 at *
        generalize (-xl) * (dy:Int) / ((-yh) * (dx:Int))=q2 at *
        by_cases hqq:q1=q2
        ·rw [if_pos hqq] at hfl
         rw [decide_eq_true hqq] at hsame
         have Hans:=Lib.hid (Hspec.out _ hfl)
         clear hfl hqq Hspec Hnx
         go_wp2_with fail
         go_ret
         exact ⟨⟨q1,rfl,Hans.out⟩,B13.out⟩
        ·rw [if_neg hqq] at hfl
         rw [decide_eq_false hqq] at hsame
         obtain ⟨hn2,hp2⟩:=Hnx.out hfl
         have Hp2:=Lib.hid hp2
         clear hfl hqq Hspec Hnx hp2
         go_wp2_with fail
         go_roundw
         case rel=>exact ⟨n * 2,Hp2,hn2,rfl,B13,T1,T2,HX,HY⟩
         case measure=>simp [intOf]; omega
      ·have hsg:¬ (-xh).sign < 0:=by have:=sign_cases (-xh); omega
       generalize (-xh).sign=sg at *
       go_wp2_with fail
       clear hsg
       refine Calls.mono (HS.out (-xl) _) ?_
       rintro e_ w11 ⟨rfl,hb⟩
       have B11:=Lib.hid (B10.out.trans (hb.mono B10.out.size))
       replace T1:=Lib.hid (heap_kept T1.out hb nr_)
       replace T2:=Lib.hid (heap_kept T2.out hb nr_)
       replace HX:=Lib.hid (HX.out.below hb)
       replace HY:=Lib.hid (HY.out.below hb)
       clear hb B10
       by_cases hx2:(-xl) < 0
       ·have hsg:(-xl).sign < 0:=by have:=sign_cases (-xl); omega
        generalize (-xl).sign=sg at *
        obtain ⟨k0,k1,k2,-⟩:=obj_cells3 T1.out
        obtain ⟨m0,m1,m2,-⟩:=obj_cells3 T2.out
        have s2:=BW.cell k2
        have r2:=BW.cell m2
        have hnon:Nonempty (BW w11):=⟨⟨w11,Below.refl _ _⟩⟩
        have I:Hid (Below w11.heap.size w11 w11.drew):=(Below.refl _ _).drew
        go_wp2_with fail
        clear k0 k1 k2 m0 m1 m2
        refine RX.wp_region_readers 15 [(1,0),(1,1),(1,2),(1,4),(1,5),(1,6),(0,3),(0,7),(0,8),(2,9),(2,10),(2,11),(2,12),(0,13),(0,14),(0,15)] (fun w'=>∃ p:BW w11,w'=p.w) (by kernel_rfl) (by kernel_rfl) ?_ ?_
        ·exact ⟨⟨_,I.out⟩,rfl⟩
        iterate 6 (refine RX.walkR_read ?_; simp only [dsc_,dz_,tsc_,tz_]; go_big_quiet_step (fail); refine wpQuiet_nil ?_)
        clear hnon s2 r2
        refine RX.walkR_move ?_
        simp only [dsc_,dz_,tsc_,tz_]
        go_wp2_with fail
        refine Calls.mono (HMg.out (-xh) _ (by omega) (B11.out.drew)) ?_
        rintro e_ wa ⟨rfl,hb⟩
        have Wa:Hid (Below w11.heap.size w11 wa):=(Below.refl w11.heap.size w11).drew.trans hb
        clear hb I
        go_wp2_with fail
        refine ⟨⟨⟨_,Wa.out⟩,rfl⟩,?_⟩
        refine RX.walkR_move ?_
        simp only [dsc_,dz_,tsc_,tz_]
        go_wp2_with fail
        refine Calls.mono (HMd.out (-yl) _ (by omega) (B11.out.trans (Wa.out.mono B11.out.size))) ?_
        rintro e_ wb ⟨rfl,hb⟩
        have Wb:=Lib.hid (Wa.out.trans (hb.mono Wa.out.size))
        clear hb Wa
        go_wp2_with fail
        refine ⟨⟨⟨_,Wb.out⟩,rfl⟩,?_⟩
        refine RX.walkR_move ?_
        simp only [dsc_,dz_,tsc_,tz_]
        go_wp2_with fail
        refine Calls.mono (HDv.out (-xh) (-yl) _ (by omega) (by omega) (by omega) (B11.out.trans (Wb.out.mono B11.out.size))) ?_
        rintro e_ wc ⟨rfl,hb⟩
        have Wc:=Lib.hid (Wb.out.trans (hb.mono Wb.out.size))
        clear hb Wb
        go_wp2_with fail
        refine ⟨⟨⟨_,Wc.out⟩,rfl⟩,?_⟩
        refine RX.walkR_any ?_
        simp only [dsc_,dz_,tsc_,tz_]
        go_big_quiet_step (fail)
        refine wpQuiet_nil ?_
        refine RX.walkR_any ?_
        simp only [dsc_,dz_,tsc_,tz_]
        go_big_quiet_step (fail)
        refine wpQuiet_nil ?_
        refine RX.walkR_any ?_
        simp only [dsc_,dz_,tsc_,tz_]
        go_big_quiet_step (fail)
        refine wpQuiet_nil ?_
        refine RX.walkR_any ?_
        simp only [dsc_,dz_,tsc_,tz_]
        go_big_quiet_step (fail)
        refine wpQuiet_nil ?_
        refine RX.walkR_move ?_
        simp only [dsc_,dz_,tsc_,tz_]
        go_wp2_with fail
        refine ⟨⟨⟨_,Wc.out⟩,rfl⟩,?_⟩
        refine RX.walkR_move ?_
        simp only [dsc_,dz_,tsc_,tz_]
        go_wp2_with fail
        refine ⟨⟨⟨_,Wc.out⟩,rfl⟩,?_⟩
        refine RX.walkR_move ?_
        simp only [dsc_,dz_,tsc_,tz_]
        go_wp2_with fail
        simp only [RX.walkR]
        have hb:=Wc.out
        have B12:=Lib.hid (B11.out.trans (hb.mono B11.out.size))
        replace T1:=Lib.hid (heap_kept T1.out hb nr_)
        replace T2:=Lib.hid (heap_kept T2.out hb nr_)
        replace HX:=Lib.hid (HX.out.below hb)
        replace HY:=Lib.hid (HY.out.below hb)
        clear hb Wc B11
        generalize wc=w12 at *
        go_wp2_with fail
        obtain ⟨k0,k1,k2,-⟩:=obj_cells3 T1.out
        obtain ⟨m0,m1,m2,-⟩:=obj_cells3 T2.out
        have s2:=BW.cell k2
        have r2:=BW.cell m2
        have hnon:Nonempty (BW w12):=⟨⟨w12,Below.refl _ _⟩⟩
        have I:Hid (Below w12.heap.size w12 w12.drew):=(Below.refl _ _).drew
        go_wp2_with fail
        clear k0 k1 k2 m0 m1 m2
        refine RX.wp_region_readers 15 [(1,0),(1,1),(1,2),(1,4),(1,5),(1,6),(0,3),(0,7),(0,8),(2,9),(2,10),(2,11),(2,12),(0,13),(0,14),(0,15)] (fun w'=>∃ p:BW w12,w'=p.w) (by kernel_rfl) (by kernel_rfl) ?_ ?_
        ·exact ⟨⟨_,I.out⟩,rfl⟩
        iterate 6 (refine RX.walkR_read ?_; simp only [dsc_,dz_,tsc_,tz_]; go_big_quiet_step (fail); refine wpQuiet_nil ?_)
        clear hnon s2 r2
        refine RX.walkR_move ?_
        simp only [dsc_,dz_,tsc_,tz_]
        go_wp2_with fail
        refine Calls.mono (HMg.out (-xl) _ (by omega) (B12.out.drew)) ?_
        rintro e_ wa ⟨rfl,hb⟩
        have Wa:Hid (Below w12.heap.size w12 wa):=(Below.refl w12.heap.size w12).drew.trans hb
        clear hb I
        go_wp2_with fail
        refine ⟨⟨⟨_,Wa.out⟩,rfl⟩,?_⟩
        refine RX.walkR_move ?_
        simp only [dsc_,dz_,tsc_,tz_]
        go_wp2_with fail
        refine Calls.mono (HMd.out (-yl) _ (by omega) (B12.out.trans (Wa.out.mono B12.out.size))) ?_
        rintro e_ wb ⟨rfl,hb⟩
        have Wb:=Lib.hid (Wa.out.trans (hb.mono Wa.out.size))
        clear hb Wa
        go_wp2_with fail
        refine ⟨⟨⟨_,Wb.out⟩,rfl⟩,?_⟩
        refine RX.walkR_move ?_
        simp only [dsc_,dz_,tsc_,tz_]
        go_wp2_with fail
        refine Calls.mono (HDv.out (-xl) (-yl) _ (by omega) (by omega) (by omega) (B12.out.trans (Wb.out.mono B12.out.size))) ?_
        rintro e_ wc ⟨rfl,hb⟩
        have Wc:=Lib.hid (Wb.out.trans (hb.mono Wb.out.size))
        clear hb Wb
        go_wp2_with fail
        refine ⟨⟨⟨_,Wc.out⟩,rfl⟩,?_⟩
        refine RX.walkR_any ?_
        simp only [dsc_,dz_,tsc_,tz_]
        go_big_quiet_step (fail)
        refine wpQuiet_nil ?_
        refine RX.walkR_any ?_
        simp only [dsc_,dz_,tsc_,tz_]
        go_big_quiet_step (fail)
        refine wpQuiet_nil ?_
        refine RX.walkR_any ?_
        simp only [dsc_,dz_,tsc_,tz_]
        go_big_quiet_step (fail)
        refine wpQuiet_nil ?_
        refine RX.walkR_any ?_
        simp only [dsc_,dz_,tsc_,tz_]
        go_big_quiet_step (fail)
        refine wpQuiet_nil ?_
        refine RX.walkR_move ?_
        simp only [dsc_,dz_,tsc_,tz_]
        go_wp2_with fail
        refine ⟨⟨⟨_,Wc.out⟩,rfl⟩,?_⟩
        refine RX.walkR_move ?_
        simp only [dsc_,dz_,tsc_,tz_]
        go_wp2_with fail
        refine ⟨⟨⟨_,Wc.out⟩,rfl⟩,?_⟩
        refine RX.walkR_move ?_
        simp only [dsc_,dz_,tsc_,tz_]
        go_wp2_with fail
        simp only [RX.walkR]
        have hb:=Wc.out
        have B13:=Lib.hid (B12.out.trans (hb.mono B12.out.size))
        replace T1:=Lib.hid (heap_kept T1.out hb nr_)
        replace T2:=Lib.hid (heap_kept T2.out hb nr_)
        replace HX:=Lib.hid (HX.out.below hb)
        replace HY:=Lib.hid (HY.out.below hb)
        clear hb Wc B12
        generalize wc=w13 at *
        have hfl:fl=if (-xh) * (dy:Int) / ((-yl) * (dx:Int))=(-xl) * (dy:Int) / ((-yl) * (dx:Int)) then some ((-xh) * (dy:Int) / ((-yl) * (dx:Int))) else none:=by
         rw [Hf.out]
         unfold flS
         rw [if_pos (show yh≤0 by omega)]
         unfold flE LN.quoL LN.quoH
         rw [if_neg (show ¬ (-yh)≤0 by omega),if_neg (show ¬ (-xh) < 0 by omega),if_pos (show (-xl) < 0 by omega)]
        have hsame:=same_itx ((-xh) * (dy:Int) / ((-yl) * (dx:Int))) ((-xl) * (dy:Int) / ((-yl) * (dx:Int)))
        clear Hf
        generalize (-xh) * (dy:Int) / ((-yl) * (dx:Int))=q1 at *
        generalize (-xl) * (dy:Int) / ((-yl) * (dx:Int))=q2 at *
        by_cases hqq:q1=q2
        ·rw [if_pos hqq] at hfl
         rw [decide_eq_true hqq] at hsame
         have Hans:=Lib.hid (Hspec.out _ hfl)
         clear hfl hqq Hspec Hnx
         go_wp2_with fail
         go_ret
         exact ⟨⟨q1,rfl,Hans.out⟩,B13.out⟩
        ·rw [if_neg hqq] at hfl
         rw [decide_eq_false hqq] at hsame
         obtain ⟨hn2,hp2⟩:=Hnx.out hfl
         have Hp2:=Lib.hid hp2
         clear hfl hqq Hspec Hnx hp2
         go_wp2_with fail
         go_roundw
         case rel=>exact ⟨n * 2,Hp2,hn2,rfl,B13,T1,T2,HX,HY⟩
         case measure=>simp [intOf]; omega
       ·have hsg:¬ (-xl).sign < 0:=by have:=sign_cases (-xl); omega
        generalize (-xl).sign=sg at *
        obtain ⟨k0,k1,k2,-⟩:=obj_cells3 T1.out
        obtain ⟨m0,m1,m2,-⟩:=obj_cells3 T2.out
        have s2:=BW.cell k2
        have r2:=BW.cell m2
        have hnon:Nonempty (BW w11):=⟨⟨w11,Below.refl _ _⟩⟩
        have I:Hid (Below w11.heap.size w11 w11.drew):=(Below.refl _ _).drew
        go_wp2_with fail
        clear k0 k1 k2 m0 m1 m2
        refine RX.wp_region_readers 15 [(1,0),(1,1),(1,2),(1,4),(1,5),(1,6),(0,3),(0,7),(0,8),(2,9),(2,10),(2,11),(2,12),(0,13),(0,14),(0,15)] (fun w'=>∃ p:BW w11,w'=p.w) (by kernel_rfl) (by kernel_rfl) ?_ ?_
        ·exact ⟨⟨_,I.out⟩,rfl⟩
        iterate 6 (refine RX.walkR_read ?_; simp only [dsc_,dz_,tsc_,tz_]; go_big_quiet_step (fail); refine wpQuiet_nil ?_)
        clear hnon s2 r2
        refine RX.walkR_move ?_
        simp only [dsc_,dz_,tsc_,tz_]
        go_wp2_with fail
        refine Calls.mono (HMg.out (-xh) _ (by omega) (B11.out.drew)) ?_
        rintro e_ wa ⟨rfl,hb⟩
        have Wa:Hid (Below w11.heap.size w11 wa):=(Below.refl w11.heap.size w11).drew.trans hb
        clear hb I
        go_wp2_with fail
        refine ⟨⟨⟨_,Wa.out⟩,rfl⟩,?_⟩
        refine RX.walkR_move ?_
        simp only [dsc_,dz_,tsc_,tz_]
        go_wp2_with fail
        refine Calls.mono (HMd.out (-yl) _ (by omega) (B11.out.trans (Wa.out.mono B11.out.size))) ?_
        rintro e_ wb ⟨rfl,hb⟩
        have Wb:=Lib.hid (Wa.out.trans (hb.mono Wa.out.size))
        clear hb Wa
        go_wp2_with fail
        refine ⟨⟨⟨_,Wb.out⟩,rfl⟩,?_⟩
        refine RX.walkR_move ?_
        simp only [dsc_,dz_,tsc_,tz_]
        go_wp2_with fail
        refine Calls.mono (HDv.out (-xh) (-yl) _ (by omega) (by omega) (by omega) (B11.out.trans (Wb.out.mono B11.out.size))) ?_
        rintro e_ wc ⟨rfl,hb⟩
        have Wc:=Lib.hid (Wb.out.trans (hb.mono Wb.out.size))
        clear hb Wb
        go_wp2_with fail
        refine ⟨⟨⟨_,Wc.out⟩,rfl⟩,?_⟩
        refine RX.walkR_any ?_
        simp only [dsc_,dz_,tsc_,tz_]
        go_big_quiet_step (fail)
        refine wpQuiet_nil ?_
        refine RX.walkR_any ?_
        simp only [dsc_,dz_,tsc_,tz_]
        go_big_quiet_step (fail)
        refine wpQuiet_nil ?_
        refine RX.walkR_any ?_
        simp only [dsc_,dz_,tsc_,tz_]
        go_big_quiet_step (fail)
        refine wpQuiet_nil ?_
        refine RX.walkR_any ?_
        simp only [dsc_,dz_,tsc_,tz_]
        go_big_quiet_step (fail)
        refine wpQuiet_nil ?_
        refine RX.walkR_move ?_
        simp only [dsc_,dz_,tsc_,tz_]
        go_wp2_with fail
        refine ⟨⟨⟨_,Wc.out⟩,rfl⟩,?_⟩
        refine RX.walkR_move ?_
        simp only [dsc_,dz_,tsc_,tz_]
        go_wp2_with fail
        refine ⟨⟨⟨_,Wc.out⟩,rfl⟩,?_⟩
        refine RX.walkR_move ?_
        simp only [dsc_,dz_,tsc_,tz_]
        go_wp2_with fail
        simp only [RX.walkR]
        have hb:=Wc.out
        have B12:=Lib.hid (B11.out.trans (hb.mono B11.out.size))
        replace T1:=Lib.hid (heap_kept T1.out hb nr_)
        replace T2:=Lib.hid (heap_kept T2.out hb nr_)
        replace HX:=Lib.hid (HX.out.below hb)
        replace HY:=Lib.hid (HY.out.below hb)
        clear hb Wc B11
        generalize wc=w12 at *
        go_wp2_with fail
        obtain ⟨k0,k1,k2,-⟩:=obj_cells3 T1.out
        obtain ⟨m0,m1,m2,-⟩:=obj_cells3 T2.out
        have s2:=BW.cell k2
        have r2:=BW.cell m2
        have hnon:Nonempty (BW w12):=⟨⟨w12,Below.refl _ _⟩⟩
        have I:Hid (Below w12.heap.size w12 w12.drew):=(Below.refl _ _).drew
        go_wp2_with fail
        clear k0 k1 k2 m0 m1 m2
        refine RX.wp_region_readers 15 [(1,0),(1,1),(1,2),(1,4),(1,5),(1,6),(0,3),(0,7),(0,8),(2,9),(2,10),(2,11),(2,12),(0,13),(0,14),(0,15)] (fun w'=>∃ p:BW w12,w'=p.w) (by kernel_rfl) (by kernel_rfl) ?_ ?_
        ·exact ⟨⟨_,I.out⟩,rfl⟩
        iterate 6 (refine RX.walkR_read ?_; simp only [dsc_,dz_,tsc_,tz_]; go_big_quiet_step (fail); refine wpQuiet_nil ?_)
        clear hnon s2 r2
        refine RX.walkR_move ?_
        simp only [dsc_,dz_,tsc_,tz_]
        go_wp2_with fail
        refine Calls.mono (HMg.out (-xl) _ (by omega) (B12.out.drew)) ?_
        rintro e_ wa ⟨rfl,hb⟩
        have Wa:Hid (Below w12.heap.size w12 wa):=(Below.refl w12.heap.size w12).drew.trans hb
        clear hb I
        go_wp2_with fail
        refine ⟨⟨⟨_,Wa.out⟩,rfl⟩,?_⟩
        refine RX.walkR_move ?_
        simp only [dsc_,dz_,tsc_,tz_]
        go_wp2_with fail
        refine Calls.mono (HMd.out (-yh) _ (by omega) (B12.out.trans (Wa.out.mono B12.out.size))) ?_
        rintro e_ wb ⟨rfl,hb⟩
        have Wb:=Lib.hid (Wa.out.trans (hb.mono Wa.out.size))
        clear hb Wa
        go_wp2_with fail
        refine ⟨⟨⟨_,Wb.out⟩,rfl⟩,?_⟩
        refine RX.walkR_move ?_
        simp only [dsc_,dz_,tsc_,tz_]
        go_wp2_with fail
        refine Calls.mono (HDv.out (-xl) (-yh) _ (by omega) (by omega) (by omega) (B12.out.trans (Wb.out.mono B12.out.size))) ?_
        rintro e_ wc ⟨rfl,hb⟩
        have Wc:=Lib.hid (Wb.out.trans (hb.mono Wb.out.size))
        clear hb Wb
        go_wp2_with fail
        refine ⟨⟨⟨_,Wc.out⟩,rfl⟩,?_⟩
        refine RX.walkR_any ?_
        simp only [dsc_,dz_,tsc_,tz_]
        go_big_quiet_step (fail)
        refine wpQuiet_nil ?_
        refine RX.walkR_any ?_
        simp only [dsc_,dz_,tsc_,tz_]
        go_big_quiet_step (fail)
        refine wpQuiet_nil ?_
        refine RX.walkR_any ?_
        simp only [dsc_,dz_,tsc_,tz_]
        go_big_quiet_step (fail)
        refine wpQuiet_nil ?_
        refine RX.walkR_any ?_
        simp only [dsc_,dz_,tsc_,tz_]
        go_big_quiet_step (fail)
        refine wpQuiet_nil ?_
        refine RX.walkR_move ?_
        simp only [dsc_,dz_,tsc_,tz_]
        go_wp2_with fail
        refine ⟨⟨⟨_,Wc.out⟩,rfl⟩,?_⟩
        refine RX.walkR_move ?_
        simp only [dsc_,dz_,tsc_,tz_]
        go_wp2_with fail
        refine ⟨⟨⟨_,Wc.out⟩,rfl⟩,?_⟩
        refine RX.walkR_move ?_
        simp only [dsc_,dz_,tsc_,tz_]
        go_wp2_with fail
        simp only [RX.walkR]
        have hb:=Wc.out
        have B13:=Lib.hid (B12.out.trans (hb.mono B12.out.size))
        replace T1:=Lib.hid (heap_kept T1.out hb nr_)
        replace T2:=Lib.hid (heap_kept T2.out hb nr_)
        replace HX:=Lib.hid (HX.out.below hb)
        replace HY:=Lib.hid (HY.out.below hb)
        clear hb Wc B12
        generalize wc=w13 at *
        have hfl:fl=if (-xh) * (dy:Int) / ((-yl) * (dx:Int))=(-xl) * (dy:Int) / ((-yh) * (dx:Int)) then some ((-xh) * (dy:Int) / ((-yl) * (dx:Int))) else none:=by
         rw [Hf.out]
         unfold flS
         rw [if_pos (show yh≤0 by omega)]
         unfold flE LN.quoL LN.quoH
         rw [if_neg (show ¬ (-yh)≤0 by omega),if_neg (show ¬ (-xh) < 0 by omega),if_neg (show ¬ (-xl) < 0 by omega)]
        have hsame:=same_itx ((-xh) * (dy:Int) / ((-yl) * (dx:Int))) ((-xl) * (dy:Int) / ((-yh) * (dx:Int)))
        clear Hf
        generalize (-xh) * (dy:Int) / ((-yl) * (dx:Int))=q1 at *
        generalize (-xl) * (dy:Int) / ((-yh) * (dx:Int))=q2 at *
        by_cases hqq:q1=q2
        ·rw [if_pos hqq] at hfl
         rw [decide_eq_true hqq] at hsame
         have Hans:=Lib.hid (Hspec.out _ hfl)
         clear hfl hqq Hspec Hnx
         go_wp2_with fail
         go_ret
         exact ⟨⟨q1,rfl,Hans.out⟩,B13.out⟩
        ·rw [if_neg hqq] at hfl
         rw [decide_eq_false hqq] at hsame
         obtain ⟨hn2,hp2⟩:=Hnx.out hfl
         have Hp2:=Lib.hid hp2
         clear hfl hqq Hspec Hnx hp2
         go_wp2_with fail
         go_roundw
         case rel=>exact ⟨n * 2,Hp2,hn2,rfl,B13,T1,T2,HX,HY⟩
         case measure=>simp [intOf]; omega
    ·have hsg0:¬ yh.sign≤0:=by have:=sign_cases yh; omega
     generalize yh.sign=sg0 at *
     go_wp2_with fail
     refine Calls.mono (HS.out yl _) ?_
     rintro e_ w5 ⟨rfl,hb⟩
     have B5:=Lib.hid (B4.out.trans (hb.mono B4.out.size))
     replace T1:=Lib.hid (heap_kept T1.out hb nr_)
     replace T2:=Lib.hid (heap_kept T2.out hb nr_)
     replace HX:=Lib.hid (HX.out.below hb)
     replace HY:=Lib.hid (HY.out.below hb)
     clear hb B4
     by_cases hyl2:yl≤0
     ·have hsg:yl.sign≤0:=by have:=sign_cases yl; omega
      have hfl:fl=none:=by
       rw [Hf.out]
       unfold flS
       rw [if_neg (by omega)]
       unfold flE
       rw [if_pos (by omega)]
      obtain ⟨hn2,hp2⟩:=Hnx.out hfl
      have Hp2:=Lib.hid hp2
      clear hfl Hspec Hnx hp2 Hf
      generalize yl.sign=sg at *
      go_wp2_with fail
      go_roundw
      case rel=>exact ⟨n * 2,Hp2,hn2,rfl,B5,T1,T2,HX,HY⟩
      case measure=>simp [intOf]; omega
     ·have hsg:0 < yl.sign:=by have:=sign_cases yl; omega
      generalize yl.sign=sg at *
      go_wp2_with fail
      clear hsg
      refine Calls.mono (HS.out xl _) ?_
      rintro e_ w6 ⟨rfl,hb⟩
      have B6:=Lib.hid (B5.out.trans (hb.mono B5.out.size))
      replace T1:=Lib.hid (heap_kept T1.out hb nr_)
      replace T2:=Lib.hid (heap_kept T2.out hb nr_)
      replace HX:=Lib.hid (HX.out.below hb)
      replace HY:=Lib.hid (HY.out.below hb)
      clear hb B5
      by_cases hx1:xl < 0
      ·have hsg:xl.sign < 0:=by have:=sign_cases xl; omega
       generalize xl.sign=sg at *
       go_wp2_with fail
       clear hsg
       refine Calls.mono (HS.out xh _) ?_
       rintro e_ w7 ⟨rfl,hb⟩
       have B7:=Lib.hid (B6.out.trans (hb.mono B6.out.size))
       replace T1:=Lib.hid (heap_kept T1.out hb nr_)
       replace T2:=Lib.hid (heap_kept T2.out hb nr_)
       replace HX:=Lib.hid (HX.out.below hb)
       replace HY:=Lib.hid (HY.out.below hb)
       clear hb B6
       by_cases hx2:xh < 0
       ·have hsg:xh.sign < 0:=by have:=sign_cases xh; omega
        generalize xh.sign=sg at *
        obtain ⟨k0,k1,k2,-⟩:=obj_cells3 T1.out
        obtain ⟨m0,m1,m2,-⟩:=obj_cells3 T2.out
        have s2:=BW.cell k2
        have r2:=BW.cell m2
        have hnon:Nonempty (BW w7):=⟨⟨w7,Below.refl _ _⟩⟩
        have I:Hid (Below w7.heap.size w7 w7.drew):=(Below.refl _ _).drew
        go_wp2_with fail
        clear k0 k1 k2 m0 m1 m2
        refine RX.wp_region_readers 15 [(1,0),(1,1),(1,2),(1,4),(1,5),(1,6),(0,3),(0,7),(0,8),(2,9),(2,10),(2,11),(2,12),(0,13),(0,14),(0,15)] (fun w'=>∃ p:BW w7,w'=p.w) (by kernel_rfl) (by kernel_rfl) ?_ ?_
        ·exact ⟨⟨_,I.out⟩,rfl⟩
        iterate 6 (refine RX.walkR_read ?_; simp only [dsc_,dz_,tsc_,tz_]; go_big_quiet_step (fail); refine wpQuiet_nil ?_)
        clear hnon s2 r2
        refine RX.walkR_move ?_
        simp only [dsc_,dz_,tsc_,tz_]
        go_wp2_with fail
        refine Calls.mono (HMg.out xl _ (by omega) (B7.out.drew)) ?_
        rintro e_ wa ⟨rfl,hb⟩
        have Wa:Hid (Below w7.heap.size w7 wa):=(Below.refl w7.heap.size w7).drew.trans hb
        clear hb I
        go_wp2_with fail
        refine ⟨⟨⟨_,Wa.out⟩,rfl⟩,?_⟩
        refine RX.walkR_move ?_
        simp only [dsc_,dz_,tsc_,tz_]
        go_wp2_with fail
        refine Calls.mono (HMd.out yl _ (by omega) (B7.out.trans (Wa.out.mono B7.out.size))) ?_
        rintro e_ wb ⟨rfl,hb⟩
        have Wb:=Lib.hid (Wa.out.trans (hb.mono Wa.out.size))
        clear hb Wa
        go_wp2_with fail
        refine ⟨⟨⟨_,Wb.out⟩,rfl⟩,?_⟩
        refine RX.walkR_move ?_
        simp only [dsc_,dz_,tsc_,tz_]
        go_wp2_with fail
        refine Calls.mono (HDv.out xl yl _ (by omega) (by omega) (by omega) (B7.out.trans (Wb.out.mono B7.out.size))) ?_
        rintro e_ wc ⟨rfl,hb⟩
        have Wc:=Lib.hid (Wb.out.trans (hb.mono Wb.out.size))
        clear hb Wb
        go_wp2_with fail
        refine ⟨⟨⟨_,Wc.out⟩,rfl⟩,?_⟩
        refine RX.walkR_any ?_
        simp only [dsc_,dz_,tsc_,tz_]
        go_big_quiet_step (fail)
        refine wpQuiet_nil ?_
        refine RX.walkR_any ?_
        simp only [dsc_,dz_,tsc_,tz_]
        go_big_quiet_step (fail)
        refine wpQuiet_nil ?_
        refine RX.walkR_any ?_
        simp only [dsc_,dz_,tsc_,tz_]
        go_big_quiet_step (fail)
        refine wpQuiet_nil ?_
        refine RX.walkR_any ?_
        simp only [dsc_,dz_,tsc_,tz_]
        go_big_quiet_step (fail)
        refine wpQuiet_nil ?_
        refine RX.walkR_move ?_
        simp only [dsc_,dz_,tsc_,tz_]
        go_wp2_with fail
        refine ⟨⟨⟨_,Wc.out⟩,rfl⟩,?_⟩
        refine RX.walkR_move ?_
        simp only [dsc_,dz_,tsc_,tz_]
        go_wp2_with fail
        refine ⟨⟨⟨_,Wc.out⟩,rfl⟩,?_⟩
        refine RX.walkR_move ?_
        simp only [dsc_,dz_,tsc_,tz_]
        go_wp2_with fail
        simp only [RX.walkR]
        have hb:=Wc.out
        have B8:=Lib.hid (B7.out.trans (hb.mono B7.out.size))
        replace T1:=Lib.hid (heap_kept T1.out hb nr_)
        replace T2:=Lib.hid (heap_kept T2.out hb nr_)
        replace HX:=Lib.hid (HX.out.below hb)
        replace HY:=Lib.hid (HY.out.below hb)
        clear hb Wc B7
        generalize wc=w8 at *
        go_wp2_with fail
        obtain ⟨k0,k1,k2,-⟩:=obj_cells3 T1.out
        obtain ⟨m0,m1,m2,-⟩:=obj_cells3 T2.out
        have s2:=BW.cell k2
        have r2:=BW.cell m2
        have hnon:Nonempty (BW w8):=⟨⟨w8,Below.refl _ _⟩⟩
        have I:Hid (Below w8.heap.size w8 w8.drew):=(Below.refl _ _).drew
        go_wp2_with fail
        clear k0 k1 k2 m0 m1 m2
        refine RX.wp_region_readers 15 [(1,0),(1,1),(1,2),(1,4),(1,5),(1,6),(0,3),(0,7),(0,8),(2,9),(2,10),(2,11),(2,12),(0,13),(0,14),(0,15)] (fun w'=>∃ p:BW w8,w'=p.w) (by kernel_rfl) (by kernel_rfl) ?_ ?_
        ·exact ⟨⟨_,I.out⟩,rfl⟩
        iterate 6 (refine RX.walkR_read ?_; simp only [dsc_,dz_,tsc_,tz_]; go_big_quiet_step (fail); refine wpQuiet_nil ?_)
        clear hnon s2 r2
        refine RX.walkR_move ?_
        simp only [dsc_,dz_,tsc_,tz_]
        go_wp2_with fail
        refine Calls.mono (HMg.out xh _ (by omega) (B8.out.drew)) ?_
        rintro e_ wa ⟨rfl,hb⟩
        have Wa:Hid (Below w8.heap.size w8 wa):=(Below.refl w8.heap.size w8).drew.trans hb
        clear hb I
        go_wp2_with fail
        refine ⟨⟨⟨_,Wa.out⟩,rfl⟩,?_⟩
        refine RX.walkR_move ?_
        simp only [dsc_,dz_,tsc_,tz_]
        go_wp2_with fail
        refine Calls.mono (HMd.out yh _ (by omega) (B8.out.trans (Wa.out.mono B8.out.size))) ?_
        rintro e_ wb ⟨rfl,hb⟩
        have Wb:=Lib.hid (Wa.out.trans (hb.mono Wa.out.size))
        clear hb Wa
        go_wp2_with fail
        refine ⟨⟨⟨_,Wb.out⟩,rfl⟩,?_⟩
        refine RX.walkR_move ?_
        simp only [dsc_,dz_,tsc_,tz_]
        go_wp2_with fail
        refine Calls.mono (HDv.out xh yh _ (by omega) (by omega) (by omega) (B8.out.trans (Wb.out.mono B8.out.size))) ?_
        rintro e_ wc ⟨rfl,hb⟩
        have Wc:=Lib.hid (Wb.out.trans (hb.mono Wb.out.size))
        clear hb Wb
        go_wp2_with fail
        refine ⟨⟨⟨_,Wc.out⟩,rfl⟩,?_⟩
        refine RX.walkR_any ?_
        simp only [dsc_,dz_,tsc_,tz_]
        go_big_quiet_step (fail)
        refine wpQuiet_nil ?_
        refine RX.walkR_any ?_
        simp only [dsc_,dz_,tsc_,tz_]
        go_big_quiet_step (fail)
        refine wpQuiet_nil ?_
        refine RX.walkR_any ?_
        simp only [dsc_,dz_,tsc_,tz_]
        go_big_quiet_step (fail)
        refine wpQuiet_nil ?_
        refine RX.walkR_any ?_
        simp only [dsc_,dz_,tsc_,tz_]
        go_big_quiet_step (fail)
        refine wpQuiet_nil ?_
        refine RX.walkR_move ?_
        simp only [dsc_,dz_,tsc_,tz_]
        go_wp2_with fail
        refine ⟨⟨⟨_,Wc.out⟩,rfl⟩,?_⟩
        refine RX.walkR_move ?_
        simp only [dsc_,dz_,tsc_,tz_]
        go_wp2_with fail
        refine ⟨⟨⟨_,Wc.out⟩,rfl⟩,?_⟩
        refine RX.walkR_move ?_
        simp only [dsc_,dz_,tsc_,tz_]
        go_wp2_with fail
        simp only [RX.walkR]
        have hb:=Wc.out
        have B9:=Lib.hid (B8.out.trans (hb.mono B8.out.size))
        replace T1:=Lib.hid (heap_kept T1.out hb nr_)
        replace T2:=Lib.hid (heap_kept T2.out hb nr_)
        replace HX:=Lib.hid (HX.out.below hb)
        replace HY:=Lib.hid (HY.out.below hb)
        clear hb Wc B8
        generalize wc=w9 at *
        have hfl:fl=if xl * (dy:Int) / (yl * (dx:Int))=xh * (dy:Int) / (yh * (dx:Int)) then some (xl * (dy:Int) / (yl * (dx:Int))) else none:=by
         rw [Hf.out]
         unfold flS
         rw [if_neg (show ¬ yh≤0 by omega)]
         unfold flE LN.quoL LN.quoH
         rw [if_neg (show ¬ yl≤0 by omega),if_pos (show xl < 0 by omega),if_pos (show xh < 0 by omega)]
        have hsame:=same_itx (xl * (dy:Int) / (yl * (dx:Int))) (xh * (dy:Int) / (yh * (dx:Int)))
        clear Hf
        generalize xl * (dy:Int) / (yl * (dx:Int))=q1 at *
        generalize xh * (dy:Int) / (yh * (dx:Int))=q2 at *
        by_cases hqq:q1=q2
        ·rw [if_pos hqq] at hfl
         rw [decide_eq_true hqq] at hsame
         have Hans:=Lib.hid (Hspec.out _ hfl)
         clear hfl hqq Hspec Hnx
         go_wp2_with fail
         go_ret
         exact ⟨⟨q1,rfl,Hans.out⟩,B9.out⟩
        ·rw [if_neg hqq] at hfl
         rw [decide_eq_false hqq] at hsame
         obtain ⟨hn2,hp2⟩:=Hnx.out hfl
         have Hp2:=Lib.hid hp2
         clear hfl hqq Hspec Hnx hp2
         go_wp2_with fail
         go_roundw
         case rel=>exact ⟨n * 2,Hp2,hn2,rfl,B9,T1,T2,HX,HY⟩
         case measure=>simp [intOf]; omega
       ·have hsg:¬ xh.sign < 0:=by have:=sign_cases xh; omega
        generalize xh.sign=sg at *
        obtain ⟨k0,k1,k2,-⟩:=obj_cells3 T1.out
        obtain ⟨m0,m1,m2,-⟩:=obj_cells3 T2.out
        have s2:=BW.cell k2
        have r2:=BW.cell m2
        have hnon:Nonempty (BW w7):=⟨⟨w7,Below.refl _ _⟩⟩
        have I:Hid (Below w7.heap.size w7 w7.drew):=(Below.refl _ _).drew
        go_wp2_with fail
        clear k0 k1 k2 m0 m1 m2
        refine RX.wp_region_readers 15 [(1,0),(1,1),(1,2),(1,4),(1,5),(1,6),(0,3),(0,7),(0,8),(2,9),(2,10),(2,11),(2,12),(0,13),(0,14),(0,15)] (fun w'=>∃ p:BW w7,w'=p.w) (by kernel_rfl) (by kernel_rfl) ?_ ?_
        ·exact ⟨⟨_,I.out⟩,rfl⟩
        iterate 6 (refine RX.walkR_read ?_; simp only [dsc_,dz_,tsc_,tz_]; go_big_quiet_step (fail); refine wpQuiet_nil ?_)
        clear hnon s2 r2
        refine RX.walkR_move ?_
        simp only [dsc_,dz_,tsc_,tz_]
        go_wp2_with fail
        refine Calls.mono (HMg.out xl _ (by omega) (B7.out.drew)) ?_
        rintro e_ wa ⟨rfl,hb⟩
        have Wa:Hid (Below w7.heap.size w7 wa):=(Below.refl w7.heap.size w7).drew.trans hb
        clear hb I
        go_wp2_with fail
        refine ⟨⟨⟨_,Wa.out⟩,rfl⟩,?_⟩
        refine RX.walkR_move ?_
        simp only [dsc_,dz_,tsc_,tz_]
        go_wp2_with fail
        refine Calls.mono (HMd.out yl _ (by omega) (B7.out.trans (Wa.out.mono B7.out.size))) ?_
        rintro e_ wb ⟨rfl,hb⟩
        have Wb:=Lib.hid (Wa.out.trans (hb.mono Wa.out.size))
        clear hb Wa
        go_wp2_with fail
        refine ⟨⟨⟨_,Wb.out⟩,rfl⟩,?_⟩
        refine RX.walkR_move ?_
        simp only [dsc_,dz_,tsc_,tz_]
        go_wp2_with fail
        refine Calls.mono (HDv.out xl yl _ (by omega) (by omega) (by omega) (B7.out.trans (Wb.out.mono B7.out.size))) ?_
        rintro e_ wc ⟨rfl,hb⟩
        have Wc:=Lib.hid (Wb.out.trans (hb.mono Wb.out.size))
        clear hb Wb
        go_wp2_with fail
        refine ⟨⟨⟨_,Wc.out⟩,rfl⟩,?_⟩
        refine RX.walkR_any ?_
        simp only [dsc_,dz_,tsc_,tz_]
        go_big_quiet_step (fail)
        refine wpQuiet_nil ?_
        refine RX.walkR_any ?_
        simp only [dsc_,dz_,tsc_,tz_]
        go_big_quiet_step (fail)
        refine wpQuiet_nil ?_
        refine RX.walkR_any ?_
        simp only [dsc_,dz_,tsc_,tz_]
        go_big_quiet_step (fail)
        refine wpQuiet_nil ?_
        refine RX.walkR_any ?_
        simp only [dsc_,dz_,tsc_,tz_]
        go_big_quiet_step (fail)
        refine wpQuiet_nil ?_
        refine RX.walkR_move ?_
        simp only [dsc_,dz_,tsc_,tz_]
        go_wp2_with fail
        refine ⟨⟨⟨_,Wc.out⟩,rfl⟩,?_⟩
        refine RX.walkR_move ?_
        simp only [dsc_,dz_,tsc_,tz_]
        go_wp2_with fail
        refine ⟨⟨⟨_,Wc.out⟩,rfl⟩,?_⟩
        refine RX.walkR_move ?_
        simp only [dsc_,dz_,tsc_,tz_]
        go_wp2_with fail
        simp only [RX.walkR]
        have hb:=Wc.out
        have B8:=Lib.hid (B7.out.trans (hb.mono B7.out.size))
        replace T1:=Lib.hid (heap_kept T1.out hb nr_)
        replace T2:=Lib.hid (heap_kept T2.out hb nr_)
        replace HX:=Lib.hid (HX.out.below hb)
        replace HY:=Lib.hid (HY.out.below hb)
        clear hb Wc B7
        generalize wc=w8 at *
        go_wp2_with fail
        obtain ⟨k0,k1,k2,-⟩:=obj_cells3 T1.out
        obtain ⟨m0,m1,m2,-⟩:=obj_cells3 T2.out
        have s2:=BW.cell k2
        have r2:=BW.cell m2
        have hnon:Nonempty (BW w8):=⟨⟨w8,Below.refl _ _⟩⟩
        have I:Hid (Below w8.heap.size w8 w8.drew):=(Below.refl _ _).drew
        go_wp2_with fail
        clear k0 k1 k2 m0 m1 m2
        refine RX.wp_region_readers 15 [(1,0),(1,1),(1,2),(1,4),(1,5),(1,6),(0,3),(0,7),(0,8),(2,9),(2,10),(2,11),(2,12),(0,13),(0,14),(0,15)] (fun w'=>∃ p:BW w8,w'=p.w) (by kernel_rfl) (by kernel_rfl) ?_ ?_
        ·exact ⟨⟨_,I.out⟩,rfl⟩
        iterate 6 (refine RX.walkR_read ?_; simp only [dsc_,dz_,tsc_,tz_]; go_big_quiet_step (fail); refine wpQuiet_nil ?_)
        clear hnon s2 r2
        refine RX.walkR_move ?_
        simp only [dsc_,dz_,tsc_,tz_]
        go_wp2_with fail
        refine Calls.mono (HMg.out xh _ (by omega) (B8.out.drew)) ?_
        rintro e_ wa ⟨rfl,hb⟩
        have Wa:Hid (Below w8.heap.size w8 wa):=(Below.refl w8.heap.size w8).drew.trans hb
        clear hb I
        go_wp2_with fail
        refine ⟨⟨⟨_,Wa.out⟩,rfl⟩,?_⟩
        refine RX.walkR_move ?_
        simp only [dsc_,dz_,tsc_,tz_]
        go_wp2_with fail
        refine Calls.mono (HMd.out yl _ (by omega) (B8.out.trans (Wa.out.mono B8.out.size))) ?_
        rintro e_ wb ⟨rfl,hb⟩
        have Wb:=Lib.hid (Wa.out.trans (hb.mono Wa.out.size))
        clear hb Wa
        go_wp2_with fail
        refine ⟨⟨⟨_,Wb.out⟩,rfl⟩,?_⟩
        refine RX.walkR_move ?_
        simp only [dsc_,dz_,tsc_,tz_]
        go_wp2_with fail
        refine Calls.mono (HDv.out xh yl _ (by omega) (by omega) (by omega) (B8.out.trans (Wb.out.mono B8.out.size))) ?_
        rintro e_ wc ⟨rfl,hb⟩
        have Wc:=Lib.hid (Wb.out.trans (hb.mono Wb.out.size))
        clear hb Wb
        go_wp2_with fail
        refine ⟨⟨⟨_,Wc.out⟩,rfl⟩,?_⟩
        refine RX.walkR_any ?_
        simp only [dsc_,dz_,tsc_,tz_]
        go_big_quiet_step (fail)
        refine wpQuiet_nil ?_
        refine RX.walkR_any ?_
        simp only [dsc_,dz_,tsc_,tz_]
        go_big_quiet_step (fail)
        refine wpQuiet_nil ?_
        refine RX.walkR_any ?_
        simp only [dsc_,dz_,tsc_,tz_]
        go_big_quiet_step (fail)
        refine wpQuiet_nil ?_
        refine RX.walkR_any ?_
        simp only [dsc_,dz_,tsc_,tz_]
        go_big_quiet_step (fail)
        refine wpQuiet_nil ?_
        refine RX.walkR_move ?_
        simp only [dsc_,dz_,tsc_,tz_]
        go_wp2_with fail
        refine ⟨⟨⟨_,Wc.out⟩,rfl⟩,?_⟩
        refine RX.walkR_move ?_
        simp only [dsc_,dz_,tsc_,tz_]
        go_wp2_with fail
        refine ⟨⟨⟨_,Wc.out⟩,rfl⟩,?_⟩
        refine RX.walkR_move ?_
        simp only [dsc_,dz_,tsc_,tz_]
        go_wp2_with fail
        simp only [RX.walkR]
        have hb:=Wc.out
        have B9:=Lib.hid (B8.out.trans (hb.mono B8.out.size))
        replace T1:=Lib.hid (heap_kept T1.out hb nr_)
        replace T2:=Lib.hid (heap_kept T2.out hb nr_)
        replace HX:=Lib.hid (HX.out.below hb)
        replace HY:=Lib.hid (HY.out.below hb)
        clear hb Wc B8
        generalize wc=w9 at *
        have hfl:fl=if xl * (dy:Int) / (yl * (dx:Int))=xh * (dy:Int) / (yl * (dx:Int)) then some (xl * (dy:Int) / (yl * (dx:Int))) else none:=by
         rw [Hf.out]
         unfold flS
         rw [if_neg (show ¬ yh≤0 by omega)]
         unfold flE LN.quoL LN.quoH
         rw [if_neg (show ¬ yl≤0 by omega),if_pos (show xl < 0 by omega),if_neg (show ¬ xh < 0 by omega)]
        have hsame:=same_itx (xl * (dy:Int) / (yl * (dx:Int))) (xh * (dy:Int) / (yl * (dx:Int)))
        clear Hf
        generalize xl * (dy:Int) / (yl * (dx:Int))=q1 at *
        generalize xh * (dy:Int) / (yl * (dx:Int))=q2 at *
        by_cases hqq:q1=q2
        ·rw [if_pos hqq] at hfl
         rw [decide_eq_true hqq] at hsame
         have Hans:=Lib.hid (Hspec.out _ hfl)
         clear hfl hqq Hspec Hnx
         go_wp2_with fail
         go_ret
         exact ⟨⟨q1,rfl,Hans.out⟩,B9.out⟩
        ·rw [if_neg hqq] at hfl
         rw [decide_eq_false hqq] at hsame
         obtain ⟨hn2,hp2⟩:=Hnx.out hfl
         have Hp2:=Lib.hid hp2
         clear hfl hqq Hspec Hnx hp2
         go_wp2_with fail
         go_roundw
         case rel=>exact ⟨n * 2,Hp2,hn2,rfl,B9,T1,T2,HX,HY⟩
         case measure=>simp [intOf]; omega
      ·have hsg:¬ xl.sign < 0:=by have:=sign_cases xl; omega
       generalize xl.sign=sg at *
       go_wp2_with fail
       clear hsg
       refine Calls.mono (HS.out xh _) ?_
       rintro e_ w7 ⟨rfl,hb⟩
       have B7:=Lib.hid (B6.out.trans (hb.mono B6.out.size))
       replace T1:=Lib.hid (heap_kept T1.out hb nr_)
       replace T2:=Lib.hid (heap_kept T2.out hb nr_)
       replace HX:=Lib.hid (HX.out.below hb)
       replace HY:=Lib.hid (HY.out.below hb)
       clear hb B6
       by_cases hx2:xh < 0
       ·have hsg:xh.sign < 0:=by have:=sign_cases xh; omega
        generalize xh.sign=sg at *
        obtain ⟨k0,k1,k2,-⟩:=obj_cells3 T1.out
        obtain ⟨m0,m1,m2,-⟩:=obj_cells3 T2.out
        have s2:=BW.cell k2
        have r2:=BW.cell m2
        have hnon:Nonempty (BW w7):=⟨⟨w7,Below.refl _ _⟩⟩
        have I:Hid (Below w7.heap.size w7 w7.drew):=(Below.refl _ _).drew
        go_wp2_with fail
        clear k0 k1 k2 m0 m1 m2
        refine RX.wp_region_readers 15 [(1,0),(1,1),(1,2),(1,4),(1,5),(1,6),(0,3),(0,7),(0,8),(2,9),(2,10),(2,11),(2,12),(0,13),(0,14),(0,15)] (fun w'=>∃ p:BW w7,w'=p.w) (by kernel_rfl) (by kernel_rfl) ?_ ?_
        ·exact ⟨⟨_,I.out⟩,rfl⟩
        iterate 6 (refine RX.walkR_read ?_; simp only [dsc_,dz_,tsc_,tz_]; go_big_quiet_step (fail); refine wpQuiet_nil ?_)
        clear hnon s2 r2
        refine RX.walkR_move ?_
        simp only [dsc_,dz_,tsc_,tz_]
        go_wp2_with fail
        refine Calls.mono (HMg.out xl _ (by omega) (B7.out.drew)) ?_
        rintro e_ wa ⟨rfl,hb⟩
        have Wa:Hid (Below w7.heap.size w7 wa):=(Below.refl w7.heap.size w7).drew.trans hb
        clear hb I
        go_wp2_with fail
        refine ⟨⟨⟨_,Wa.out⟩,rfl⟩,?_⟩
        refine RX.walkR_move ?_
        simp only [dsc_,dz_,tsc_,tz_]
        go_wp2_with fail
        refine Calls.mono (HMd.out yh _ (by omega) (B7.out.trans (Wa.out.mono B7.out.size))) ?_
        rintro e_ wb ⟨rfl,hb⟩
        have Wb:=Lib.hid (Wa.out.trans (hb.mono Wa.out.size))
        clear hb Wa
        go_wp2_with fail
        refine ⟨⟨⟨_,Wb.out⟩,rfl⟩,?_⟩
        refine RX.walkR_move ?_
        simp only [dsc_,dz_,tsc_,tz_]
        go_wp2_with fail
        refine Calls.mono (HDv.out xl yh _ (by omega) (by omega) (by omega) (B7.out.trans (Wb.out.mono B7.out.size))) ?_
        rintro e_ wc ⟨rfl,hb⟩
        have Wc:=Lib.hid (Wb.out.trans (hb.mono Wb.out.size))
        clear hb Wb
        go_wp2_with fail
        refine ⟨⟨⟨_,Wc.out⟩,rfl⟩,?_⟩
        refine RX.walkR_any ?_
        simp only [dsc_,dz_,tsc_,tz_]
        go_big_quiet_step (fail)
        refine wpQuiet_nil ?_
        refine RX.walkR_any ?_
        simp only [dsc_,dz_,tsc_,tz_]
        go_big_quiet_step (fail)
        refine wpQuiet_nil ?_
        refine RX.walkR_any ?_
        simp only [dsc_,dz_,tsc_,tz_]
        go_big_quiet_step (fail)
        refine wpQuiet_nil ?_
        refine RX.walkR_any ?_
        simp only [dsc_,dz_,tsc_,tz_]
        go_big_quiet_step (fail)
        refine wpQuiet_nil ?_
        refine RX.walkR_move ?_
        simp only [dsc_,dz_,tsc_,tz_]
        go_wp2_with fail
        refine ⟨⟨⟨_,Wc.out⟩,rfl⟩,?_⟩
        refine RX.walkR_move ?_
        simp only [dsc_,dz_,tsc_,tz_]
        go_wp2_with fail
        refine ⟨⟨⟨_,Wc.out⟩,rfl⟩,?_⟩
        refine RX.walkR_move ?_
        simp only [dsc_,dz_,tsc_,tz_]
        go_wp2_with fail
        simp only [RX.walkR]
        have hb:=Wc.out
        have B8:=Lib.hid (B7.out.trans (hb.mono B7.out.size))
        replace T1:=Lib.hid (heap_kept T1.out hb nr_)
        replace T2:=Lib.hid (heap_kept T2.out hb nr_)
        replace HX:=Lib.hid (HX.out.below hb)
        replace HY:=Lib.hid (HY.out.below hb)
        clear hb Wc B7
        generalize wc=w8 at *
        go_wp2_with fail
        obtain ⟨k0,k1,k2,-⟩:=obj_cells3 T1.out
        obtain ⟨m0,m1,m2,-⟩:=obj_cells3 T2.out
        have s2:=BW.cell k2
        have r2:=BW.cell m2
        have hnon:Nonempty (BW w8):=⟨⟨w8,Below.refl _ _⟩⟩
        have I:Hid (Below w8.heap.size w8 w8.drew):=(Below.refl _ _).drew
        go_wp2_with fail
        clear k0 k1 k2 m0 m1 m2
        refine RX.wp_region_readers 15 [(1,0),(1,1),(1,2),(1,4),(1,5),(1,6),(0,3),(0,7),(0,8),(2,9),(2,10),(2,11),(2,12),(0,13),(0,14),(0,15)] (fun w'=>∃ p:BW w8,w'=p.w) (by kernel_rfl) (by kernel_rfl) ?_ ?_
        ·exact ⟨⟨_,I.out⟩,rfl⟩
        iterate 6 (refine RX.walkR_read ?_; simp only [dsc_,dz_,tsc_,tz_]; go_big_quiet_step (fail); refine wpQuiet_nil ?_)
        clear hnon s2 r2
        refine RX.walkR_move ?_
        simp only [dsc_,dz_,tsc_,tz_]
        go_wp2_with fail
        refine Calls.mono (HMg.out xh _ (by omega) (B8.out.drew)) ?_
        rintro e_ wa ⟨rfl,hb⟩
        have Wa:Hid (Below w8.heap.size w8 wa):=(Below.refl w8.heap.size w8).drew.trans hb
        clear hb I
        go_wp2_with fail
        refine ⟨⟨⟨_,Wa.out⟩,rfl⟩,?_⟩
        refine RX.walkR_move ?_
        simp only [dsc_,dz_,tsc_,tz_]
        go_wp2_with fail
        refine Calls.mono (HMd.out yh _ (by omega) (B8.out.trans (Wa.out.mono B8.out.size))) ?_
        rintro e_ wb ⟨rfl,hb⟩
        have Wb:=Lib.hid (Wa.out.trans (hb.mono Wa.out.size))
        clear hb Wa
        go_wp2_with fail
        refine ⟨⟨⟨_,Wb.out⟩,rfl⟩,?_⟩
        refine RX.walkR_move ?_
        simp only [dsc_,dz_,tsc_,tz_]
        go_wp2_with fail
        refine Calls.mono (HDv.out xh yh _ (by omega) (by omega) (by omega) (B8.out.trans (Wb.out.mono B8.out.size))) ?_
        rintro e_ wc ⟨rfl,hb⟩
        have Wc:=Lib.hid (Wb.out.trans (hb.mono Wb.out.size))
        clear hb Wb
        go_wp2_with fail
        refine ⟨⟨⟨_,Wc.out⟩,rfl⟩,?_⟩
        refine RX.walkR_any ?_
        simp only [dsc_,dz_,tsc_,tz_]
        go_big_quiet_step (fail)
        refine wpQuiet_nil ?_
        refine RX.walkR_any ?_
        simp only [dsc_,dz_,tsc_,tz_]
        go_big_quiet_step (fail)
        refine wpQuiet_nil ?_
        refine RX.walkR_any ?_
        simp only [dsc_,dz_,tsc_,tz_]
        go_big_quiet_step (fail)
        refine wpQuiet_nil ?_
        refine RX.walkR_any ?_
        simp only [dsc_,dz_,tsc_,tz_]
        go_big_quiet_step (fail)
        refine wpQuiet_nil ?_
        refine RX.walkR_move ?_
        simp only [dsc_,dz_,tsc_,tz_]
        go_wp2_with fail
        refine ⟨⟨⟨_,Wc.out⟩,rfl⟩,?_⟩
        refine RX.walkR_move ?_
        simp only [dsc_,dz_,tsc_,tz_]
        go_wp2_with fail
        refine ⟨⟨⟨_,Wc.out⟩,rfl⟩,?_⟩
        refine RX.walkR_move ?_
        simp only [dsc_,dz_,tsc_,tz_]
        go_wp2_with fail
        simp only [RX.walkR]
        have hb:=Wc.out
        have B9:=Lib.hid (B8.out.trans (hb.mono B8.out.size))
        replace T1:=Lib.hid (heap_kept T1.out hb nr_)
        replace T2:=Lib.hid (heap_kept T2.out hb nr_)
        replace HX:=Lib.hid (HX.out.below hb)
        replace HY:=Lib.hid (HY.out.below hb)
        clear hb Wc B8
        generalize wc=w9 at *
        have hfl:fl=if xl * (dy:Int) / (yh * (dx:Int))=xh * (dy:Int) / (yh * (dx:Int)) then some (xl * (dy:Int) / (yh * (dx:Int))) else none:=by
         rw [Hf.out]
         unfold flS
         rw [if_neg (show ¬ yh≤0 by omega)]
         unfold flE LN.quoL LN.quoH
         rw [if_neg (show ¬ yl≤0 by omega),if_neg (show ¬ xl < 0 by omega),if_pos (show xh < 0 by omega)]
        have hsame:=same_itx (xl * (dy:Int) / (yh * (dx:Int))) (xh * (dy:Int) / (yh * (dx:Int)))
        clear Hf
        generalize xl * (dy:Int) / (yh * (dx:Int))=q1 at *
        generalize xh * (dy:Int) / (yh * (dx:Int))=q2 at *
        by_cases hqq:q1=q2
        ·rw [if_pos hqq] at hfl
         rw [decide_eq_true hqq] at hsame
         have Hans:=Lib.hid (Hspec.out _ hfl)
         clear hfl hqq Hspec Hnx
         go_wp2_with fail
         go_ret
         exact ⟨⟨q1,rfl,Hans.out⟩,B9.out⟩
        ·rw [if_neg hqq] at hfl
         rw [decide_eq_false hqq] at hsame
         obtain ⟨hn2,hp2⟩:=Hnx.out hfl
         have Hp2:=Lib.hid hp2
         clear hfl hqq Hspec Hnx hp2
         go_wp2_with fail
         go_roundw
         case rel=>exact ⟨n * 2,Hp2,hn2,rfl,B9,T1,T2,HX,HY⟩
         case measure=>simp [intOf]; omega
       ·have hsg:¬ xh.sign < 0:=by have:=sign_cases xh; omega
        generalize xh.sign=sg at *
        obtain ⟨k0,k1,k2,-⟩:=obj_cells3 T1.out
        obtain ⟨m0,m1,m2,-⟩:=obj_cells3 T2.out
        have s2:=BW.cell k2
        have r2:=BW.cell m2
        have hnon:Nonempty (BW w7):=⟨⟨w7,Below.refl _ _⟩⟩
        have I:Hid (Below w7.heap.size w7 w7.drew):=(Below.refl _ _).drew
        go_wp2_with fail
        clear k0 k1 k2 m0 m1 m2
        refine RX.wp_region_readers 15 [(1,0),(1,1),(1,2),(1,4),(1,5),(1,6),(0,3),(0,7),(0,8),(2,9),(2,10),(2,11),(2,12),(0,13),(0,14),(0,15)] (fun w'=>∃ p:BW w7,w'=p.w) (by kernel_rfl) (by kernel_rfl) ?_ ?_
        ·exact ⟨⟨_,I.out⟩,rfl⟩
        iterate 6 (refine RX.walkR_read ?_; simp only [dsc_,dz_,tsc_,tz_]; go_big_quiet_step (fail); refine wpQuiet_nil ?_)
        clear hnon s2 r2
        refine RX.walkR_move ?_
        simp only [dsc_,dz_,tsc_,tz_]
        go_wp2_with fail
        refine Calls.mono (HMg.out xl _ (by omega) (B7.out.drew)) ?_
        rintro e_ wa ⟨rfl,hb⟩
        have Wa:Hid (Below w7.heap.size w7 wa):=(Below.refl w7.heap.size w7).drew.trans hb
        clear hb I
        go_wp2_with fail
        refine ⟨⟨⟨_,Wa.out⟩,rfl⟩,?_⟩
        refine RX.walkR_move ?_
        simp only [dsc_,dz_,tsc_,tz_]
        go_wp2_with fail
        refine Calls.mono (HMd.out yh _ (by omega) (B7.out.trans (Wa.out.mono B7.out.size))) ?_
        rintro e_ wb ⟨rfl,hb⟩
        have Wb:=Lib.hid (Wa.out.trans (hb.mono Wa.out.size))
        clear hb Wa
        go_wp2_with fail
        refine ⟨⟨⟨_,Wb.out⟩,rfl⟩,?_⟩
        refine RX.walkR_move ?_
        simp only [dsc_,dz_,tsc_,tz_]
        go_wp2_with fail
        refine Calls.mono (HDv.out xl yh _ (by omega) (by omega) (by omega) (B7.out.trans (Wb.out.mono B7.out.size))) ?_
        rintro e_ wc ⟨rfl,hb⟩
        have Wc:=Lib.hid (Wb.out.trans (hb.mono Wb.out.size))
        clear hb Wb
        go_wp2_with fail
        refine ⟨⟨⟨_,Wc.out⟩,rfl⟩,?_⟩
        refine RX.walkR_any ?_
        simp only [dsc_,dz_,tsc_,tz_]
        go_big_quiet_step (fail)
        refine wpQuiet_nil ?_
        refine RX.walkR_any ?_
        simp only [dsc_,dz_,tsc_,tz_]
        go_big_quiet_step (fail)
        refine wpQuiet_nil ?_
        refine RX.walkR_any ?_
        simp only [dsc_,dz_,tsc_,tz_]
        go_big_quiet_step (fail)
        refine wpQuiet_nil ?_
        refine RX.walkR_any ?_
        simp only [dsc_,dz_,tsc_,tz_]
        go_big_quiet_step (fail)
        refine wpQuiet_nil ?_
        refine RX.walkR_move ?_
        simp only [dsc_,dz_,tsc_,tz_]
        go_wp2_with fail
        refine ⟨⟨⟨_,Wc.out⟩,rfl⟩,?_⟩
        refine RX.walkR_move ?_
        simp only [dsc_,dz_,tsc_,tz_]
        go_wp2_with fail
        refine ⟨⟨⟨_,Wc.out⟩,rfl⟩,?_⟩
        refine RX.walkR_move ?_
        simp only [dsc_,dz_,tsc_,tz_]
        go_wp2_with fail
        simp only [RX.walkR]
        have hb:=Wc.out
        have B8:=Lib.hid (B7.out.trans (hb.mono B7.out.size))
        replace T1:=Lib.hid (heap_kept T1.out hb nr_)
        replace T2:=Lib.hid (heap_kept T2.out hb nr_)
        replace HX:=Lib.hid (HX.out.below hb)
        replace HY:=Lib.hid (HY.out.below hb)
        clear hb Wc B7
        generalize wc=w8 at *
        go_wp2_with fail
        obtain ⟨k0,k1,k2,-⟩:=obj_cells3 T1.out
        obtain ⟨m0,m1,m2,-⟩:=obj_cells3 T2.out
        have s2:=BW.cell k2
        have r2:=BW.cell m2
        have hnon:Nonempty (BW w8):=⟨⟨w8,Below.refl _ _⟩⟩
        have I:Hid (Below w8.heap.size w8 w8.drew):=(Below.refl _ _).drew
        go_wp2_with fail
        clear k0 k1 k2 m0 m1 m2
        refine RX.wp_region_readers 15 [(1,0),(1,1),(1,2),(1,4),(1,5),(1,6),(0,3),(0,7),(0,8),(2,9),(2,10),(2,11),(2,12),(0,13),(0,14),(0,15)] (fun w'=>∃ p:BW w8,w'=p.w) (by kernel_rfl) (by kernel_rfl) ?_ ?_
        ·exact ⟨⟨_,I.out⟩,rfl⟩
        iterate 6 (refine RX.walkR_read ?_; simp only [dsc_,dz_,tsc_,tz_]; go_big_quiet_step (fail); refine wpQuiet_nil ?_)
        clear hnon s2 r2
        refine RX.walkR_move ?_
        simp only [dsc_,dz_,tsc_,tz_]
        go_wp2_with fail
        refine Calls.mono (HMg.out xh _ (by omega) (B8.out.drew)) ?_
        rintro e_ wa ⟨rfl,hb⟩
        have Wa:Hid (Below w8.heap.size w8 wa):=(Below.refl w8.heap.size w8).drew.trans hb
        clear hb I
        go_wp2_with fail
        refine ⟨⟨⟨_,Wa.out⟩,rfl⟩,?_⟩
        refine RX.walkR_move ?_
        simp only [dsc_,dz_,tsc_,tz_]
        go_wp2_with fail
        refine Calls.mono (HMd.out yl _ (by omega) (B8.out.trans (Wa.out.mono B8.out.size))) ?_
        rintro e_ wb ⟨rfl,hb⟩
        have Wb:=Lib.hid (Wa.out.trans (hb.mono Wa.out.size))
        clear hb Wa
        go_wp2_with fail
        refine ⟨⟨⟨_,Wb.out⟩,rfl⟩,?_⟩
        refine RX.walkR_move ?_
        simp only [dsc_,dz_,tsc_,tz_]
        go_wp2_with fail
        refine Calls.mono (HDv.out xh yl _ (by omega) (by omega) (by omega) (B8.out.trans (Wb.out.mono B8.out.size))) ?_
        rintro e_ wc ⟨rfl,hb⟩
        have Wc:=Lib.hid (Wb.out.trans (hb.mono Wb.out.size))
        clear hb Wb
        go_wp2_with fail
        refine ⟨⟨⟨_,Wc.out⟩,rfl⟩,?_⟩
        refine RX.walkR_any ?_
        simp only [dsc_,dz_,tsc_,tz_]
        go_big_quiet_step (fail)
        refine wpQuiet_nil ?_
        refine RX.walkR_any ?_
        simp only [dsc_,dz_,tsc_,tz_]
        go_big_quiet_step (fail)
        refine wpQuiet_nil ?_
        refine RX.walkR_any ?_
        simp only [dsc_,dz_,tsc_,tz_]
        go_big_quiet_step (fail)
        refine wpQuiet_nil ?_
        refine RX.walkR_any ?_
        simp only [dsc_,dz_,tsc_,tz_]
        go_big_quiet_step (fail)
        refine wpQuiet_nil ?_
        refine RX.walkR_move ?_
        simp only [dsc_,dz_,tsc_,tz_]
        go_wp2_with fail
        refine ⟨⟨⟨_,Wc.out⟩,rfl⟩,?_⟩
        refine RX.walkR_move ?_
        simp only [dsc_,dz_,tsc_,tz_]
        go_wp2_with fail
        refine ⟨⟨⟨_,Wc.out⟩,rfl⟩,?_⟩
        refine RX.walkR_move ?_
        simp only [dsc_,dz_,tsc_,tz_]
        go_wp2_with fail
        simp only [RX.walkR]
        have hb:=Wc.out
        have B9:=Lib.hid (B8.out.trans (hb.mono B8.out.size))
        replace T1:=Lib.hid (heap_kept T1.out hb nr_)
        replace T2:=Lib.hid (heap_kept T2.out hb nr_)
        replace HX:=Lib.hid (HX.out.below hb)
        replace HY:=Lib.hid (HY.out.below hb)
        clear hb Wc B8
        generalize wc=w9 at *
        have hfl:fl=if xl * (dy:Int) / (yh * (dx:Int))=xh * (dy:Int) / (yl * (dx:Int)) then some (xl * (dy:Int) / (yh * (dx:Int))) else none:=by
         rw [Hf.out]
         unfold flS
         rw [if_neg (show ¬ yh≤0 by omega)]
         unfold flE LN.quoL LN.quoH
         rw [if_neg (show ¬ yl≤0 by omega),if_neg (show ¬ xl < 0 by omega),if_neg (show ¬ xh < 0 by omega)]
        have hsame:=same_itx (xl * (dy:Int) / (yh * (dx:Int))) (xh * (dy:Int) / (yl * (dx:Int)))
        clear Hf
        generalize xl * (dy:Int) / (yh * (dx:Int))=q1 at *
        generalize xh * (dy:Int) / (yl * (dx:Int))=q2 at *
        by_cases hqq:q1=q2
        ·rw [if_pos hqq] at hfl
         rw [decide_eq_true hqq] at hsame
         have Hans:=Lib.hid (Hspec.out _ hfl)
         clear hfl hqq Hspec Hnx
         go_wp2_with fail
         go_ret
         exact ⟨⟨q1,rfl,Hans.out⟩,B9.out⟩
        ·rw [if_neg hqq] at hfl
         rw [decide_eq_false hqq] at hsame
         obtain ⟨hn2,hp2⟩:=Hnx.out hfl
         have Hp2:=Lib.hid hp2
         clear hfl hqq Hspec Hnx hp2
         go_wp2_with fail
         go_roundw
         case rel=>exact ⟨n * 2,Hp2,hn2,rfl,B9,T1,T2,HX,HY⟩
         case measure=>simp [intOf]; omega
end Go.Proofs.YtpbapojnbmbdlaaGreatDoor

namespace Go.Proofs.YtpbapojnbmbdlaaGreatDoor
open Go.RowKit
theorem eLo_neg (f:Int→Nat) (l:List (Int×Int)):LN.eLo f (LN.negT l) = - LN.eHi f l∧LN.eHi f (LN.negT l) = - LN.eLo f l:=by
 rw [LN.eLo_eq,LN.eHi_eq,LN.eLo_eq,LN.eHi_eq,LN.negT_negT]
 omega
theorem sumT_neg (f:Int→Nat) (l:List (Int×Int)):LN.sumT f (LN.negT l) = - LN.sumT f l:=by
 rw [LN.sumT_eq,LN.sumT_eq,LN.negT_negT]
 omega
theorem ends_near (f:Int→Nat) (K:Nat) (l:List (Int×Int)) (h:∀ x∈l,x.2.natAbs≤K) :
  LN.eLo f l≤LN.sumT f l∧LN.sumT f l≤LN.eHi f l∧LN.eHi f l≤LN.sumT f l + (l.length * K:Nat)∧LN.sumT f l≤LN.eLo f l + (l.length * K:Nat):=by
 have h1:=LN.hiS_le f K l h
 have h2:=LN.hiS_le f K (LN.negT l) (by
  intro x hx
  obtain ⟨y,hy,rfl⟩:=List.mem_map.1 hx
  have:=h y hy
  show (-y.2).natAbs≤K
  omega)
 have e:(LN.negT l).length=l.length:=by simp [LN.negT]
 rw [e] at h2
 have h3:∀ l:List (Int×Int),LN.loS f l≤LN.hiS f l:=by
  intro l
  induction l with
  | nil=>exact Nat.le_refl _
  | cons x l ih =>
   rw [LN.loS,LN.hiS]
   refine Nat.add_le_add (Nat.mul_le_mul_left _ ?_) ih
   unfold LN.hiL; split <;> omega
 have h4:=h3 l
 have h5:=h3 (LN.negT l)
 rw [LN.eLo_eq,LN.eHi_eq,LN.sumT_eq]
 omega
theorem dotI_lin (a b:Int):∀ (u:List Int) (pr:List Int) (g h:Int→Int),LN.dotI u (pr.map fun p=>a * g p - b * h p)=a * LN.dotI u (pr.map g) - b * LN.dotI u (pr.map h)
 | [],_,_,_=>by simp [LN.dotI]
 | _ :: _,[],_,_=>by simp [LN.dotI]
 | c :: u,p :: pr,g,h=>by
  have ih:=dotI_lin a b u pr g h
  simp only [List.map_cons,LN.dotI]
  rw [ih]
  grind
theorem mul_abs_le {a b x y:Int} {W:Nat} (h1:x≤y + W) (h2:y≤x + W) (_:a=b):(a * x - b * y).natAbs≤a.natAbs * W:=by
 subst a
 rw [← Int.mul_sub,Int.natAbs_mul]
 exact Nat.mul_le_mul_left _ (by omega)
structure FNum (Kx Ky d g S R Wx Wy:Nat) (X:Nat):Prop where
 s:Wy < S
 r:X * g < R * (S - Wy)
 k:g * Kx + R * d * Ky≤LN.KA
 t:g * Wx + R * d * Wy < LN.SA
theorem quo_near {xl low Tx Ty:Int} {d g Wx Wy:Nat} (j:Int) (h1:Tx≤xl + Wx) (h2:xl≤Tx + Wx) (h3:Ty≤low + Wy) (h4:low≤Ty + Wy) (s:Bool) :
  (if s then j * (low * d)≤xl * g else xl * g < j * (low * d))→(if s then j * d * Ty≤g * Tx + (g * Wx + j.natAbs * d * Wy:Nat) else g * Tx - (g * Wx + j.natAbs * d * Wy:Nat)≤j * d * Ty):=by
 intro h
 have a1:=mul_abs_le (a:=(g:Int)) (b:=g) h1 h2 rfl
 have a2:=mul_abs_le (a:=j * (d:Int)) (b:=j * d) h3 h4 rfl
 rw [Int.natAbs_natCast] at a1
 rw [Int.natAbs_mul,Int.natAbs_natCast] at a2
 have e1:j * (low * (d:Int))=j * (d:Int) * low:=by grind
 have e2:xl * (g:Int)=(g:Int) * xl:=Int.mul_comm _ _
 rw [e1,e2] at h
 cases s with
 | true=>simp only [if_true] at h ⊢; omega
 | false =>
  rw [if_neg Bool.false_ne_true] at h ⊢
  omega
theorem flE_none {tx ty:List (Int×Int)} {f:Int→Nat} {Kx Ky d g S R X:Nat} (hd:0 < d) (hkx:∀ x∈tx,x.2.natAbs≤Kx) (hky:∀ x∈ty,x.2.natAbs≤Ky)
  (N:FNum Kx Ky d g S R (tx.length * Kx) (ty.length * Ky) X) (hS:(S:Int)≤LN.sumT f ty) (hX:(LN.eLo f tx).natAbs≤X∧(LN.eHi f tx).natAbs≤X)
  (hnone:flE (LN.eLo f tx) (LN.eHi f tx) (LN.eLo f ty) (LN.eHi f ty) g d=none):∃ j:Int,j.natAbs≤R∧(g * LN.sumT f tx - j * d * LN.sumT f ty).natAbs < LN.SA:=by
 obtain ⟨x1,x2,x3,x4⟩:=ends_near f Kx tx hkx
 obtain ⟨y1,y2,y3,y4⟩:=ends_near f Ky ty hky
 have hs:=N.s
 have ht:=N.t
 generalize tx.length * Kx=Wx at *
 generalize ty.length * Ky=Wy at *
 generalize LN.eLo f tx=xl at *
 generalize LN.eHi f tx=xh at *
 generalize LN.eLo f ty=yl at *
 generalize LN.eHi f ty=yh at *
 generalize LN.sumT f tx=Tx at *
 generalize LN.sumT f ty=Ty at *
 have hyl:0 < yl:=by omega
 unfold flE at hnone
 rw [if_neg (by omega)] at hnone
 -- a quotient is not too great
 have hR:∀ (x low:Int),x.natAbs≤X→((S - Wy:Nat):Int)≤low→(x * g / (low * d)).natAbs≤R:=by
  intro x low hx hl
  have hr:=N.r
  have hp:0 < low * (d:Int):=Int.mul_pos (by omega) (by omega)
  have h1:=Int.ediv_mul_le (x * (g:Int)) (show low * (d:Int)≠0 by omega)
  have h2:=Int.lt_ediv_add_one_mul_self (x * (g:Int)) hp
  have h3:(x * (g:Int)).natAbs≤X * g:=by rw [Int.natAbs_mul,Int.natAbs_natCast]; exact Nat.mul_le_mul_right _ hx
  have h4:((S - Wy:Nat):Int)≤low * (d:Int):=by
   have:low * 1≤low * (d:Int):=Int.mul_le_mul_of_nonneg_left (by omega) (by omega)
   omega
  generalize x * (g:Int) / (low * (d:Int))=q at *
  generalize low * (d:Int)=m at *
  generalize x * (g:Int)=v at *
  generalize X * g=V at *
  have hr2:(V:Int) < (R:Int) * ((S - Wy:Nat):Int):=by rw [← Int.natCast_mul]; exact Int.ofNat_lt.2 hr
  have hr3:(R:Int) * ((S - Wy:Nat):Int)≤(R:Int) * m:=Int.mul_le_mul_of_nonneg_left h4 (by omega)
  refine Nat.le_of_not_lt fun hc=>?_
  rcases Int.lt_or_le q 0 with hq | hq
  ·have h5:(q + 1) * m≤(-(R:Int)) * m:=Int.mul_le_mul_of_nonneg_right (by omega) (by omega)
   rw [Int.neg_mul] at h5
   omega
  ·have h5:(R:Int) * m≤q * m:=Int.mul_le_mul_of_nonneg_right (by omega) (by omega)
   omega
 have fin:∀ j:Int,j.natAbs≤R→j * d * Ty≤g * Tx + (g * Wx + j.natAbs * d * Wy:Nat)→g * Tx - (g * Wx + j.natAbs * d * Wy:Nat)≤j * d * Ty→(g * Tx - j * d * Ty).natAbs < LN.SA:=by
  intro j hj h1 h2
  have h3:j.natAbs * d * Wy≤R * d * Wy:=Nat.mul_le_mul_right _ (Nat.mul_le_mul_right _ hj)
  omega
 -- what low and high are
 obtain ⟨low,hlow,hl1,hl2,hl3⟩:∃ low,(if xl < 0 then yl else yh)=low∧Ty≤low + Wy∧low≤Ty + Wy∧((S - Wy:Nat):Int)≤low:=by
  by_cases h:xl < 0
  ·exact ⟨yl,if_pos h,by omega,by omega,by omega⟩
  ·exact ⟨yh,if_neg h,by omega,by omega,by omega⟩
 obtain ⟨high,hhigh,hh1,hh2,hh3⟩:∃ high,(if xh < 0 then yh else yl)=high∧Ty≤high + Wy∧high≤Ty + Wy∧((S - Wy:Nat):Int)≤high:=by
  by_cases h:xh < 0
  ·exact ⟨yh,if_pos h,by omega,by omega,by omega⟩
  ·exact ⟨yl,if_neg h,by omega,by omega,by omega⟩
 have hq:=hR xl low hX.1 hl3
 have hr:=hR xh high hX.2 hh3
 have p1:0 < low * (d:Int):=Int.mul_pos (by omega) (by omega)
 have p2:0 < high * (d:Int):=Int.mul_pos (by omega) (by omega)
 have q1:=Int.ediv_mul_le (xl * (g:Int)) (show low * (d:Int)≠0 by omega)
 have q2:=Int.lt_ediv_add_one_mul_self (xl * (g:Int)) p1
 have r1:=Int.ediv_mul_le (xh * (g:Int)) (show high * (d:Int)≠0 by omega)
 have r2:=Int.lt_ediv_add_one_mul_self (xh * (g:Int)) p2
 unfold LN.quoL LN.quoH at hnone
 rw [hlow,hhigh] at hnone
 generalize xl * (g:Int) / (low * (d:Int))=q at *
 generalize xh * (g:Int) / (high * (d:Int))=r at *
 have hne:q≠r:=fun e=>by rw [if_pos e] at hnone; cases hnone
 rcases Int.lt_or_gt_of_ne hne with h | h
 ·refine ⟨r,hr,fin r hr ?_ ?_⟩
  ·have:=quo_near (xl:=xh) (low:=high) (Tx:=Tx) (Ty:=Ty) (d:=d) (g:=g) (Wx:=Wx) (Wy:=Wy) r (by omega) (by omega) hh1 hh2 true (by simpa using r1)
   simpa using this
  ·have h5:(q + 1) * (low * (d:Int))≤r * (low * (d:Int)):=Int.mul_le_mul_of_nonneg_right (by omega) (by omega)
   have:=quo_near (xl:=xl) (low:=low) (Tx:=Tx) (Ty:=Ty) (d:=d) (g:=g) (Wx:=Wx) (Wy:=Wy) r (by omega) (by omega) hl1 hl2 false (by rw [if_neg Bool.false_ne_true]; omega)
   rw [if_neg Bool.false_ne_true] at this
   exact this
 ·refine ⟨q,hq,fin q hq ?_ ?_⟩
  ·have:=quo_near (xl:=xl) (low:=low) (Tx:=Tx) (Ty:=Ty) (d:=d) (g:=g) (Wx:=Wx) (Wy:=Wy) q (by omega) (by omega) hl1 hl2 true (by simpa using q1)
   simpa using this
  ·have h5:(r + 1) * (high * (d:Int))≤q * (high * (d:Int)):=Int.mul_le_mul_of_nonneg_right (by omega) (by omega)
   have:=quo_near (xl:=xh) (low:=high) (Tx:=Tx) (Ty:=Ty) (d:=d) (g:=g) (Wx:=Wx) (Wy:=Wy) q (by omega) (by omega) hh1 hh2 false (by rw [if_neg Bool.false_ne_true]; omega)
   rw [if_neg Bool.false_ne_true] at this
   exact this
end Go.Proofs.YtpbapojnbmbdlaaGreatDoor

namespace Go.Proofs.YtpbapojnbmbdlaaGreatDoor
open Go.RowKit
def GivesC (f:FuncId) (args:Array Value) (w:World) (code:Int) (l:List Rat):Prop :=
 Calls Tryz.prog f args w fun e w'=>∃ a c,e = .returned (.tuple #[.slice a (if code=0 then l.length else 0) c,.int .i64 code])∧(code=0→Rd w' a (cellsQ l))∧Below w.heap.size w w'
def sumCode (l:List Rat):Int:=if shortAll l=true then 0 else 4
theorem GivesSum.code {f:FuncId} {args:Array Value} {w:World} {l:List Rat} (h:GivesSum f args w l):GivesC f args w (sumCode l) l:=by
 unfold GivesSum at h
 unfold GivesC sumCode
 by_cases hs:shortAll l=true
 ·rw [if_pos hs] at h ⊢
  refine Calls.mono h ?_
  rintro e w' ⟨a,c,rfl,hr,hb⟩
  exact ⟨a,c,rfl,fun _=>hr,hb⟩
 ·rw [if_neg hs] at h ⊢
  refine Calls.mono h ?_
  rintro e w' ⟨rfl,hb⟩
  exact ⟨none,0,rfl,fun h4=>absurd h4 (by decide),hb⟩
theorem GivesErr.code {f:FuncId} {args:Array Value} {w:World} {code:Int} (hc:code≠0) (l:List Rat) (h:GivesErr f args w code):GivesC f args w code l:=by
 unfold GivesC
 rw [if_neg hc]
 refine Calls.mono h ?_
 rintro e w' ⟨rfl,hb⟩
 exact ⟨none,0,rfl,fun h4=>absurd h4 hc,hb⟩
theorem GivesC.lower {f:FuncId} {args:Array Value} {w:World} {code:Int} {l:List Rat} (h:GivesC f args w code l):∃ z:Nat,Calls Tryz.prog f args w fun e w'=>∃ a c,e = .returned (.tuple #[.slice a z c,.int .i64 code])∧(code=0→Rd w' a (cellsQ l))∧Below w.heap.size w w':=⟨_,h⟩
set_option maxRecDepth 100000 in
set_option maxHeartbeats 8000000 in
theorem add_gen (w:World) (ps:List Int) (a0 a1 a2:Option Addr) (c0 c1 c2:Nat) (la lb:List Rat) (rp:Rd w a0 (ints ps)) (hi:I64s ps) (hp:pcode ps=0) (r1:Rd w a1 (cellsQ la)) (r2:Rd w a2 (cellsQ lb)) (l1:la.length=ps.length) (l2:lb.length=ps.length)
  (s1:∀ q∈la,Sm 30 q) (s2:∀ q∈lb,Sm 30 q) (L:Laid w) :
  GivesC 55 #[.slice a0 ps.length c0,.slice a1 la.length c1,.slice a2 lb.length c2] w (sumCode (sumQ ps.length [la,lb] [1,((1:Int):Rat)])) (sumQ ps.length [la,lb] [1,((1:Int):Rat)]):=by
 obtain ⟨u,hu⟩:∃ q:Rat,q=1:=⟨_,rfl⟩
 obtain ⟨v,hv⟩:∃ q:Rat,q=((1:Int):Rat):=⟨_,rfl⟩
 rw [← hv,← hu]
 have Hc:Hid (∀ W g1 g2,Below w.heap.size w W→W.heap[g1]?=some (.cells #[.slice a1 la.length c1,.slice a2 lb.length c2] 50 (0,0))→W.heap[g2]?=some (.cells #[.string (itx u.num),.string (dec u.den),.string (itx v.num),.string (dec v.den)] 92 (0,0)) →
   GivesC 89 #[.slice a0 ps.length c0,.slice (some ⟨g1,0,none⟩) 2 2,.slice (some ⟨g2,0,none⟩) 2 2] W (sumCode (sumQ ps.length [la,lb] [u,v])) (sumQ ps.length [la,lb] [u,v])):=fun W g1 g2 hW h1 h2 =>
  (combine_fine W a0 _ _ c0 2 2 ps [la,lb] [u,v] (rp.below hW nr_) hi hp (rdl_two (l1:=la.map qs) (l2:=lb.map qs) (by rw [List.length_map,List.length_map]; exact h1) (r1.below hW nr_) (r2.below hW nr_)) (by simp)
   (by intro l hl; simp only [List.mem_cons,List.not_mem_nil,or_false] at hl; rcases hl with rfl | rfl; exact ⟨l1,s1⟩; exact ⟨l2,s2⟩) (rd_obj h2) rfl
   (by intro q hq; simp only [List.mem_cons,List.not_mem_nil,or_false] at hq; rcases hq with rfl | rfl; subst hu; exact Sm.le (D:=1) ⟨by decide +kernel,by decide +kernel⟩ (by decide); subst hv; exact Sm.le (D:=2) ⟨by decide +kernel,by decide +kernel⟩ (by decide)) (L.below hW)).code
 have N1:Hid (∀ W,Below w.heap.size w W→Gives Tryz.prog 90 #[.int .i64 1] W (fr u)):=fun W hW=>by subst hu; exact numberR W 1 (by decide) (by decide) (L.below hW)
 have N2:Hid (∀ W,Below w.heap.size w W→Gives Tryz.prog 90 #[.int .i64 1] W (fr v)):=fun W hW=>by subst hv; exact numberR W 1 (by decide) (by decide) (L.below hW)
 unfold fr fv at N1 N2
 unfold GivesC at Hc ⊢
 clear hu hv rp hi hp r1 r2 l1 l2 s1 s2 L
 generalize sumQ ps.length [la,lb] [u,v]=S at *
 generalize sumCode S=code at *
 generalize (if code=0 then S.length else 0)=z at *
 generalize ps.length=n at *
 generalize la.length=na at *
 generalize lb.length=nb at *
 have B0:=Lib.hid ((Below.refl w.heap.size w).alloc nr_ (.cells #[.slice a1 na c1,.slice a2 nb c2] 50))
 have K0:=Lib.hid (heap_at w #[.slice a1 na c1,.slice a2 nb c2] 50 _ rfl)
 go_enter Tryz.func55,Tryz.ntmps55
 go_wp2_with fail
 generalize w.alloc (.cells #[.slice a1 na c1,.slice a2 nb c2] 50)=w0 at *
 refine Calls.mono (N1.out _ B0.out) ?_
 rintro e w1 ⟨rfl,hb⟩
 have B1:=Lib.hid (B0.out.trans (hb.mono B0.out.size))
 have K1:=Lib.hid (heap_kept K0.out hb nr_)
 clear hb B0 K0
 go_wp2_with fail
 refine Calls.mono (N2.out _ B1.out) ?_
 rintro e w2 ⟨rfl,hb⟩
 have B2:=Lib.hid (B1.out.trans (hb.mono B1.out.size))
 have K2:=Lib.hid (heap_kept K1.out hb nr_)
 clear hb B1 K1 N1 N2
 go_wp2_with fail
 have B3:=Lib.hid (B2.out.alloc B2.out.size (.cells #[.string (itx u.num),.string (dec u.den),.string (itx v.num),.string (dec v.den)] 92))
 have K3:=Lib.hid (heap_old K2.out (.cells #[.string (itx u.num),.string (dec u.den),.string (itx v.num),.string (dec v.den)] 92))
 have M3:=Lib.hid (heap_at w2 #[.string (itx u.num),.string (dec u.den),.string (itx v.num),.string (dec v.den)] 92 _ rfl)
 generalize w2.alloc (.cells #[.string (itx u.num),.string (dec u.den),.string (itx v.num),.string (dec v.den)] 92)=w3 at *
 refine Calls.mono (Hc.out _ _ _ B3.out K3.out M3.out) ?_
 rintro e w4 ⟨a,c,rfl,hr,hb⟩
 have Hr:=Lib.hid hr
 have B4:=Lib.hid (B3.out.trans (hb.mono B3.out.size))
 clear hr hb Hc B2 K2 B3 K3 M3
 go_wp2_with fail
 go_ret2
 exact ⟨a,c,rfl,Hr.out,B4.out⟩
end Go.Proofs.YtpbapojnbmbdlaaGreatDoor

namespace Go.Proofs.YtpbapojnbmbdlaaGreatDoor
open Go.RowKit
theorem sumQ_two (n:Nat) (la lb:List Rat) (f g:Rat) (h1:la.length=n) (h2:lb.length=n):sumQ n [la,lb] [f,g]=combineQ la lb f g:=by
 show addTo (addTo (List.replicate n 0) la f) lb g=_
 refine List.ext_getElem (by simp [addTo,combineQ,h1,h2]) fun i hi1 hi2=>?_
 simp only [addTo,combineQ,List.getElem_zipWith,List.getElem_replicate,Rat.zero_add]
theorem combineQ_sm {la lb:List Rat} {f g:Rat} {D E F G:Nat} (h1:∀ q∈la,Sm D q) (h2:∀ q∈lb,Sm E q) (hf:Sm F f) (hg:Sm G g):∀ q∈combineQ la lb f g,Sm ((D + F) + (E + G) + 1) q:=by
 intro q hq
 obtain ⟨i,hi,rfl⟩:=List.mem_iff_getElem.1 hq
 simp only [combineQ,List.getElem_zipWith]
 have hi':i < la.length∧i < lb.length:=by simp [combineQ] at hi; omega
 exact Sm.add (Sm.mul (h1 _ (List.getElem_mem hi'.1)) hf) (Sm.mul (h2 _ (List.getElem_mem hi'.2)) hg)
theorem shortAll_sm {l:List Rat} {D:Nat} (h:∀ q∈l,Sm D q) (hD:D≤30):shortAll l=true:=by
 unfold shortAll
 rw [List.all_eq_true]
 intro q hq
 exact decide_eq_true ((h q hq).le hD)
theorem sm_one:Sm 1 (1:Rat):=⟨by decide +kernel,by decide +kernel⟩
theorem sumCode_small (la lb:List Rat) (g:Rat) (h1:∀ q∈la,Sm 2 q) (h2:∀ q∈lb,Sm 2 q) (hg:Sm 1 g):sumCode (combineQ la lb 1 g)=0:=by
 unfold sumCode
 rw [if_pos (shortAll_sm (combineQ_sm h1 h2 sm_one hg) (by decide))]
end Go.Proofs.YtpbapojnbmbdlaaGreatDoor

namespace Go.Proofs.YtpbapojnbmbdlaaGreatDoor
open Go.RowKit
def Sml (N M:Nat) (l:List Rat):Prop:=∀ q∈l,q.den ∣ M∧(LN.ex M q).natAbs≤N
theorem Sml.le {N K M:Nat} {l:List Rat} (h:Sml N M l) (hK:N≤K):Sml K M l:=fun q hq=>⟨(h q hq).1,Nat.le_trans (h q hq).2 hK⟩
theorem ex_den {M:Nat} {q:Rat} (z:Int) (hM:0 < M) (h:q * (M:Rat)=(z:Rat)):q.den ∣ M∧LN.ex M q=z:=by
 have hM':(M:Rat)≠0:=by have:=Rat.natCast_pos.2 hM; grind
 have e:q=mkRat z M:=by
  rw [Rat.mkRat_eq_div]
  have:=Rat.mul_div_cancel (a:=q) hM'
  rw [← h]; exact this.symm
 have hd:q.den ∣ M:=by
  rw [e,LN.mkRat_den' _ _ (by omega)]
  exact Nat.div_dvd_of_dvd (Nat.gcd_dvd_right _ _)
 refine ⟨hd,?_⟩
 rw [← Rat.intCast_inj,LN.ex_eq hd,h]
theorem Sml.comb {N K M:Nat} {la lb:List Rat} (hM:0 < M) (ha:Sml N M la) (hb:Sml K M lb) (f g:Int):Sml (N * f.natAbs + K * g.natAbs) M (combineQ la lb (f:Rat) (g:Rat)):=by
 intro q hq
 obtain ⟨i,hi,rfl⟩:=List.mem_iff_getElem.1 hq
 have hi':i < la.length∧i < lb.length:=by simp [combineQ] at hi; omega
 simp only [combineQ,List.getElem_zipWith]
 obtain ⟨d1,n1⟩:=ha _ (List.getElem_mem hi'.1)
 obtain ⟨d2,n2⟩:=hb _ (List.getElem_mem hi'.2)
 have h:(la[i]'hi'.1 * (f:Rat) + lb[i]'hi'.2 * (g:Rat)) * (M:Rat)=((LN.ex M (la[i]'hi'.1) * f + LN.ex M (lb[i]'hi'.2) * g:Int):Rat):=by
  rw [Rat.intCast_add,Rat.intCast_mul,Rat.intCast_mul,LN.ex_eq d1,LN.ex_eq d2]
  grind
 obtain ⟨r1,r2⟩:=ex_den _ hM h
 refine ⟨r1,?_⟩
 rw [r2]
 refine Nat.le_trans (Int.natAbs_add_le _ _) ?_
 rw [Int.natAbs_mul,Int.natAbs_mul]
 exact Nat.add_le_add (Nat.mul_le_mul_right _ n1) (Nat.mul_le_mul_right _ n2)
theorem Sml.good {N M:Nat} {ps:List Int} {l:List Rat} (hM:0 < M) (h:Sml N M l) (hN:N≤Kb) (h1:∀ p∈ps,p∈smallP) (h2:ps.Nodup):Good ps l:=by
 refine ⟨h1,h2,fun x hx=>?_⟩
 obtain ⟨_,q,hq,_,he⟩:=tlist_mem hx
 have e:x.2=LN.ex (tden l) q:=he
 obtain ⟨m,hm⟩:=LN.tden_min (fun q hq=>(h q hq).1)
 have h3:=(h q hq).2
 rw [hm,Nat.mul_comm,LN.ex_mul (LN.tden_dvd hq),Int.natAbs_mul,Int.natAbs_natCast] at h3
 have hm0:0 < m:=by
  rcases Nat.eq_zero_or_pos m with h0 | h0
  ·rw [h0,Nat.mul_zero] at hm; omega
  ·exact h0
 rw [e]
 have h4:1 * (LN.ex (tden l) q).natAbs≤m * (LN.ex (tden l) q).natAbs:=Nat.mul_le_mul_right _ hm0
 omega
theorem sz_ne {ps:List Int} {l:List Rat} (g:Good ps l) (hn:ps.length≤100) (hl:l.length=ps.length) (h:∃ q∈l,q≠0):LN.sz ps l≠0:=by
 have hne:tlQ ps l≠[]:=by
  obtain ⟨q,hq,h0⟩:=h
  obtain ⟨i,hi,rfl⟩:=List.mem_iff_getElem.1 hq
  intro e
  have hm:(ps[i]'(by omega),l[i].num * ((tden l / l[i].den:Nat):Int))∈tlQ ps l:=by
   unfold tlQ tlist
   refine List.mem_filterMap.2 ⟨(ps[i]'(by omega),l[i]),?_,?_⟩
   ·exact List.mem_iff_getElem.2 ⟨i,by simp; omega,by simp⟩
   ·rw [if_neg]
    intro hz
    exact h0 (Rat.num_eq_zero.1 hz)
  rw [e] at hm
  cases hm
 show LN.signT (tlQ ps l)≠0
 rcases g.dec hn hne with h | h
 ·rw [sign_of_lo g.trt (by decide) hne h]; decide
 ·rw [sign_of_hi g.trt (by decide) hne h]; decide
end Go.Proofs.YtpbapojnbmbdlaaGreatDoor

namespace Go.Proofs.YtpbapojnbmbdlaaGreatDoor
open Go.RowKit
theorem smallP_nd:smallP.Nodup:=by decide
theorem coefs_small {tx ty:List (Int×Int)} {d g Kx Ky R:Nat} {j:Int} (mx:∀ x∈tx,x.1∈smallP) (my:∀ x∈ty,x.1∈smallP) (nx:(tx.map Prod.fst).Nodup) (ny:(ty.map Prod.fst).Nodup)
  (hkx:∀ x∈tx,x.2.natAbs≤Kx) (hky:∀ x∈ty,x.2.natAbs≤Ky) (hj:j.natAbs≤R) (hk:g * Kx + R * d * Ky≤LN.KA)
  (h:(g * LN.sumT (lf 1024) tx - j * d * LN.sumT (lf 1024) ty).natAbs < LN.SA):∀ p∈smallP,(g:Int) * LN.coefP p tx=j * d * LN.coefP p ty:=by
 have hc:=LN.certA_ok
 rw [← certL_eq] at hc
 rw [← LN.dotI_coef (lf 1024) smallP smallP_nd tx mx,← LN.dotI_coef (lf 1024) smallP smallP_nd ty my,← dotI_lin] at h
 have hz:=LN.cert_zero hc (smallP.map fun p=>(g:Int) * LN.coefP p tx - j * d * LN.coefP p ty) (by simp) (by
  intro x hx
  obtain ⟨p,_,rfl⟩:=List.mem_map.1 hx
  have b1:=LN.coefP_le Kx tx nx hkx p
  have b2:=LN.coefP_le Ky ty ny hky p
  have c1:((g:Int) * LN.coefP p tx).natAbs≤g * Kx:=by rw [Int.natAbs_mul,Int.natAbs_natCast]; exact Nat.mul_le_mul_left _ b1
  have c2:(j * d * LN.coefP p ty).natAbs≤R * d * Ky:=by
   rw [Int.natAbs_mul,Int.natAbs_mul,Int.natAbs_natCast]
   exact Nat.mul_le_mul (Nat.mul_le_mul_right _ hj) b2
  omega) h
 intro p hp
 have:=hz _ (List.mem_map.2 ⟨p,hp,rfl⟩)
 omega
theorem sum_far' {a dd:Int} {U V:List (List Int)} {K S:Nat} (hb:LN.certOk a LN.certL U V dd K S=true) {ty:List (Int×Int)} (my:∀ x∈ty,x.1∈smallP) (ny:(ty.map Prod.fst).Nodup) (h0:∀ x∈ty,x.2≠0) (hne:ty≠[]) (hky:∀ x∈ty,x.2.natAbs≤K):S≤(LN.sumT (lf 1024) ty).natAbs:=by
 refine Nat.le_of_not_lt fun hc=>?_
 rw [← certL_eq] at hb
 rw [← LN.dotI_coef (lf 1024) smallP smallP_nd ty my] at hc
 have hz:=LN.cert_zero hb (smallP.map fun p=>LN.coefP p ty) (by simp) (by
  intro x hx
  obtain ⟨p,_,rfl⟩:=List.mem_map.1 hx
  exact LN.coefP_le _ ty ny hky p) hc
 match ty,hne with
 | x :: l,_ =>
  have h5:=hz _ (List.mem_map.2 ⟨x.1,my x List.mem_cons_self,rfl⟩)
  rw [LN.coefP_mem _ ny x List.mem_cons_self] at h5
  exact h0 x List.mem_cons_self h5
theorem sum_far {ty:List (Int×Int)} (my:∀ x∈ty,x.1∈smallP) (ny:(ty.map Prod.fst).Nodup) (h0:∀ x∈ty,x.2≠0) (hne:ty≠[]) (hky:∀ x∈ty,x.2.natAbs≤LN.KB):LN.SB≤(LN.sumT (lf 1024) ty).natAbs :=
 sum_far' LN.certB_ok my ny h0 hne hky
theorem coefP_tlist {D:Nat}:∀ (ps:List Int) (l:List Rat),ps.Nodup→l.length=ps.length→∀ (i:Nat) (h1:i < ps.length) (h2:i < l.length),LN.coefP ps[i] (tlist D ps l)=LN.ex D l[i]
 | [],_,_,_,i,h1,_=>absurd h1 (Nat.not_lt_zero i)
 | p :: ps,[],_,h,_,_,_=>by simp at h
 | p :: ps,q :: l,hd,hl,i,h1,h2=>by
  simp only [List.nodup_cons] at hd
  have key:tlist D (p :: ps) (q :: l)=(if q.num=0 then tlist D ps l else (p,LN.ex D q) :: tlist D ps l):=by
   unfold tlist
   rw [List.zip_cons_cons,List.filterMap_cons]
   by_cases h:q.num=0
   ·simp only [h,if_true]
   ·simp only [h,if_false]; rfl
  have hnot:LN.coefP p (tlist D ps l)=0:=LN.coefP_none p _ fun hm=>hd.1 ((tlist_fst D ps l).subset hm)
  rw [key]
  cases i with
  | zero =>
   simp only [List.getElem_cons_zero]
   by_cases h:q.num=0
   ·rw [if_pos h,hnot,LN.ex_zero q h]
   ·rw [if_neg h,LN.coefP,if_pos rfl,hnot]; simp
  | succ i =>
   simp only [List.getElem_cons_succ]
   have h1':i < ps.length:=by simpa using h1
   have h2':i < l.length:=by simpa using h2
   have ih:=coefP_tlist (D:=D) ps l hd.2 (by simpa using hl) i h1' h2'
   by_cases h:q.num=0
   ·rw [if_pos h]; exact ih
   ·rw [if_neg h,LN.coefP,if_neg (fun e:p=ps[i]=>hd.1 (by rw [e]; exact List.getElem_mem h1')),ih]; simp
theorem mult_of_coefs {ps:List Int} {la lb:List Rat} {j:Int} (hnd:ps.Nodup) (hps:∀ p∈ps,p∈smallP) (l1:la.length=ps.length) (l2:lb.length=ps.length)
  (h:∀ p∈smallP,((tden lb:Nat):Int) * LN.coefP p (tlQ ps la)=j * ((tden la:Nat):Int) * LN.coefP p (tlQ ps lb)):la=lb.map fun x=>(j:Rat) * x:=by
 refine List.ext_getElem (by simp; omega) fun i h1 h2=>?_
 have i2:i < lb.length:=by omega
 have i3:i < ps.length:=by omega
 have e:=h ps[i] (hps _ (List.getElem_mem i3))
 unfold tlQ at e
 rw [coefP_tlist ps la hnd l1 i i3 h1,coefP_tlist ps lb hnd l2 i i3 i2] at e
 rw [List.getElem_map]
 have e2:(((tden lb:Nat):Int) * LN.ex (tden la) la[i]:Int)=((j * ((tden la:Nat):Int) * LN.ex (tden lb) lb[i]:Int)):=e
 have e3:((((tden lb:Nat):Int) * LN.ex (tden la) la[i]:Int):Rat)=((j * ((tden la:Nat):Int) * LN.ex (tden lb) lb[i]:Int):Rat):=by rw [e2]
 rw [Rat.intCast_mul,Rat.intCast_mul,Rat.intCast_mul,LN.ex_eq (LN.tden_dvd (List.getElem_mem h1)),LN.ex_eq (LN.tden_dvd (List.getElem_mem i2)),Rat.intCast_natCast,Rat.intCast_natCast] at e3
 have n1:((tden la:Nat):Rat)≠0:=by have:=Rat.natCast_pos.2 (LN.tden_pos' la); grind
 have n2:((tden lb:Nat):Rat)≠0:=by have:=Rat.natCast_pos.2 (LN.tden_pos' lb); grind
 generalize ((tden la:Nat):Rat)=a at *
 generalize ((tden lb:Nat):Rat)=b at *
 have hab:a * b≠0:=by
  intro hz
  rcases Rat.mul_eq_zero.1 hz with h | h
  ·exact n1 h
  ·exact n2 h
 have e4:(a * b) * la[i]=(a * b) * ((j:Rat) * lb[i]):=by grind
 have e5:=Rat.mul_inv_cancel (a * b) hab
 calc la[i]=(a * b) * (a * b)⁻¹ * la[i]:=by rw [e5,Rat.one_mul]
  _=(a * b)⁻¹ * ((a * b) * la[i]):=by grind
  _=(a * b)⁻¹ * ((a * b) * ((j:Rat) * lb[i])):=by rw [e4]
  _=(a * b) * (a * b)⁻¹ * ((j:Rat) * lb[i]):=by grind
  _=(j:Rat) * lb[i]:=by rw [e5,Rat.one_mul]
theorem ratio_mult {la lb:List Rat} {k:Rat} (h:la=lb.map fun x=>k * x):∀ n,(∃ i,i < n∧lb.getD i 0≠0)→ratioK la lb n=k
 | 0,⟨i,hi,_⟩=>absurd hi (Nat.not_lt_zero i)
 | n + 1,⟨i,hi,h0⟩=>by
  unfold ratioK
  by_cases hz:lb.getD n 0=0
  ·rw [if_pos hz]
   refine ratio_mult h n ⟨i,?_,h0⟩
   rcases Nat.lt_or_ge i n with hlt | hge
   ·exact hlt
   ·have:i=n:=by omega
    rw [this] at h0
    exact absurd hz h0
  ·rw [if_neg hz]
   have hlt:n < lb.length:=by
    refine Nat.lt_of_not_le fun hc=>hz ?_
    rw [List.getD_eq_getElem?_getD,List.getElem?_eq_none hc]; rfl
   have e:la.getD n 0=k * lb.getD n 0:=by
    rw [h,List.getD_eq_getElem?_getD,List.getD_eq_getElem?_getD,List.getElem?_map,List.getElem?_eq_getElem hlt]; rfl
   rw [e]
   generalize lb.getD n 0=x at *
   rw [Rat.div_def,Rat.mul_assoc,Rat.mul_inv_cancel x hz,Rat.mul_one]
theorem ratioB_mult {la lb:List Rat} {k:Rat} (h:la=lb.map fun x=>k * x) (n:Nat) (h0:∃ i,i < n∧lb.getD i 0≠0):ratioB la lb n (ratioK la lb n)=true:=by
 rw [ratio_mult h n h0]
 refine decide_eq_true fun j _=>?_
 rw [h,List.getD_eq_getElem?_getD,List.getD_eq_getElem?_getD,List.getElem?_map]
 cases lb[j]? with
 | none=>show k * 0=0; rw [Rat.mul_zero]
 | some x=>rfl
theorem flAt_dec {ps:List Int} {la lb:List Rat} {Kx Ky R X S:Nat} (hps:∀ p∈ps,p∈smallP) (hnd:ps.Nodup) (l1:la.length=ps.length) (l2:lb.length=ps.length) (hkx:∀ x∈tlQ ps la,x.2.natAbs≤Kx) (hky:∀ x∈tlQ ps lb,x.2.natAbs≤Ky)
  (hne:tlQ ps lb≠[]) (hS:S≤(LN.sumT (lf 1024) (tlQ ps lb)).natAbs)
  (N:FNum Kx Ky (tden la) (tden lb) S R ((tlQ ps la).length * Kx) ((tlQ ps lb).length * Ky) X) (hX:(LN.eLo (lf 1024) (tlQ ps la)).natAbs≤X∧(LN.eHi (lf 1024) (tlQ ps la)).natAbs≤X)
  (hr:ratioB la lb ps.length (ratioK la lb ps.length)=false):flAt 1024 (tlQ ps la) (tlQ ps lb) (tden la) (tden lb)≠none:=by
 intro hnone
 have mx:∀ x∈tlQ ps la,x.1∈smallP:=fun x hx=>hps _ (tlist_mem hx).1
 have my:∀ x∈tlQ ps lb,x.1∈smallP:=fun x hx=>hps _ (tlist_mem hx).1
 have nx:((tlQ ps la).map Prod.fst).Nodup:=(tlist_fst _ ps la).nodup hnd
 have ny:((tlQ ps lb).map Prod.fst).Nodup:=(tlist_fst _ ps lb).nodup hnd
 have key:∃ j:Int,j.natAbs≤R∧(((tden lb:Nat):Int) * LN.sumT (lf 1024) (tlQ ps la) - j * ((tden la:Nat):Int) * LN.sumT (lf 1024) (tlQ ps lb)).natAbs < LN.SA:=by
  have hd:=LN.tden_pos' la
  obtain ⟨y1,y2,y3,y4⟩:=ends_near (lf 1024) Ky (tlQ ps lb) hky
  have hs:=N.s
  unfold flAt flS at hnone
  rcases Int.lt_or_le 0 (LN.sumT (lf 1024) (tlQ ps lb)) with hT | hT
  ·rw [if_neg (by omega)] at hnone
   exact flE_none hd hkx hky N (by omega) hX hnone
  ·rw [if_pos (by omega)] at hnone
   have len1:(LN.negT (tlQ ps la)).length=(tlQ ps la).length:=by simp [LN.negT]
   have len2:(LN.negT (tlQ ps lb)).length=(tlQ ps lb).length:=by simp [LN.negT]
   obtain ⟨a1,a2⟩:=eLo_neg (lf 1024) (tlQ ps la)
   obtain ⟨b1,b2⟩:=eLo_neg (lf 1024) (tlQ ps lb)
   have kneg:∀ {l:List (Int×Int)} {K:Nat},(∀ x∈l,x.2.natAbs≤K)→∀ x∈LN.negT l,x.2.natAbs≤K:=by
    intro l K h x hx
    obtain ⟨y,hy,rfl⟩:=List.mem_map.1 hx
    have:=h y hy
    show (-y.2).natAbs≤K
    omega
   obtain ⟨j,hj,hz⟩:=flE_none (f:=lf 1024) (tx:=LN.negT (tlQ ps la)) (ty:=LN.negT (tlQ ps lb)) (S:=S) (R:=R) (X:=X) hd (kneg hkx) (kneg hky) (by rw [len1,len2]; exact N) (by rw [sumT_neg]; omega) (by rw [a1,a2]; omega) (by rw [a1,a2,b1,b2]; exact hnone)
   refine ⟨j,hj,?_⟩
   rw [sumT_neg,sumT_neg,Int.mul_neg,Int.mul_neg] at hz
   omega
 obtain ⟨j,hj,hz⟩:=key
 have hm:=mult_of_coefs hnd hps l1 l2 (coefs_small mx my nx ny hkx hky hj N.k hz)
 have h0:∃ i,i < ps.length∧lb.getD i 0≠0:=by
  refine Classical.byContradiction fun hc=>hne ?_
  have hall:∀ q∈lb,q=0:=fun q hq=>by
   obtain ⟨i,hi,rfl⟩:=List.mem_iff_getElem.1 hq
   refine Classical.byContradiction fun h=>hc ⟨i,by omega,?_⟩
   rw [List.getD_eq_getElem?_getD,List.getElem?_eq_getElem hi]; exact h
  refine List.eq_nil_iff_forall_not_mem.2 fun x hx=>?_
  obtain ⟨_,q,hq,hn,_⟩:=tlist_mem hx
  exact hn (by rw [hall q hq]; rfl)
 rw [ratioB_mult hm ps.length h0] at hr
 cases hr
end Go.Proofs.YtpbapojnbmbdlaaGreatDoor

namespace Go.Proofs.YtpbapojnbmbdlaaGreatDoor
open Go.RowKit
def RB:Nat:=2 ^ 104
def XB:Nat:=6 * 2 ^ (13 + (1024 + 3))
theorem num_s:6 * 4096 < LN.SB:=by decide +kernel
theorem num_r:XB * 12 < RB * (LN.SB - 6 * 4096):=by decide +kernel
theorem num_k:12 * 4096 + RB * 12 * 4096≤LN.KA:=by decide +kernel
theorem num_t:12 * (6 * 4096) + RB * 12 * (6 * 4096) < LN.SA:=by decide +kernel
theorem num_kb:4096≤LN.KB:=by decide +kernel
set_option maxRecDepth 100000 in
theorem fnum_small {d g nx ny S R X:Nat} (hd:d≤12) (hg:g≤12) (hx:nx≤6) (hy:ny≤6) (h1:6 * 4096 < S) (h2:X * 12 < R * (S - 6 * 4096)) (h3:12 * 4096 + R * 12 * 4096≤LN.KA) (h4:12 * (6 * 4096) + R * 12 * (6 * 4096) < LN.SA) :
  FNum 4096 4096 d g S R (nx * 4096) (ny * 4096) X:=by
 have b1:nx * 4096≤6 * 4096:=Nat.mul_le_mul_right _ hx
 have b2:ny * 4096≤6 * 4096:=Nat.mul_le_mul_right _ hy
 have b3:R * d≤R * 12:=Nat.mul_le_mul_left _ hd
 refine ⟨by clear h2 h3 h4; omega,?_,?_,?_⟩
 ·have c1:X * g≤X * 12:=Nat.mul_le_mul_left _ hg
  have c2:R * (S - 6 * 4096)≤R * (S - ny * 4096):=Nat.mul_le_mul_left _ (by clear h2 h3 h4; omega)
  clear h3 h4
  omega
 ·have c1:R * d * 4096≤R * 12 * 4096:=Nat.mul_le_mul_right _ b3
  clear h2 h4
  omega
 ·have c1:R * d * (ny * 4096)≤R * 12 * (6 * 4096):=Nat.mul_le_mul b3 b2
  have c2:g * (nx * 4096)≤12 * (6 * 4096):=Nat.mul_le_mul hg b1
  clear h2 h3
  omega
theorem Sml.kb {N M:Nat} {ps:List Int} {l:List Rat} (hM:0 < M) (h:Sml N M l):∀ x∈tlQ ps l,x.2.natAbs≤N:=by
 intro x hx
 obtain ⟨_,q,hq,_,he⟩:=tlist_mem hx
 have e:x.2=LN.ex (tden l) q:=he
 obtain ⟨m,hm⟩:=LN.tden_min (fun q hq=>(h q hq).1)
 have h3:=(h q hq).2
 rw [hm,Nat.mul_comm,LN.ex_mul (LN.tden_dvd hq),Int.natAbs_mul,Int.natAbs_natCast] at h3
 have hm0:0 < m:=by
  rcases Nat.eq_zero_or_pos m with h0 | h0
  ·rw [h0,Nat.mul_zero] at hm; omega
  ·exact h0
 rw [e]
 have h4:1 * (LN.ex (tden l) q).natAbs≤m * (LN.ex (tden l) q).natAbs:=Nat.mul_le_mul_right _ hm0
 omega
theorem Sml.den {N:Nat} {l:List Rat} (h:Sml N 12 l):tden l≤12:=Nat.le_of_dvd (by decide) (LN.tden_min (fun q hq=>(h q hq).1))
theorem tlQ_len6 {ps:List Int} (h:ps.length≤6) (l:List Rat):(tlQ ps l).length≤6:=Nat.le_trans (by have:=(tlist_fst (tden l) ps l).length_le; rw [List.length_map] at this; exact this) h
theorem tlQ_ne {ps:List Int} {l:List Rat} (hl:l.length=ps.length) (h:∃ q∈l,q≠0):tlQ ps l≠[]:=by
 obtain ⟨q,hq,h0⟩:=h
 obtain ⟨i,hi,rfl⟩:=List.mem_iff_getElem.1 hq
 intro e
 have hm:(ps[i]'(by omega),l[i].num * ((tden l / l[i].den:Nat):Int))∈tlQ ps l:=by
  unfold tlQ tlist
  refine List.mem_filterMap.2 ⟨(ps[i]'(by omega),l[i]),?_,?_⟩
  ·exact List.mem_iff_getElem.2 ⟨i,by simp; omega,by simp⟩
  ·rw [if_neg]
   intro hz
   exact h0 (Rat.num_eq_zero.1 hz)
 rw [e] at hm
 cases hm
theorem x_bound {tl:List (Int×Int)} (hp:PrT tl) (hl:tl.length≤6) (hk:∀ x∈tl,x.2.natAbs < 2 ^ 13):(LN.eLo (lf 1024) tl).natAbs≤XB∧(LN.eHi (lf 1024) tl).natAbs≤XB:=by
 obtain ⟨h1,h2⟩:=eSum_le (n:=1024) (by decide) tl hp hk
 unfold XB
 have h3:=@Nat.mul_le_mul_right tl.length 6 (2 ^ (13 + (1024 + 3))) hl
 exact ⟨Nat.le_trans h1 h3,Nat.le_trans h2 h3⟩
theorem flr_small {ps:List Int} {la lb:List Rat} (hps:∀ p∈ps,p∈smallP) (hnd:ps.Nodup) (h6:ps.length≤6) (l1:la.length=ps.length) (l2:lb.length=ps.length) (ha:Sml 4096 12 la) (hb:Sml 4096 12 lb) (h0:∃ q∈lb,q≠0):FlrOk ps la lb 13:=by
 have kx:=ha.kb (ps:=ps) (by decide)
 have ky:=hb.kb (ps:=ps) (by decide)
 have kx':∀ x∈tlQ ps la,x.2.natAbs < 2 ^ 13:=fun x hx=>Nat.lt_of_le_of_lt (kx x hx) (by decide)
 have ky':∀ x∈tlQ ps lb,x.2.natAbs < 2 ^ 13:=fun x hx=>Nat.lt_of_le_of_lt (ky x hx) (by decide)
 have my:∀ x∈tlQ ps lb,x.1∈smallP:=fun x hx=>hps _ (tlist_mem hx).1
 have hne:=tlQ_ne l2 h0
 refine ⟨hps,h6,kx',ky',Nat.lt_of_le_of_lt ha.den (by decide),Nat.lt_of_le_of_lt hb.den (by decide),by decide,sz_ne (hb.good (by decide) (by decide) hps hnd) (by omega) l2 h0,fun hr=>?_⟩
 exact flAt_dec hps hnd l1 l2 kx ky hne (sum_far my ((tlist_fst _ ps lb).nodup hnd) (fun _ hx=>tlQ_nz hx) hne fun x hx=>Nat.le_trans (ky x hx) num_kb)
  (fnum_small ha.den hb.den (tlQ_len6 h6 la) (tlQ_len6 h6 lb) num_s num_r num_k num_t) (x_bound (fun x hx=>smallP_pr (hps _ (tlist_mem hx).1)) (tlQ_len6 h6 la) kx') hr
theorem zw_sub {la lb:List Rat} (q r:Int) (h:la.length=lb.length):LN.subQ r la lb=List.zipWith (· + ·) (LN.subQ q la lb) (lb.map fun x=>(((q - r:Int)):Rat) * x):=by
 obtain ⟨m,hm⟩:∃ m:Rat,(((q - r:Int)):Rat)=m:=⟨_,rfl⟩
 have e:=Rat.intCast_sub q r
 rw [hm] at e ⊢
 clear hm
 refine List.ext_getElem (by simp [LN.subQ,h]) fun i h1 h2=>?_
 simp only [LN.subQ,List.getElem_zipWith,List.getElem_map]
 grind
theorem sz_lt_le {ps:List Int} {a b c:List Rat} (hp:∀ p∈ps,0 < p) (hab:a.length=b.length) (hc:c=List.zipWith (· + ·) a b):(LN.sz ps a < 0→LN.sz ps b≤0→LN.sz ps c < 0)∧(0 < LN.sz ps a→0≤LN.sz ps b→0 < LN.sz ps c):=by
 obtain ⟨x,y,hx,hy,e1,e2,e3⟩:=LN.sz_sum hp hab hc
 rw [e1,e2,e3]
 constructor
 ·intro h1 h2
  have h3:LN.sg x = -1:=by rcases LN.sg_cases x with h | h | h <;> omega
  rw [LN.sg_low.2 (LN.mul_lt_one hx (LN.sg_low.1 h3) (LN.sg_le.1 h2))]
  decide
 ·intro h1 h2
  have h3:LN.sg x=1:=by rcases LN.sg_cases x with h | h | h <;> omega
  rw [LN.sg_pos.2 (LN.one_lt_mul (LN.sg_pos.1 h3) (LN.sg_ge.1 h2))]
  decide
theorem szc {ps:List Int} (hp:∀ p∈ps,0 < p) (l:List Rat):LN.sz ps l=1∨LN.sz ps l=0∨LN.sz ps l = -1:=by
 rw [LN.sz_of_vt hp]; exact LN.sg_cases _
theorem floor_lt {ps:List Int} {la lb:List Rat} (hp:∀ p∈ps,0 < p) (hl:la.length=lb.length) {q r:Int} (hq:LN.FloorOf ps la lb q) (hr:LN.FloorOf ps la lb r):r≤q:=by
 refine Int.not_lt.1 fun hlt=>?_
 have h1:=hq.2
 have h2:=hr.1
 have e:=zw_sub (q + 1) r hl (la:=la) (lb:=lb)
 have hlen:(LN.subQ (q + 1) la lb).length=(lb.map fun x=>(((q + 1 - r:Int)):Rat) * x).length:=by simp [LN.subQ,hl]
 obtain ⟨k1,k2⟩:=sz_lt_le hp hlen e
 rw [LN.sz_mul hp] at k1 k2
 have hs:(((q + 1 - r:Int)):Rat).num.sign=(q + 1 - r).sign:=by rw [Rat.num_intCast]
 rw [hs] at k1 k2
 have hn:(q + 1 - r).sign = -1∨(q + 1 - r).sign=0:=by
  rcases sign_cases (q + 1 - r) with h | h | h
  ·exact .inl h.2
  ·exact .inr h.2
  ·omega
 rcases szc hp lb with hw | hw | hw
 ·rw [hw] at h1 h2 k1
  have:=k1 (by omega) (by rcases hn with h | h <;> rw [h] <;> decide)
  omega
 ·rw [hw] at h1; omega
 ·rw [hw] at h1 h2 k2
  have:=k2 (by omega) (by rcases hn with h | h <;> rw [h] <;> decide)
  omega
theorem floor_one {ps:List Int} {la lb:List Rat} (hp:∀ p∈ps,0 < p) (hl:la.length=lb.length) {q r:Int} (hq:LN.FloorOf ps la lb q) (hr:LN.FloorOf ps la lb r):q=r:=by
 have h1:=floor_lt hp hl hq hr
 have h2:=floor_lt hp hl hr hq
 omega
theorem FlrOk.exists {ps:List Int} {la lb:List Rat} {E:Nat} (F:FlrOk ps la lb E) (l1:la.length=ps.length) (l2:lb.length=ps.length):∃ q,LN.FloorOf ps la lb q:=by
 cases hr:ratioB la lb ps.length (ratioK la lb ps.length) with
 | true=>exact ⟨_,ratio_floor F.pr l1 l2 hr F.nz⟩
 | false =>
  have h:=F.dec hr
  cases hf:flAt 1024 (tlQ ps la) (tlQ ps lb) (tden la) (tden lb) with
  | none=>exact absurd hf h
  | some q=>exact ⟨q,flAt_floor F.pr (l1.trans l2.symm) (by decide) hf⟩
theorem floor_det (w:World) (ps:List Int) (a0 a1 a2:Option Addr) (c0 c1 c2 D E:Nat) (la lb:List Rat) (A:SizeOk w ps a0 a1 la D) (B:SizeOk w ps a0 a2 lb D) (hD0:0 < D) (F:FlrOk ps la lb E) (L:Laid w) {q:Int} (hq:LN.FloorOf ps la lb q) :
  Gives Tryz.prog 92 #[.slice a0 ps.length c0,.slice a1 la.length c1,.slice a2 lb.length c2] w (.string (itx q)):=by
 refine Calls.mono (floor_any w ps a0 a1 a2 c0 c1 c2 D E la lb A B hD0 F L) ?_
 rintro e w' ⟨⟨r,rfl,hr⟩,hb⟩
 rw [floor_one (smallP_pos' F.pr) (A.len.trans B.len.symm) hq hr]
 exact ⟨rfl,hb⟩
end Go.Proofs.YtpbapojnbmbdlaaGreatDoor
