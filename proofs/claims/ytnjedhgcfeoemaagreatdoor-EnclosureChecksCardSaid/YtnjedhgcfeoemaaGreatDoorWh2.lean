/- Lemmas for the laws of this seat, part 2. -/
import Derived.Test.YtnjedhgcfeoemaaGreatDoorCards
import Derived.Test.YtnjedhgcfeoemaaGreatDoorTie
import Derived.SevenTiedAt
import Derived.Test.YtnjedhgcfeoemaaGreatDoorWh1
set_option maxRecDepth 100000
set_option maxHeartbeats 16000000
namespace Go.Proofs.YtnjedhgcfeoemaaGreatDoor
open Go.RowKit
theorem u64_and32(n:Nat)(_:n<18446744073709551616):bits .and .u64 (n:Int) 4294967295=((n%4294967296:Nat):Int):=by
 have h1:(BitVec.ofInt 64 4294967295).toNat=2^32-1:=by decide
 have key:(BitVec.ofInt 64 (n:Int) &&& BitVec.ofInt 64 4294967295).toNat=((n:Int)%((2^64:Nat):Int)).toNat%2^32:=by
  rw[BitVec.toNat_and,BitVec.toNat_ofInt,h1,Nat.and_two_pow_sub_one_eq_mod]
 show IntKind.u64.wrap ((BitVec.ofInt 64 (n:Int) &&& BitVec.ofInt 64 4294967295).toNat:Nat)=_
 rw[key]
 have e:((n:Int)%((2^64:Nat):Int)).toNat%2^32=n%4294967296:=by
  have:((2^64:Nat):Int)=18446744073709551616:=by decide
  rw[this]
  omega
 rw[e]
 exact wrap_u _ (by omega)
structure BtO (n t:Nat) (L:List Nat) (a:Option Addr) (c:Nat) (w wr:World):Prop where
 own:OwnU wr w.heap.size a c L
 wd:Wd32 L
 v:vS L=val ((limbs n).drop t)
 top:L.length=0∨4294967296^(L.length-1)≤vS L
 ln:L.length+t≤(limbs n).length
 bel:Below w.heap.size w wr
structure BtI (L:List Nat) (x k cc:Nat) (M:List Nat) (a:Option Addr) (c:Nat) (w wr:World):Prop where
 len:M.length=L.length
 wd:Wd32 M
 same:∀ j,k≤j→M.getD j 0=L.getD j 0
 v:vS (M.take k)+4294967296^k*cc=1000000000*vS (L.take k)+x
 own:OwnU wr w.heap.size a c M
 bel:Below w.heap.size w wr
theorem val_dropB(l:List Nat)(t:Nat)(h:t<l.length):val (l.drop t)=l.getD t 0+1000000000*val (l.drop (t+1)):=by
 rw[List.drop_eq_getElem_cons h,val]
 have e:l.getD t 0=l[t]:=by rw[List.getD_eq_getElem?_getD,List.getElem?_eq_getElem h];rfl
 rw[e]
theorem bits_big(w:World)(n k:Nat)(hn:Num n)(h64:18446744073709551616≤n)(h1:2^k≤n)(h2:n<2^(k+1))(hk:k≤100000000)(L:Laid w):
  Gives Tryz.prog 127 #[.string (dec n)] w (.int .i64 ((k+1:Nat):Int)):=by
 unfold Gives
 have hn1:(dec n).size≤1000000:=hn
 have h:=smallS_any w n (by omega) L
 rw[if_neg (by omega)] at h
 have HS:=hd_ h
 have HC:=hd_ (fun W=>cutD W n hn)
 have Hk:Hid (∀ N m t a,n=a+4294967296^N*t→a<4294967296^N→2^m≤t→t<2^(m+1)→k=32*N+m):=fun N m t a e1 e2 e3 e4=>bits_end n k m N t a e1 e2 e3 e4 h1 h2
 have Hl:Hid (∀ (b:Nat) (W:World),b<18446744073709551616→Calls Tryz.prog 191 #[.int .u64 b] W fun e w'=>e = .returned (.int .i64 (Lib.bitLen b))∧w'=W):=fun b W hb=>Tryz.bits_Len64 b W (by omega) (by omega)
 have hlen:(limbs n).length≤400000:=limbs_num n hn
 have Hpos:Hid (0<(limbs n).length):=by
  show 0<_
  rw[limbs_pos (show 0<n by omega)];simp
 have Hp:=hd_ (limbs_pcs n)
 have Hval:Hid (val ((limbs n).drop 0)=n):=by show _=_;rw[List.drop_zero,val_limbs]
 unfold GivesU at HC
 clear h L hn h1 h2 hn1
 obtain⟨N,hN⟩:∃ N,(limbs n).length=N:=⟨_,rfl⟩
 have HN:=hd_ hN
 rw[hN] at hlen HC
 clear hN
 generalize dec n=s at *
 go_enter Tryz.func127,Tryz.ntmps127
 go_wp2_with fail
 refine cm_ HS.out ?_
 rintro e w1 ⟨rfl,hb1⟩
 have B1:=hd_ hb1
 clear hb1 HS
 go_wp2_with fail
 refine cm_ (HC.out _) ?_
 rintro e w2 ⟨ap,cp,rfl,ho,hb2⟩
 have B2:=hd_ (B1.out.trans (hb2.mono B1.out.size))
 have RP:=hd_ ho.reads
 clear hb2 B1 HC ho
 have ew0:IntKind.i64.wrap ((N:Int)-1)=(N:Int)-1:=iw_ _ (by omega)
 go_wp2_with fail
 go_loopw [5,7] (fun o i wr=>∃ (a:Option Addr) (c t:Nat) (L:List Nat),o = .slice a L.length c∧i = .int .i64 ((t:Int)-1)∧t≤N∧Hid (BtO n t L a c w2 wr)) (fun _ i _=>(intOf i+1).toNat)
 case atStart =>
  refine⟨none,0,N,[],rfl,rfl,Nat.le_refl _,⟨OwnU.nil w2 w2.heap.size,fun _ h=>absurd h List.not_mem_nil,?_,.inl rfl,?_,Below.refl _ _⟩⟩
  ·rw[← HN.out,List.drop_length];rfl
  ·rw[HN.out];simp
 case round =>
  obtain⟨a,c,t,L,rfl,rfl,ht,HO⟩:=hrel
  by_cases ht0:0<t
  ·obtain⟨i,rfl⟩:∃ i,t=i+1:=⟨t-1,by omega⟩
   have hi0:((i+1:Nat):Int)-1=(i:Int):=by omega
   have hi0':(i:Int)+1-1=(i:Int):=by omega
   have hi1:(0:Int)≤i:=by omega
   have ew1:IntKind.i64.wrap ((i:Int)-1)=(i:Int)-1:=iw_ _ (by omega)
   obtain⟨b,o,rfl,hb,hcl⟩:=RP.out.open Hpos.out
   have cx:=hcl i (by rw[HN.out];omega)
   rw[← HO.out.bel.cell (p:=⟨b,o+i,none⟩) hb] at cx
   have hx:=Hp.out.getD i
   have Hvd:=hd_ (val_dropB (limbs n) i (by rw[HN.out];omega))
   generalize (limbs n).getD i 0=x at *
   have hLl:=HO.out.ln
   rw[HN.out] at hLl
   have HI0:Hid (BtI L x 0 x L a c w2 wr):=⟨rfl,HO.out.wd,fun _ _=>rfl,by simp[vS],HO.out.own,HO.out.bel⟩
   obtain⟨m,hm⟩:∃ m,L.length=m:=⟨_,rfl⟩
   have Hm:=hd_ hm
   rw[hm] at hLl ⊢
   clear hm hcl
   rw[hi0]
   go_wp2_with fail
   go_loopw [8,33] (fun cv z w9=>∃ (k cc:Nat) (M:List Nat),k≤m∧cc<1000000000∧cv = .int .u64 cc∧z = .int .i64 k∧Hid (BtI L x k cc M a c w2 w9)) (fun _ z _=>m-(intOf z).toNat)
   case atStart=>exact⟨0,x,L,Nat.zero_le _,hx,rfl,rfl,HI0⟩
   case round =>
    obtain⟨k,cc,M,hk,hcc,rfl,rfl,HI⟩:=hrel
    clear HI0 cx
    by_cases hkm:k<m
    ·obtain⟨g,rfl,hg1,hg2,hg3,hg4,hg5⟩:=HI.out.own.open (by rw[HI.out.len,Hm.out];omega)
     have ce:=hg4 k (by rw[HI.out.len,Hm.out];exact hkm)
     have fe:=hg5 k
     have he:=HI.out.wd.getD k
     have hsm:=HI.out.same k nr_
     obtain⟨e,hee⟩:∃ e,M.getD k 0=e:=⟨_,rfl⟩
     rw[hee] at ce he hsm
     obtain⟨r,hr⟩:∃ r,(cc+e*1000000000)%4294967296=r:=⟨_,rfl⟩
     obtain⟨q,hq⟩:∃ q,(cc+e*1000000000)/4294967296=q:=⟨_,rfl⟩
     have hst:=bits_step L M k cc x r q e (by rw[HI.out.len,Hm.out];exact hkm) (by rw[Hm.out];exact hkm) hsm.symm HI.out.v (by omega)
     have HI2:Hid (BtI L x (k+1) q (M.set k r) (some ⟨g,0,none⟩) c w2 (wr.setCell ⟨g,k,none⟩ (.int .u64 (r:Nat)))) :=
      ⟨by rw[List.length_set];exact HI.out.len,HI.out.wd.set _ _ (by omega),fun j hj=>by rw[limb_set_ne _ _ _ _ (by omega)];exact HI.out.same j (by omega),hst,HI.out.own.store k r,HI.out.bel.setCell (p:=⟨g,k,none⟩) hg1 _⟩
     obtain⟨E,hE⟩:∃ E,e*1000000000=E:=⟨_,rfl⟩
     obtain⟨T,hT⟩:∃ T,cc+E=T:=⟨_,rfl⟩
     rw[hE,hT] at hr hq
     have hqb:q<1000000000:=by omega
     have hw1:IntKind.u64.wrap ((e:Int)*1000000000)=(E:Int):=by rw[show (e:Int)*1000000000=(E:Int) by omega];exact wrap_u _ (by omega)
     have hw2:IntKind.u64.wrap ((cc:Int)+(E:Int))=(T:Int):=by rw[show (cc:Int)+(E:Int)=(T:Int) by omega];exact wrap_u _ (by omega)
     have hw3:=u64_and32 T (by omega)
     rw[hr] at hw3
     have hw4:(T:Int)/4294967296=(q:Int):=by omega
     have hkm':(k:Int)<m:=by omega
     have hkw:IntKind.i64.wrap ((k:Int)+1)=((k+1:Nat):Int):=by rw[← Int.natCast_succ];exact iw_ _ (by omega)
     have hTb:T<18446744073709551616:=by omega
     clear hst hg4 hg5 hsm hee HI hr hq hE hT he
     go_wp2_with fail
     refine⟨⟨k+1,q,M.set k r,by omega,hqb,rfl,by go_num,HI2⟩,by simp[intOf];omega⟩
    ·obtain rfl:k=m:=by omega
     have hkm':¬ (k:Int)<k:=by omega
     have e1:M.take k=M:=List.take_of_length_le (by rw[HI.out.len,Hm.out];exact Nat.le_refl _)
     have e2:L.take k=L:=List.take_of_length_le (by rw[Hm.out];exact Nat.le_refl _)
     have hv:=HI.out.v
     rw[e1,e2,HO.out.v] at hv
     have hvd:=Hvd.out
     have hvL:vS L≤vS M+4294967296^k*cc:=by rw[hv,HO.out.v];omega
     have htop:k=0∨4294967296^(k-1)≤vS L:=by
      have:=HO.out.top
      rw[Hm.out] at this
      exact this
     have hMl:M.length=k:=by rw[HI.out.len,Hm.out]
     by_cases hc0:cc=0
     ·subst hc0
      have hcp:¬ (0:Int)<0:=by omega
      rw[Nat.mul_zero,Nat.add_zero] at hv hvL
      have HO2:Hid (BtO n i M a c w2 wr):=⟨HI.out.own,HI.out.wd,by rw[hvd,hv];omega,by rw[hMl];exact htop.elim (fun h => .inl h) (fun h => .inr (Nat.le_trans h hvL)),by rw[hMl,HN.out];omega,HI.out.bel⟩
      clear hv hvd hvL htop e1 e2 HI HO
      have hMl2:M.length=k:=hMl
      go_wp2_with fail
      refine⟨⟨a,c,i,M,by rw[hMl],rfl,by omega,HO2⟩,by simp[intOf]⟩
     ·have hcp:(0:Int)<cc:=by omega
      have hrow:wr.ownsRow w2.heap.size 193 1 (.slice a k c) k (u64s M):=by have:=HI.out.own;unfold OwnU at this;rw[hMl] at this;exact this
      have Hrow:=hd_ hrow
      have HB:=hd_ HI.out.bel
      have HO2:Hid (∀ a3 c3 w3,OwnU w3 w2.heap.size a3 c3 (M++[cc])→Below w2.heap.size w2 w3→BtO n i (M++[cc]) a3 c3 w2 w3):=fun a3 c3 w3 ho hb=>by
       refine⟨ho,HI.out.wd.snoc (by omega),?_,.inr ?_,?_,hb⟩
       ·rw[vS_snoc,hMl,hv,hvd];omega
       ·rw[vS_snoc,hMl,List.length_append,hMl]
        show 4294967296^(k+1-1)≤_
        rw[Nat.add_sub_cancel]
        have:=Nat.mul_le_mul_left (4294967296^k) (show 1≤cc by omega)
        omega
       ·rw[List.length_append,hMl,HN.out];simp;omega
      have HMl:=hd_ hMl
      clear hv hvd hvL htop e1 e2 HI HO hrow hMl
      go_wp2_with (at_builtin;refine wpList_append_new rfl (.tmp 53) (.tmp 55) 194 rfl elU64 _ 1 [.int .u64 cc] rfl rfl Hrow.out HB.out.size rfl ?c1 (by omega) (by omega) ?_)
      case c1=>first | rfl | (intro u hu;obtain rfl:=List.mem_singleton.1 hu;rfl)
      intro v' w3 hown3 hg3 _
      obtain⟨a3,c3,rfl⟩:=own_form hown3
      have HC3:=hd_ (HO2.out a3 c3 w3 (by
       unfold OwnU
       rw[List.length_append,HMl.out,u64s_append]
       exact hown3) ((HB.out.alloc HB.out.size _).grown hg3 (by have:=HB.out.size;simp;omega) (fun k hk=>(Hrow.out.lt k hk).1)))
      clear hown3 hg3 HO2 Hrow HB
      have hl3:(M++[cc]).length=k+1:=by rw[List.length_append,HMl.out];rfl
      go_wp2_with fail
      refine⟨⟨a3,c3,i,M++[cc],by rw[hl3],rfl,by omega,HC3⟩,by simp[intOf]⟩
  ·obtain rfl:t=0:=by omega
   have hv:=HO.out.v
   rw[Hval.out] at hv
   have hne:0<L.length:=by
    rcases Nat.eq_zero_or_pos L.length with h0|h0
    ·rw[List.eq_nil_of_length_eq_zero h0] at hv
     simp[vS] at hv
     omega
    ·exact h0
   obtain⟨m,hm⟩:∃ m,L.length=m+1:=⟨L.length-1,by omega⟩
   have htop:4294967296^m≤vS L:=by
    rcases HO.out.top with h|h
    ·omega
    ·rw[hm,Nat.add_sub_cancel] at h;exact h
   have hsp:=vS_take_succ L m (by omega)
   rw[List.take_of_length_le (by omega),hv] at hsp
   have hlow:=vS_lt (HO.out.wd.take m)
   rw[List.length_take,Nat.min_eq_left (by omega)] at hlow
   have hd:=HO.out.wd.getD m
   rw[hv] at htop
   obtain⟨g,rfl,hg1,hg2,hg3,hg4,-⟩:=HO.out.own.open hne
   have cx:=hg4 m (by omega)
   have hln:=HO.out.ln
   rw[hm,HN.out] at hln
   obtain⟨tt,htt⟩:∃ tt,L.getD m 0=tt:=⟨_,rfl⟩
   rw[htt] at hsp hd cx
   have htp:tt≠0:=by
    intro h
    subst h
    rw[Nat.mul_zero] at hsp
    omega
   obtain⟨bl,hbl⟩:∃ bl,Lib.bitLen tt=bl:=⟨_,rfl⟩
   obtain⟨b1,b2,b3⟩:=bitLen_of htp (by omega) hbl
   have hkk:=Hk.out m (bl-1) tt _ hsp hlow b2 (by rw[Nat.sub_add_cancel b1];exact b3)
   have hLen:=hd_ (Hl.out tt wr (by omega))
   rw[hbl] at hLen
   have HB:=hd_ (B2.out.trans (HO.out.bel.mono B2.out.size))
   have hblu:bl≤64:=by
    refine Nat.le_of_not_lt fun hc=>?_
    have:2^64≤2^(bl-1):=Nat.pow_le_pow_right (by decide) (by omega)
    omega
   have e1:IntKind.i64.wrap ((m:Int)+1-1)=(m:Int):=by rw[show (m:Int)+1-1=m by omega];exact iw_ _ (by omega)
   have e1':IntKind.i64.wrap (((m+1:Nat):Int)-1)=(m:Int):=by rw[show ((m+1:Nat):Int)-1=m by omega];exact iw_ _ (by omega)
   have e2:IntKind.i64.wrap (32*(m:Int))=32*(m:Int):=iw_ _ (by omega)
   have e3:IntKind.i64.wrap (32*(m:Int)+(bl:Int))=((k+1:Nat):Int):=by rw[show 32*(m:Int)+(bl:Int)=((k+1:Nat):Int) by omega];exact iw_ _ (by omega)
   have hz:((0:Nat):Int)-1 = -1:=by omega
   rw[hm,hz]
   have e0:wrap64 (m:Int)=(m:Int):=IntWalk.wrap64_in _ ⟨by clear e1 e1' e2 e3;omega,by clear e1 e1' e2 e3;omega⟩
   clear hv hne htop hsp hlow hd hg4 hln htt htp hbl b1 b2 b3 hkk HO Hk Hval hm ht0
   go_wp2_with fail
   refine cm_ hLen.out ?_
   rintro e_ w9 ⟨rfl,rfl⟩
   go_wp2_with fail
   go_ret
   exact⟨rfl,HB.out⟩
theorem bits_low(w:World)(n k:Nat)(h0:n≠0)(h64:n<18446744073709551616)(h1:2^k≤n)(h2:n<2^(k+1))(L:Laid w):
  Gives Tryz.prog 127 #[.string (dec n)] w (.int .i64 ((k+1:Nat):Int)):=by
 unfold Gives
 have h:=smallS_any w n (Nat.le_trans (show (dec n).size≤20 from (size_lt n 20 (by decide)).2 (by omega)) (by decide)) L
 rw[if_pos h64] at h
 have H:=hd_ h
 have Hl:Hid (∀ W:World,Calls Tryz.prog 191 #[.int .u64 n] W fun e w'=>e = .returned (.int .i64 ((k+1:Nat):Int))∧w'=W):=fun W=>by
  have:=Tryz.bits_Len64 n W (by omega) (by omega)
  obtain⟨b1,b2,b3⟩:=bitLen_of h0 h64 rfl
  have a1:=(Nat.pow_lt_pow_iff_right (a:=2) (by decide)).1 (Nat.lt_of_le_of_lt h1 b3)
  have a2:=(Nat.pow_lt_pow_iff_right (a:=2) (by decide)).1 (Nat.lt_of_le_of_lt b2 h2)
  rw[show ((n:Nat):Int).toNat=n from rfl,show Lib.bitLen n=k+1 by omega] at this
  exact this
 clear L h h0 h64 h1 h2
 generalize dec n=s at *
 generalize ((k+1:Nat):Int)=r at *
 go_enter Tryz.func127,Tryz.ntmps127
 go_wp2_with fail
 refine cm_ H.out ?_
 rintro e w1 ⟨rfl,hb1⟩
 have B1:=hd_ hb1
 clear hb1 H
 go_wp2_with fail
 refine cm_ (Hl.out _) ?_
 rintro e w2 ⟨rfl,rfl⟩
 clear Hl
 go_wp2_with fail
 go_ret
 exact⟨rfl,B1.out⟩
theorem bits2_any(w:World)(n k:Nat)(hn:Num n)(h1:2^k≤n)(h2:n<2^(k+1))(hk:k≤100000000)(L:Laid w):
  Gives Tryz.prog 127 #[.string (dec n)] w (.int .i64 ((k+1:Nat):Int)):=by
 have h0:n≠0:=by have:=Nat.two_pow_pos k;omega
 rcases Nat.lt_or_ge n 18446744073709551616 with h|h
 ·exact bits_low w n k h0 h h1 h2 L
 ·exact bits_big w n k hn h h1 h2 hk L
theorem quotient_zp(w:World)(x1 x2 y1 y2:Option Addr)(e1 e2 g1 g2 d g:Nat)(tx ty:List (Int×Int))(X:TermsAt w tx x1 x2)(Y:TermsAt w ty y1 y2)(L:Laid w)
  (hy:∀ x∈ty,okT 100000 x) (hd:d≤10000) (hg:g≤10000) (hd0:0<d) (hg0:0<g)
  (h1:0≤lowT tx) (h2:lowT tx≤highT tx) (h3:(∀ x∈tx,okT 100000 x)→highT tx≤100000000000000) (h4:0<lowT ty) (h5:lowT ty≤highT ty) (h6:highT ty≤100000000000000) :
  Calls Tryz.prog 221 #[.agg (tcells x1 e1 x2 e2 tx.length d),.agg (tcells y1 g1 y2 g2 ty.length g)] w fun e w'=>∃ q b,e = .returned (.tuple #[.int .i64 q,.bool b])∧(b=true→(∀ x∈tx,okT 100000 x)∧q=lowT tx*g/(highT ty*d))∧Below w.heap.size w w':=by
 obtain⟨one,hone,hone2⟩:∃ one:Bool,(∀ W,Below w.heap.size w W→Gives Tryz.prog 210 #[.agg (tcells x1 e1 x2 e2 tx.length d),.int .i64 100000] W (if one then .tuple #[.int .i64 (lowT tx),.int .i64 (highT tx),.bool true] else .tuple #[.int .i64 0,.int .i64 0,.bool false]))∧(one=true→∀ x∈tx,okT 100000 x):=by
  by_cases hx:∀ x∈tx,okT 100000 x
  ·refine⟨true,fun W hW=>?_,fun _=>hx⟩
   have:=near_any W x1 x2 e1 e2 d tx 100000 (by decide) (by decide) X.len (X.below hW).r1 (X.below hW).r2 X.p X.z (L.below hW)
   unfold nearV at this
   rw[if_pos hx] at this
   exact this
  ·refine⟨false,fun W hW=>?_,fun h=>by cases h⟩
   have:=near_any W x1 x2 e1 e2 d tx 100000 (by decide) (by decide) X.len (X.below hW).r1 (X.below hW).r2 X.p X.z (L.below hW)
   unfold nearV at this
   rw[if_neg hx] at this
   exact this
 have Hnx:=hd_ hone
 have Hone:=hd_ hone2
 have Hny:Hid (∀ W,Below w.heap.size w W→Gives Tryz.prog 210 #[.agg (tcells y1 g1 y2 g2 ty.length g),.int .i64 100000] W (.tuple #[.int .i64 (lowT ty),.int .i64 (highT ty),.bool true])):=fun W hW=>by
  have:=near_any W y1 y2 g1 g2 g ty 100000 (by decide) (by decide) Y.len (Y.below hW).r1 (Y.below hW).r2 Y.p Y.z (L.below hW)
  unfold nearV at this
  rw[if_pos hy] at this
  exact this
 have Hsd:Hid (∀ W,Below w.heap.size w W→Gives Tryz.prog 239 #[.string (dec d)] W (.tuple #[.int .i64 d,.bool true])):=fun W hW=>by
  have:=smallz_any W (d:Int) (num_pow (D:=5) (show (d:Int).natAbs<10^5 by omega) (by decide) (by decide)) (L.below hW)
  rw[if_pos (by omega),itx_nat] at this
  exact this
 have Hsg:Hid (∀ W,Below w.heap.size w W→Gives Tryz.prog 239 #[.string (dec g)] W (.tuple #[.int .i64 g,.bool true])):=fun W hW=>by
  have:=smallz_any W (g:Int) (num_pow (D:=5) (show (g:Int).natAbs<10^5 by omega) (by decide) (by decide)) (L.below hW)
  rw[if_pos (by omega),itx_nat] at this
  exact this
 have n5:¬ (d:Int) > 10000:=by omega
 have n6:¬ (g:Int) > 10000:=by omega
 clear X Y L hone hy
 generalize hxh:highT tx=xh at *
 generalize lowT tx=xl at *
 generalize lowT ty=yl at *
 generalize highT ty=yh at *
 generalize tx.length=n at *
 generalize ty.length=m at *
 have R1:Hid (((w.alloc (.cells (tcells x1 e1 x2 e2 n d) 163)).alloc (.cells (tcells y1 g1 y2 g2 m g) 163)).heap[w.heap.size]?=some (.cells #[.slice x1 n e1,.slice x2 n e2,.string (dec d)] 163 (0,0))):=heap_old (heap_at w _ _ _ rfl) _
 have R2:Hid (((w.alloc (.cells (tcells x1 e1 x2 e2 n d) 163)).alloc (.cells (tcells y1 g1 y2 g2 m g) 163)).heap[w.heap.size+1]?=some (.cells #[.slice y1 m g1,.slice y2 m g2,.string (dec g)] 163 (0,0))):=heap_at _ _ _ _ (by show (w.heap.push _).size=_;exact Array.size_push ..)
 have B0:Hid (Below w.heap.size w ((w.alloc (.cells (tcells x1 e1 x2 e2 n d) 163)).alloc (.cells (tcells y1 g1 y2 g2 m g) 163))):=by
  show Below _ _ _
  have b1:=(Below.refl w.heap.size w).alloc nr_ (.cells (tcells x1 e1 x2 e2 n d) 163)
  exact b1.alloc b1.size _
 cases one with
 | false =>
  rw[if_neg Bool.false_ne_true] at Hnx
  clear h1 h2 h3 h4 h5 h6 hone2 Hone
  go_enter Tryz.func221,Tryz.ntmps221
  go_wp2_with fail
  generalize (w.alloc (.cells (tcells x1 e1 x2 e2 n d) 163)).alloc (.cells (tcells y1 g1 y2 g2 m g) 163)=W0 at *
  refine cm_ (Hnx.out _ B0.out) ?_
  rintro e W1 ⟨rfl,hb⟩
  have B1:=hd_ (B0.out.trans (hb.mono B0.out.size))
  have R3:=hd_ (heap_kept R1.out hb nr_)
  have R4:=hd_ (heap_kept R2.out hb nr_)
  clear hb B0 R1 R2 Hnx
  obtain⟨k0,k1,k2,-⟩:=obj_cells3 R3.out
  obtain⟨m0,m1,m2,-⟩:=obj_cells3 R4.out
  go_wp2_with fail
  refine cm_ (Hny.out _ B1.out) ?_
  rintro e W2 ⟨rfl,hb⟩
  have B2:=hd_ (B1.out.trans (hb.mono B1.out.size))
  have R5:=hd_ (heap_kept R3.out hb nr_)
  have R6:=hd_ (heap_kept R4.out hb nr_)
  clear hb B1 R3 R4 Hny k0 k1 k2 m0 m1 m2
  obtain⟨k0,k1,k2,-⟩:=obj_cells3 R5.out
  go_wp2_with fail
  refine cm_ (Hsd.out _ B2.out) ?_
  rintro e W3 ⟨rfl,hb⟩
  have B3:=hd_ (B2.out.trans (hb.mono B2.out.size))
  have R8:=hd_ (heap_kept R6.out hb nr_)
  clear hb B2 R5 R6 Hsd k0 k1 k2
  obtain⟨m0,m1,m2,-⟩:=obj_cells3 R8.out
  go_wp2_with fail
  refine cm_ (Hsg.out _ B3.out) ?_
  rintro e W4 ⟨rfl,hb⟩
  have B4:=hd_ (B3.out.trans (hb.mono B3.out.size))
  clear hb B3 R8 Hsg m0 m1 m2
  go_wp2_with fail
  go_ret2
  exact⟨0,false,rfl,fun h=>(by cases h),B4.out⟩
 | true =>
  rw[if_pos rfl] at Hnx
  have h3':=h3 (hone2 rfl)
  have Hok:=hd_ (hone2 rfl)
  clear hone2 h3 Hone
  have p1:0≤xl*g:=Int.mul_nonneg h1 (by omega)
  have p2:xl*g≤100000000000000*10000:=Int.mul_le_mul (by omega) (by omega) (by omega) (by omega)
  have p3:0≤xh*g:=Int.mul_nonneg (by omega) (by omega)
  have p4:xh*g≤100000000000000*10000:=Int.mul_le_mul (by omega) (by omega) (by omega) (by omega)
  have p5:0<yl*d:=Int.mul_pos h4 (by omega)
  have p6:yl*d≤100000000000000*10000:=Int.mul_le_mul (by omega) (by omega) (by omega) (by omega)
  have p7:0<yh*d:=Int.mul_pos (by omega) (by omega)
  have p8:yh*d≤100000000000000*10000:=Int.mul_le_mul (by omega) (by omega) (by omega) (by omega)
  have w1:IntKind.i64.wrap (xl*g)=xl*g:=iw_ _ (by omega)
  have w2:IntKind.i64.wrap (xh*g)=xh*g:=iw_ _ (by omega)
  have w3:IntKind.i64.wrap (yl*d)=yl*d:=iw_ _ (by omega)
  have w4:IntKind.i64.wrap (yh*d)=yh*d:=iw_ _ (by omega)
  have D1:Hid (∀ W,Gives Tryz.prog 247 #[.int .i64 (xl*g),.int .i64 (yh*d)] W (.int .i64 (xl*g/(yh*d)))):=fun W=>downward_any W _ _ (by omega) p7 (by omega)
  have D2:Hid (∀ W,Gives Tryz.prog 247 #[.int .i64 (xh*g),.int .i64 (yl*d)] W (.int .i64 (xh*g/(yl*d)))):=fun W=>downward_any W _ _ (by omega) p5 (by omega)
  have n1:¬ yh≤0:=by omega
  have n2:¬ yl≤0:=by omega
  have n3:¬ xl<0:=by omega
  have n4:¬ xh<0:=by omega
  clear p1 p2 p3 p4 p5 p6 p7 p8 h2 h3' h5 h6 hd hg hd0 hg0 h1 h4
  generalize hq1:xl*g/(yh*d)=q1 at *
  generalize hq2:xh*g/(yl*d)=q2 at *
  clear hq1 hq2
  go_enter Tryz.func221,Tryz.ntmps221
  go_wp2_with fail
  generalize (w.alloc (.cells (tcells x1 e1 x2 e2 n d) 163)).alloc (.cells (tcells y1 g1 y2 g2 m g) 163)=W0 at *
  refine cm_ (Hnx.out _ B0.out) ?_
  rintro e W1 ⟨rfl,hb⟩
  have B1:=hd_ (B0.out.trans (hb.mono B0.out.size))
  have R3:=hd_ (heap_kept R1.out hb nr_)
  have R4:=hd_ (heap_kept R2.out hb nr_)
  clear hb B0 R1 R2 Hnx
  obtain⟨k0,k1,k2,-⟩:=obj_cells3 R3.out
  obtain⟨m0,m1,m2,-⟩:=obj_cells3 R4.out
  go_wp2_with fail
  refine cm_ (Hny.out _ B1.out) ?_
  rintro e W2 ⟨rfl,hb⟩
  have B2:=hd_ (B1.out.trans (hb.mono B1.out.size))
  have R5:=hd_ (heap_kept R3.out hb nr_)
  have R6:=hd_ (heap_kept R4.out hb nr_)
  clear hb B1 R3 R4 Hny k0 k1 k2 m0 m1 m2
  obtain⟨k0,k1,k2,-⟩:=obj_cells3 R5.out
  go_wp2_with fail
  refine cm_ (Hsd.out _ B2.out) ?_
  rintro e W3 ⟨rfl,hb⟩
  have B3:=hd_ (B2.out.trans (hb.mono B2.out.size))
  have R8:=hd_ (heap_kept R6.out hb nr_)
  clear hb B2 R5 R6 Hsd k0 k1 k2
  obtain⟨m0,m1,m2,-⟩:=obj_cells3 R8.out
  go_wp2_with fail
  refine cm_ (Hsg.out _ B3.out) ?_
  rintro e W4 ⟨rfl,hb⟩
  have B4:=hd_ (B3.out.trans (hb.mono B3.out.size))
  clear hb B3 R8 Hsg m0 m1 m2
  go_wp2_with fail
  refine cm_ (D1.out _) ?_
  rintro e W5 ⟨rfl,hb⟩
  have B5:=hd_ (B4.out.trans (hb.mono B4.out.size))
  clear hb B4
  go_wp2_with fail
  refine cm_ (D2.out _) ?_
  rintro e W6 ⟨rfl,hb⟩
  have B6:=hd_ (B5.out.trans (hb.mono B5.out.size))
  clear hb B5
  go_wp2_with fail
  go_ret2
  exact⟨q1,_,rfl,fun _=>⟨Hok.out,rfl⟩,B6.out⟩
structure FlrZp (ps:List Int) (la lb:List Rat) (E:Nat) (q:Int):Prop where
 pr:∀ p∈ps,p∈allP
 n6:ps.length≤6
 kx:∀ x∈tlQ ps la,x.2.natAbs<2^E
 ky:∀ x∈tlQ ps lb,x.2.natAbs<2^E
 d:tden la<2^E
 g:tden lb<2^E
 e:E≤3000
 pos:∀ n,n≤1024→0≤LN.eLo (lf n) (tlQ ps la)∧0<LN.eLo (lf n) (tlQ ps lb)
 dec:flAt 128 (tlQ ps la) (tlQ ps lb) (tden la) (tden lb)≠none
 val:∀ n r,n=64∨n=128→flAt n (tlQ ps la) (tlQ ps lb) (tden la) (tden lb)=some r→r=q
 nr:ratioB la lb ps.length (ratioK la lb ps.length)=false
 okt:∀ x∈tlQ ps lb,okT 100000 x
 dd:tden la≤10000
 gg:tden lb≤10000
 lo:0≤lowT (tlQ ps la)
 lh:lowT (tlQ ps la)≤highT (tlQ ps la)
 hi:(∀ x∈tlQ ps la,okT 100000 x)→highT (tlQ ps la)≤100000000000000
 yl:0<lowT (tlQ ps lb)
 ylh:lowT (tlQ ps lb)≤highT (tlQ ps lb)
 yh:highT (tlQ ps lb)≤100000000000000
 quo:(∀ x∈tlQ ps la,okT 100000 x)→lowT (tlQ ps la)*tden lb/(highT (tlQ ps lb)*tden la)=q ∧ -9223372036854775808≤q∧q≤9223372036854775807
theorem floor_zp(w:World)(ps:List Int)(a0 a1 a2:Option Addr)(c0 c1 c2 D E:Nat)(la lb:List Rat)(q:Int)(A:SizeOk w ps a0 a1 la D)(B:SizeOk w ps a0 a2 lb D)(hD0:0<D)(F:FlrZp ps la lb E q)(L:Laid w):
  Gives Tryz.prog 193 #[.slice a0 ps.length c0,.slice a1 la.length c1,.slice a2 lb.length c2] w (.string (itx q)):=by
 unfold Gives
 have hn:=A.n
 have hdd:=A.d
 have HL:=hd_ L
 have HF:=hd_ F
 have Hdec:=hd_ F.dec
 have hr:=F.nr
 have Hra:=hd_ (ratio_any w a1 a2 c1 c2 ps.length D la lb A.rl B.rl A.len B.len A.sm B.sm (by omega) hD0 hdd L)
 rw[hr] at Hra
 have Ht1:Hid (∀ W,Below w.heap.size w W→Calls Tryz.prog 100 #[.slice a0 ps.length c0,.slice a1 ps.length c1] W fun e w'=>∃ b1 d1 b2 d2,e = .returned (.agg (tcells b1 d1 b2 d2 (tlQ ps la).length (tden la)))∧TermsAt w' (tlQ ps la) b1 b2∧Below W.heap.size W w'):=fun W hW=>by
  have:=terms_ok (c0:=c0) (c:=c1) (A.below hW) (L.below hW)
  rw[A.len] at this
  exact this
 have Ht2:Hid (∀ W,Below w.heap.size w W→Calls Tryz.prog 100 #[.slice a0 ps.length c0,.slice a2 ps.length c2] W fun e w'=>∃ b1 d1 b2 d2,e = .returned (.agg (tcells b1 d1 b2 d2 (tlQ ps lb).length (tden lb)))∧TermsAt w' (tlQ ps lb) b1 b2∧Below W.heap.size W w'):=fun W hW=>by
  have:=terms_ok (c0:=c0) (c:=c2) (B.below hW) (L.below hW)
  rw[B.len] at this
  exact this
 have hE:=F.e
 have lx:(tlQ ps la).length≤6:=Nat.le_trans (by have:=(tlist_fst (tden la) ps la).length_le;rw[List.length_map] at this;exact this) F.n6
 have ly:(tlQ ps lb).length≤6:=Nat.le_trans (by have:=(tlist_fst (tden lb) ps lb).length_le;rw[List.length_map] at this;exact this) F.n6
 have hd0:=LN.tden_pos' la
 have hg0:=LN.tden_pos' lb
 have px:PrT (tlQ ps la):=fun x hx=>allP_pr (F.pr _ (tlist_mem hx).1)
 have py:PrT (tlQ ps lb):=fun x hx=>allP_pr (F.pr _ (tlist_mem hx).1)
 have Hqu:Hid (∀ W x1 x2 y1 y2 e1 e2 g1 g2,TermsAt W (tlQ ps la) x1 x2→TermsAt W (tlQ ps lb) y1 y2→Laid W→Calls Tryz.prog 221 #[.agg (tcells x1 e1 x2 e2 (tlQ ps la).length (tden la)),.agg (tcells y1 g1 y2 g2 (tlQ ps lb).length (tden lb))] W fun e w'=>∃ z b,e = .returned (.tuple #[.int .i64 z,.bool b])∧(b=true→z=q ∧ -9223372036854775808≤q∧q≤9223372036854775807)∧Below W.heap.size W w'):=fun W x1 x2 y1 y2 e1 e2 g1 g2 X Y LW=>by
  refine cm_ (quotient_zp W x1 x2 y1 y2 e1 e2 g1 g2 _ _ _ _ X Y LW F.okt F.dd F.gg hd0 hg0 F.lo F.lh F.hi F.yl F.ylh F.yh) ?_
  rintro e w' ⟨z,b,rfl,h,hb⟩
  refine⟨z,b,rfl,fun hb1=>?_,hb⟩
  obtain⟨k1,k2⟩:=h hb1
  obtain⟨k3,k4⟩:=F.quo k1
  exact⟨k2.trans k3,k4⟩
 have Hof:Hid (∀ W q,-9223372036854775808≤q→q≤9223372036854775807→Below w.heap.size w W→Gives Tryz.prog 73 #[.int .i64 q] W (.string (itx q))):=fun W q h1 h2 hW=>ofz_any W q h1 h2 (L.below hW)
 have HfF:Hid (∀ n r,n=64∨n=128→flAt n (tlQ ps la) (tlQ ps lb) (tden la) (tden lb)=some r→r=q):=fun n r hn h=>F.val n r hn h
 have Hps:Hid (∀ n,n≤1024→(0≤LN.eLo (lf n) (tlQ ps la)∧LN.eLo (lf n) (tlQ ps la)≤LN.eHi (lf n) (tlQ ps la))∧0<LN.eLo (lf n) (tlQ ps lb)):=fun n hn=>⟨⟨(F.pos n hn).1,eLo_le _ _⟩,(F.pos n hn).2⟩
 have Hen1:Hid (∀ (n:Nat) W x1 x2 e1 e2,n≤1056→TermsAt W (tlQ ps la) x1 x2→Laid W→Gives Tryz.prog 172 #[.agg (tcells x1 e1 x2 e2 (tlQ ps la).length (tden la)),.int .i64 n] W (.tuple #[.string (itx (LN.eLo (lf n) (tlQ ps la))),.string (itx (LN.eHi (lf n) (tlQ ps la)))])):=fun n W x1 x2 e1 e2 hn T LW =>
  ends_any W x1 x2 e1 e2 _ n E _ T px (by omega) F.kx hn LW
 have Hen2:Hid (∀ (n:Nat) W x1 x2 e1 e2,n≤1056→TermsAt W (tlQ ps lb) x1 x2→Laid W→Gives Tryz.prog 172 #[.agg (tcells x1 e1 x2 e2 (tlQ ps lb).length (tden lb)),.int .i64 n] W (.tuple #[.string (itx (LN.eLo (lf n) (tlQ ps lb))),.string (itx (LN.eHi (lf n) (tlQ ps lb)))])):=fun n W x1 x2 e1 e2 hn T LW =>
  ends_any W x1 x2 e1 e2 _ n E _ T py (by omega) F.ky hn LW
 obtain⟨K,hK⟩:∃ K:Nat,K=E+1060+10:=⟨_,rfl⟩
 have Hbx:Hid (∀ n:Nat,n≤1024→(LN.eLo (lf n) (tlQ ps la)).natAbs<2^K∧(LN.eHi (lf n) (tlQ ps la)).natAbs<2^K):=fun n hn=>by
  obtain⟨h1,h2⟩:=eSum_num (n:=n) (E:=E) (by omega) (tlQ ps la) (by omega) px F.kx
  exact⟨Nat.lt_of_lt_of_le h1 (Nat.pow_le_pow_right (by decide) (by omega)),Nat.lt_of_lt_of_le h2 (Nat.pow_le_pow_right (by decide) (by omega))⟩
 have Hby:Hid (∀ n:Nat,n≤1024→(LN.eLo (lf n) (tlQ ps lb)).natAbs<2^K∧(LN.eHi (lf n) (tlQ ps lb)).natAbs<2^K):=fun n hn=>by
  obtain⟨h1,h2⟩:=eSum_num (n:=n) (E:=E) (by omega) (tlQ ps lb) (by omega) py F.ky
  exact⟨Nat.lt_of_lt_of_le h1 (Nat.pow_le_pow_right (by decide) (by omega)),Nat.lt_of_lt_of_le h2 (Nat.pow_le_pow_right (by decide) (by omega))⟩
 have hKK:K+K<90000:=by omega
 have hdK:tden la<2^K:=Nat.lt_of_lt_of_le F.d (Nat.pow_le_pow_right (by decide) (by omega))
 have hgK:tden lb<2^K:=Nat.lt_of_lt_of_le F.g (Nat.pow_le_pow_right (by decide) (by omega))
 have HS:Hid (∀ (z:Int) W,Gives Tryz.prog 84 #[.string (itx z)] W (.int .i64 z.sign)):=fun z W=>sign_any W z
 have HN:Hid (∀ (z:Int) W,z.natAbs<2^K→Gives Tryz.prog 71 #[.string (itx z)] W (.string (itx (-z)))):=fun z W hz=>neg_any W z (num_two hz (by omega))
 have HMd:Hid (∀ (a:Int) W,a.natAbs<2^K→Below w.heap.size w W→Gives Tryz.prog 115 #[.string (itx a),.string (dec (tden la))] W (.string (itx (a*(tden la:Int))))):=fun a W ha hW=>by
  have:=mulZ W a (tden la:Int) K K hKK ha (by rw[Int.natAbs_natCast];exact hdK) (L.below hW)
  rw[itx_nat] at this;exact this
 have HMg:Hid (∀ (a:Int) W,a.natAbs<2^K→Below w.heap.size w W→Gives Tryz.prog 115 #[.string (itx a),.string (dec (tden lb))] W (.string (itx (a*(tden lb:Int))))):=fun a W ha hW=>by
  have:=mulZ W a (tden lb:Int) K K hKK ha (by rw[Int.natAbs_natCast];exact hgK) (L.below hW)
  rw[itx_nat] at this;exact this
 have HDv:Hid (∀ (a b:Int) W,a.natAbs<2^K→b.natAbs<2^K→0<b→Below w.heap.size w W→Gives Tryz.prog 163 #[.string (itx (a*(tden lb:Int))),.string (itx (b*(tden la:Int)))] W (.tuple #[.string (itx (a*(tden lb:Int)/(b*(tden la:Int)))),.string (itx (a*(tden lb:Int)%(b*(tden la:Int)))),.int .i64 0])):=fun a b W ha hb hb0 hW =>
  divZ W _ _ (K+K) hKK (abs_mul_lt ha hgK) (abs_mul_lt hb hdK) (Int.mul_pos hb0 (by omega)) (L.below hW)
 have Hfl:Hid (∀ n,flAt n (tlQ ps la) (tlQ ps lb) (tden la) (tden lb)=flS (LN.eLo (lf n) (tlQ ps la)) (LN.eHi (lf n) (tlQ ps la)) (LN.eLo (lf n) (tlQ ps lb)) (LN.eHi (lf n) (tlQ ps lb)) (tden lb) (tden la)):=fun n=>rfl
 unfold fr fv at Hra
 rw[A.len,B.len]
 clear A B L hr F hn hdd hE lx ly hd0 hg0 px py hK hKK hdK hgK hD0
 generalize ratioK la lb ps.length=k at *
 generalize tlQ ps la=tx at *
 generalize tlQ ps lb=ty at *
 generalize tden la=dx at *
 generalize tden lb=dy at *
 go_enter Tryz.func193,Tryz.ntmps193
 go_wp2_with fail
 refine cm_ Hra.out ?_
 rintro e w1 ⟨rfl,hb⟩
 have B2:=hd_ (hb.alloc hb.size (.cells #[.string (itx k.num),.string (dec k.den)] 42))
 clear hb Hra
 go_wp2_with fail
 generalize w1.alloc (.cells #[.string (itx k.num),.string (dec k.den)] 42)=w2 at *
 refine cm_ (Ht1.out _ B2.out) ?_
 rintro e w3 ⟨b1,d1,b2,d2,rfl,X,hb⟩
 have B3:=hd_ (B2.out.trans (hb.mono B2.out.size))
 have HX:=hd_ X
 clear hb Ht1 X B2
 go_wp2_with fail
 refine cm_ (Ht2.out _ B3.out) ?_
 rintro e w4 ⟨b3,d3,b4,d4,rfl,Y,hb⟩
 have B4:=hd_ (B3.out.trans (hb.mono B3.out.size))
 have HX4:=hd_ (HX.out.below hb)
 have HY:=hd_ Y
 clear hb Ht2 Y B3 HX
 go_wp2_with fail
 have Bx:=hd_ (((Below.refl w4.heap.size w4).alloc nr_ (.cells #[.slice b1 tx.length d1,.slice b2 tx.length d2,.string (dec dx)] 163)).alloc ((Below.refl w4.heap.size w4).alloc nr_ (.cells #[.slice b1 tx.length d1,.slice b2 tx.length d2,.string (dec dx)] 163)).size (.cells #[.slice b3 ty.length d3,.slice b4 ty.length d4,.string (dec dy)] 163))
 have S1:=hd_ (heap_old (heap_at w4 #[.slice b1 tx.length d1,.slice b2 tx.length d2,.string (dec dx)] 163 _ rfl) (.cells #[.slice b3 ty.length d3,.slice b4 ty.length d4,.string (dec dy)] 163))
 have S2:=hd_ (heap_at (w4.alloc (.cells #[.slice b1 tx.length d1,.slice b2 tx.length d2,.string (dec dx)] 163)) #[.slice b3 ty.length d3,.slice b4 ty.length d4,.string (dec dy)] 163 (w4.heap.size+1) (by show (w4.heap.push _).size=_;exact Array.size_push ..))
 have HX5:=hd_ (HX4.out.below Bx.out)
 have HY5:=hd_ (HY.out.below Bx.out)
 have B5:=hd_ (B4.out.trans (Bx.out.mono B4.out.size))
 clear HX4 HY Bx
 generalize hN:w4.heap.size=N9 at *
 generalize (w4.alloc (.cells #[.slice b1 tx.length d1,.slice b2 tx.length d2,.string (dec dx)] 163)).alloc (.cells #[.slice b3 ty.length d3,.slice b4 ty.length d4,.string (dec dy)] 163)=w5 at *
 clear hN B4
 refine cm_ (Hqu.out _ _ _ _ _ d1 d2 d3 d4 HX5.out HY5.out (HL.out.below B5.out)) ?_
 rintro e w6 ⟨q0,bq,rfl,hq0,hb⟩
 have B6:=hd_ (B5.out.trans (hb.mono B5.out.size))
 have T1:=hd_ (heap_kept S1.out hb nr_)
 have T2:=hd_ (heap_kept S2.out hb nr_)
 have HX6:=hd_ (HX5.out.below hb)
 have HY6:=hd_ (HY5.out.below hb)
 have Hq0:=hd_ hq0
 clear hb Hqu HX5 HY5 S1 S2 B5 hq0
 cases bq with
 | true =>
  obtain⟨hqt,hlo,hhi⟩:=Hq0.out rfl
  have Hoq:=hd_ (Hof.out w6 q hlo hhi B6.out)
  rw[hqt]
  clear hqt hlo hhi
  go_wp2_with fail
  refine cm_ Hoq.out ?_
  rintro e w7 ⟨rfl,hb⟩
  have B7:=hd_ (B6.out.trans (hb.mono B6.out.size))
  clear hb Hoq
  go_wp2_with fail
  go_ret
  exact⟨rfl,B7.out⟩
 | false =>
  clear Hq0 Hof
  go_wp2_with fail
  go_loopw [13] (fun a wr=>∃ (n:Nat),Hid (n=64∨n=128)∧n≤128∧a = .int .i64 n∧Hid (Below w.heap.size w wr)∧Hid (wr.heap[N9]?=some (.cells #[.slice b1 tx.length d1,.slice b2 tx.length d2,.string (dec dx)] 163 (0,0)))∧Hid (wr.heap[N9+1]?=some (.cells #[.slice b3 ty.length d3,.slice b4 ty.length d4,.string (dec dy)] 163 (0,0)))∧Hid (TermsAt wr tx b1 b2)∧Hid (TermsAt wr ty b3 b4)) (fun a _=>128-(intOf a).toNat)
  case atStart=>exact⟨64,.inl rfl,by decide,rfl,B6,T1,T2,HX6,HY6⟩
  case round =>
   clear B6 T1 T2 HX6 HY6
   obtain⟨n,Hp,hn,rfl,B1,T1,T2,HX,HY⟩:=hrel
   obtain⟨vx1,vx2⟩:=Hbx.out n (by omega)
   obtain⟨vy1,vy2⟩:=Hby.out n (by omega)
   have HE1:=hd_ (Hen1.out n wr b1 b2 d1 d2 (by omega) HX.out (HL.out.below B1.out))
   have HE2:Hid (∀ W,Below wr.heap.size wr W→Gives Tryz.prog 172 #[.agg (tcells b3 d3 b4 d4 ty.length dy),.int .i64 n] W (.tuple #[.string (itx (LN.eLo (lf n) ty)),.string (itx (LN.eHi (lf n) ty))])):=fun W hW=>Hen2.out n W b3 b4 d3 d4 (by omega) (HY.out.below hW) (HL.out.below (B1.out.trans (hW.mono B1.out.size)))
   have Hf:=hd_ (Hfl.out n)
   have Hspec:Hid (∀ r,flAt n tx ty dx dy=some r→r=q):=fun r h=>HfF.out n r Hp.out h
   obtain⟨⟨hx0,hxx⟩,hy0⟩:=Hps.out n (by omega)
   have hn0:0<n:=by rcases Hp.out with h | h<;>omega
   have Hnx:Hid (flAt n tx ty dx dy=none→n*2≤128∧(n*2=64∨n*2=128)):=fun h=>by
    rcases Hp.out with e|e
    ·subst e;exact⟨by decide,.inr rfl⟩
    ·subst e;exact absurd h Hdec.out
   clear Hen1 Hen2 Hfl HfF Hdec Hbx Hby Hps
   have hyy:=eLo_le (lf n) ty
   generalize flAt n tx ty dx dy=fl at *
   generalize LN.eLo (lf n) tx=xl at *
   generalize LN.eHi (lf n) tx=xh at *
   generalize LN.eLo (lf n) ty=yl at *
   generalize LN.eHi (lf n) ty=yh at *
   have hwn:IntKind.i64.wrap ((n:Int)*2)=((n*2:Nat):Int):=by rw[show (n:Int)*2=((n*2:Nat):Int) by omega];exact iw_ _ (by omega)
   obtain⟨m0,m1,m2,-⟩:=obj_cells3 T1.out
   go_wp2_with fail
   refine cm_ HE1.out ?_
   rintro e_ w2 ⟨rfl,hb⟩
   replace HE2:=hd_ (HE2.out w2 hb)
   have B2:=hd_ (B1.out.trans (hb.mono B1.out.size))
   replace T1:=hd_ (heap_kept T1.out hb nr_)
   replace T2:=hd_ (heap_kept T2.out hb nr_)
   replace HX:=hd_ (HX.out.below hb)
   replace HY:=hd_ (HY.out.below hb)
   clear hb HE1 B1 m0 m1 m2
   obtain⟨m0,m1,m2,-⟩:=obj_cells3 T2.out
   go_wp2_with fail
   clear m0 m1 m2
   refine cm_ (HE2.out) ?_
   rintro e_ w3 ⟨rfl,hb⟩
   have B3:=hd_ (B2.out.trans (hb.mono B2.out.size))
   replace T1:=hd_ (heap_kept T1.out hb nr_)
   replace T2:=hd_ (heap_kept T2.out hb nr_)
   replace HX:=hd_ (HX.out.below hb)
   replace HY:=hd_ (HY.out.below hb)
   clear hb B2
   clear HE2
   go_wp2_with fail
   refine cm_ (HS.out yh _) ?_
   rintro e_ w4 ⟨rfl,hb⟩
   have B4:=hd_ (B3.out.trans (hb.mono B3.out.size))
   replace T1:=hd_ (heap_kept T1.out hb nr_)
   replace T2:=hd_ (heap_kept T2.out hb nr_)
   replace HX:=hd_ (HX.out.below hb)
   replace HY:=hd_ (HY.out.below hb)
   clear hb B3
   have hsg0:¬ yh.sign≤0:=by have:=sign_cases yh;omega
   generalize yh.sign=sg0 at *
   go_wp2_with fail
   refine cm_ (HS.out yl _) ?_
   rintro e_ w5 ⟨rfl,hb⟩
   have B5:=hd_ (B4.out.trans (hb.mono B4.out.size))
   replace T1:=hd_ (heap_kept T1.out hb nr_)
   replace T2:=hd_ (heap_kept T2.out hb nr_)
   replace HX:=hd_ (HX.out.below hb)
   replace HY:=hd_ (HY.out.below hb)
   clear hb B4
   have hsg:0<yl.sign:=by have:=sign_cases yl;omega
   generalize yl.sign=sg at *
   go_wp2_with fail
   clear hsg
   refine cm_ (HS.out xl _) ?_
   rintro e_ w6 ⟨rfl,hb⟩
   have B6:=hd_ (B5.out.trans (hb.mono B5.out.size))
   replace T1:=hd_ (heap_kept T1.out hb nr_)
   replace T2:=hd_ (heap_kept T2.out hb nr_)
   replace HX:=hd_ (HX.out.below hb)
   replace HY:=hd_ (HY.out.below hb)
   clear hb B5
   have hsg:¬ xl.sign<0:=by have:=sign_cases xl;omega
   generalize xl.sign=sg at *
   go_wp2_with fail
   clear hsg
   refine cm_ (HS.out xh _) ?_
   rintro e_ w7 ⟨rfl,hb⟩
   have B7:=hd_ (B6.out.trans (hb.mono B6.out.size))
   replace T1:=hd_ (heap_kept T1.out hb nr_)
   replace T2:=hd_ (heap_kept T2.out hb nr_)
   replace HX:=hd_ (HX.out.below hb)
   replace HY:=hd_ (HY.out.below hb)
   clear hb B6
   have hsg:¬ xh.sign<0:=by have:=sign_cases xh;omega
   generalize xh.sign=sg at *
   obtain⟨k0,k1,k2,-⟩:=obj_cells3 T1.out
   obtain⟨m0,m1,m2,-⟩:=obj_cells3 T2.out
   have s2:=BW.cell k2
   have r2:=BW.cell m2
   have hnon:Nonempty (BW w7):=⟨⟨w7,Below.refl _ _⟩⟩
   have I:Hid (Below w7.heap.size w7 w7.drew):=(Below.refl _ _).drew
   go_wp2_with fail
   clear k0 k1 k2 m0 m1 m2
   refine RP.wp_region_readers 15 [(1,0),(1,1),(1,2),(1,4),(1,5),(1,6),(0,3),(0,7),(0,8),(2,9),(2,10),(2,11),(2,12),(0,13),(0,14),(0,15)] (fun w'=>∃ p:BW w7,w'=p.w) (by kernel_rfl) (by kernel_rfl) ?_ ?_
   ·exact⟨⟨_,I.out⟩,rfl⟩
   iterate 6 (refine RP.walkR_read ?_;simp only[dsc_,dz_,tsc_,tz_];go_big_quiet_step (fail);refine wpQuiet_nil ?_)
   clear hnon s2 r2
   refine RP.walkR_move ?_
   simp only[dsc_,dz_,tsc_,tz_]
   go_wp2_with fail
   refine cm_ (HMg.out xl _ (by omega) (B7.out.drew)) ?_
   rintro e_ wa ⟨rfl,hb⟩
   have Wa:Hid (Below w7.heap.size w7 wa):=(Below.refl w7.heap.size w7).drew.trans hb
   clear hb I
   go_wp2_with fail
   refine⟨⟨⟨_,Wa.out⟩,rfl⟩,?_⟩
   refine RP.walkR_move ?_
   simp only[dsc_,dz_,tsc_,tz_]
   go_wp2_with fail
   refine cm_ (HMd.out yh _ (by omega) (B7.out.trans (Wa.out.mono B7.out.size))) ?_
   rintro e_ wb ⟨rfl,hb⟩
   have Wb:=hd_ (Wa.out.trans (hb.mono Wa.out.size))
   clear hb Wa
   go_wp2_with fail
   refine⟨⟨⟨_,Wb.out⟩,rfl⟩,?_⟩
   refine RP.walkR_move ?_
   simp only[dsc_,dz_,tsc_,tz_]
   go_wp2_with fail
   refine cm_ (HDv.out xl yh _ (by omega) (by omega) (by omega) (B7.out.trans (Wb.out.mono B7.out.size))) ?_
   rintro e_ wc ⟨rfl,hb⟩
   have Wc:=hd_ (Wb.out.trans (hb.mono Wb.out.size))
   clear hb Wb
   go_wp2_with fail
   refine⟨⟨⟨_,Wc.out⟩,rfl⟩,?_⟩
   refine RP.walkR_any ?_
   simp only[dsc_,dz_,tsc_,tz_]
   go_big_quiet_step (fail)
   refine wpQuiet_nil ?_
   refine RP.walkR_any ?_
   simp only[dsc_,dz_,tsc_,tz_]
   go_big_quiet_step (fail)
   refine wpQuiet_nil ?_
   refine RP.walkR_any ?_
   simp only[dsc_,dz_,tsc_,tz_]
   go_big_quiet_step (fail)
   refine wpQuiet_nil ?_
   refine RP.walkR_any ?_
   simp only[dsc_,dz_,tsc_,tz_]
   go_big_quiet_step (fail)
   refine wpQuiet_nil ?_
   refine RP.walkR_move ?_
   simp only[dsc_,dz_,tsc_,tz_]
   go_wp2_with fail
   refine⟨⟨⟨_,Wc.out⟩,rfl⟩,?_⟩
   refine RP.walkR_move ?_
   simp only[dsc_,dz_,tsc_,tz_]
   go_wp2_with fail
   refine⟨⟨⟨_,Wc.out⟩,rfl⟩,?_⟩
   refine RP.walkR_move ?_
   simp only[dsc_,dz_,tsc_,tz_]
   go_wp2_with fail
   simp only[RP.walkR]
   have hb:=Wc.out
   have B8:=hd_ (B7.out.trans (hb.mono B7.out.size))
   replace T1:=hd_ (heap_kept T1.out hb nr_)
   replace T2:=hd_ (heap_kept T2.out hb nr_)
   replace HX:=hd_ (HX.out.below hb)
   replace HY:=hd_ (HY.out.below hb)
   clear hb Wc B7
   generalize wc=w8 at *
   go_wp2_with fail
   obtain⟨k0,k1,k2,-⟩:=obj_cells3 T1.out
   obtain⟨m0,m1,m2,-⟩:=obj_cells3 T2.out
   have s2:=BW.cell k2
   have r2:=BW.cell m2
   have hnon:Nonempty (BW w8):=⟨⟨w8,Below.refl _ _⟩⟩
   have I:Hid (Below w8.heap.size w8 w8.drew):=(Below.refl _ _).drew
   go_wp2_with fail
   clear k0 k1 k2 m0 m1 m2
   refine RP.wp_region_readers 15 [(1,0),(1,1),(1,2),(1,4),(1,5),(1,6),(0,3),(0,7),(0,8),(2,9),(2,10),(2,11),(2,12),(0,13),(0,14),(0,15)] (fun w'=>∃ p:BW w8,w'=p.w) (by kernel_rfl) (by kernel_rfl) ?_ ?_
   ·exact⟨⟨_,I.out⟩,rfl⟩
   iterate 6 (refine RP.walkR_read ?_;simp only[dsc_,dz_,tsc_,tz_];go_big_quiet_step (fail);refine wpQuiet_nil ?_)
   clear hnon s2 r2
   refine RP.walkR_move ?_
   simp only[dsc_,dz_,tsc_,tz_]
   go_wp2_with fail
   refine cm_ (HMg.out xh _ (by omega) (B8.out.drew)) ?_
   rintro e_ wa ⟨rfl,hb⟩
   have Wa:Hid (Below w8.heap.size w8 wa):=(Below.refl w8.heap.size w8).drew.trans hb
   clear hb I
   go_wp2_with fail
   refine⟨⟨⟨_,Wa.out⟩,rfl⟩,?_⟩
   refine RP.walkR_move ?_
   simp only[dsc_,dz_,tsc_,tz_]
   go_wp2_with fail
   refine cm_ (HMd.out yl _ (by omega) (B8.out.trans (Wa.out.mono B8.out.size))) ?_
   rintro e_ wb ⟨rfl,hb⟩
   have Wb:=hd_ (Wa.out.trans (hb.mono Wa.out.size))
   clear hb Wa
   go_wp2_with fail
   refine⟨⟨⟨_,Wb.out⟩,rfl⟩,?_⟩
   refine RP.walkR_move ?_
   simp only[dsc_,dz_,tsc_,tz_]
   go_wp2_with fail
   refine cm_ (HDv.out xh yl _ (by omega) (by omega) (by omega) (B8.out.trans (Wb.out.mono B8.out.size))) ?_
   rintro e_ wc ⟨rfl,hb⟩
   have Wc:=hd_ (Wb.out.trans (hb.mono Wb.out.size))
   clear hb Wb
   go_wp2_with fail
   refine⟨⟨⟨_,Wc.out⟩,rfl⟩,?_⟩
   refine RP.walkR_any ?_
   simp only[dsc_,dz_,tsc_,tz_]
   go_big_quiet_step (fail)
   refine wpQuiet_nil ?_
   refine RP.walkR_any ?_
   simp only[dsc_,dz_,tsc_,tz_]
   go_big_quiet_step (fail)
   refine wpQuiet_nil ?_
   refine RP.walkR_any ?_
   simp only[dsc_,dz_,tsc_,tz_]
   go_big_quiet_step (fail)
   refine wpQuiet_nil ?_
   refine RP.walkR_any ?_
   simp only[dsc_,dz_,tsc_,tz_]
   go_big_quiet_step (fail)
   refine wpQuiet_nil ?_
   refine RP.walkR_move ?_
   simp only[dsc_,dz_,tsc_,tz_]
   go_wp2_with fail
   refine⟨⟨⟨_,Wc.out⟩,rfl⟩,?_⟩
   refine RP.walkR_move ?_
   simp only[dsc_,dz_,tsc_,tz_]
   go_wp2_with fail
   refine⟨⟨⟨_,Wc.out⟩,rfl⟩,?_⟩
   refine RP.walkR_move ?_
   simp only[dsc_,dz_,tsc_,tz_]
   go_wp2_with fail
   simp only[RP.walkR]
   have hb:=Wc.out
   have B9:=hd_ (B8.out.trans (hb.mono B8.out.size))
   replace T1:=hd_ (heap_kept T1.out hb nr_)
   replace T2:=hd_ (heap_kept T2.out hb nr_)
   replace HX:=hd_ (HX.out.below hb)
   replace HY:=hd_ (HY.out.below hb)
   clear hb Wc B8
   generalize wc=w9 at *
   have hfl:fl=if xl*(dy:Int)/(yh*(dx:Int))=xh*(dy:Int)/(yl*(dx:Int)) then some (xl*(dy:Int)/(yh*(dx:Int))) else none:=by
    rw[Hf.out]
    unfold flS
    rw[if_neg (show ¬ yh≤0 by omega)]
    unfold flE LN.quoL LN.quoH
    rw[if_neg (show ¬ yl≤0 by omega),if_neg (show ¬ xl<0 by omega),if_neg (show ¬ xh<0 by omega)]
   have hsame:=same_itx (xl*(dy:Int)/(yh*(dx:Int))) (xh*(dy:Int)/(yl*(dx:Int)))
   clear Hf
   generalize xl*(dy:Int)/(yh*(dx:Int))=q1 at *
   generalize xh*(dy:Int)/(yl*(dx:Int))=q2 at *
   by_cases hqq:q1=q2
   ·rw[if_pos hqq] at hfl
    rw[decide_eq_true hqq] at hsame
    have Hans:=hd_ (Hspec.out _ hfl)
    clear hfl hqq Hspec Hnx
    go_wp2_with fail
    go_ret
    exact⟨by rw[Hans.out];rfl,B9.out⟩
   ·rw[if_neg hqq] at hfl
    rw[decide_eq_false hqq] at hsame
    obtain⟨hn2,hp2⟩:=Hnx.out hfl
    have Hp2:=hd_ hp2
    clear hfl hqq Hspec Hnx hp2
    go_wp2_with fail
    go_roundw
    case rel=>exact⟨n*2,Hp2,hn2,rfl,B9,T1,T2,HX,HY⟩
    case measure=>simp[intOf];omega
theorem lf_low38:∀ p∈oddP,(lgN ((p:Nat):Int) 128+1)%274877906944≠0:=by decide +kernel
theorem eLo_one(f:Int→Nat)(p k:Int)(h:0≤k):LN.eLo f [(p,k)]=k*(f p:Int):=by
 have e1:LN.eLo f [(p,k)]=(if k<0 then k*(LN.hiL f p:Int) else k*(f p:Int))+0:=by simp[LN.eLo]
 rw[e1,if_neg (by omega),Int.add_zero]
theorem eHi_one(f:Int→Nat)(p k:Int)(h:0≤k):LN.eHi f [(p,k)]=k*(LN.hiL f p:Int):=by
 have e1:LN.eHi f [(p,k)]=(if k<0 then k*(f p:Int) else k*(LN.hiL f p:Int))+0:=by simp[LN.eHi]
 rw[e1,if_neg (by omega),Int.add_zero]
theorem flAt_pow{p n N:Nat}(hp:p∈oddP)(hN:N≤1056)(hn:n+38≤N)(hl:(lgN p N+1)%274877906944≠0):
  flAt N [((p:Int),((2^n:Nat):Int))] [((2:Int),(1:Int))] 1 1=some ((lgN p n:Nat):Int):=by
 have hcut:=lgN_cut (p:=p) (.inr hp) (N-n) (n:=n) (by omega)
 rw[show n+(N-n)=N by omega] at hcut
 have hp2:((p:Nat):Int)≠2:=by have:=oddP_odd hp;omega
 have h2n:(2:Nat)^N=2^n*2^(N-n):=by rw[← Nat.pow_add];congr 1;omega
 have hdv:274877906944 ∣ 2^(N-n):=by
  rw[show (274877906944:Nat)=2^38 by decide]
  exact Nat.pow_dvd_pow 2 (by omega)
 have hnd:¬ 2^(N-n) ∣ lgN p N+1:=fun h=>hl (Nat.mod_eq_zero_of_dvd (Nat.dvd_trans hdv h))
 have hsd:(lgN p N+1)/2^(N-n)=lgN p N/2^(N-n):=Nat.succ_div_of_not_dvd hnd
 have hpos:=Nat.two_pow_pos n
 have hpos2:=Nat.two_pow_pos (N-n)
 unfold flAt
 rw[eLo_one _ _ _ (by omega),eHi_one _ _ _ (by omega),eLo_one _ _ _ (by decide),eHi_one _ _ _ (by decide)]
 have f1:LN.hiL (lf N) p=lgN p N+1:=by unfold LN.hiL lf;rw[if_neg hp2]
 have f2:LN.hiL (lf N) 2=2^N:=by unfold LN.hiL lf;rw[if_pos rfl,lgN_two]
 have f3:lf N 2=2^N:=lgN_two N
 have f4:lf N p=lgN p N:=rfl
 rw[f1,f2,f3,f4,h2n]
 clear f1 f2 f3 f4 h2n hl hnd hdv
 rw[hcut] at hsd
 generalize lgN p N=L at *
 generalize lgN p n=K at *
 generalize (2:Nat)^n=A at *
 generalize (2:Nat)^(N-n)=D at *
 have g1:((A:Int)*(L:Int))=((A*L:Nat):Int):=by rw[Int.natCast_mul]
 have g2:((A:Int)*((L+1:Nat):Int))=((A*(L+1):Nat):Int):=by rw[Int.natCast_mul]
 have hAD:0<A*D:=Nat.mul_pos hpos hpos2
 have q1:LN.quoL ((A:Int)*(L:Int)) (1*((A*D:Nat):Int)) (1*((A*D:Nat):Int)) 1 1=(K:Int):=by
  unfold LN.quoL
  rw[g1,if_neg (by omega),Int.mul_one,Int.mul_one,Int.one_mul,← Int.natCast_ediv,Nat.mul_div_mul_left _ _ hpos,hcut]
 have q2:LN.quoH ((A:Int)*((L+1:Nat):Int)) (1*((A*D:Nat):Int)) (1*((A*D:Nat):Int)) 1 1=(K:Int):=by
  unfold LN.quoH
  rw[g2,if_neg (by omega),Int.mul_one,Int.mul_one,Int.one_mul,← Int.natCast_ediv,Nat.mul_div_mul_left _ _ hpos,hsd]
 unfold flS
 rw[if_neg (by rw[Int.one_mul];omega)]
 unfold flE
 rw[if_neg (by rw[Int.one_mul];omega)]
 have c1:((1:Nat):Int)=1:=rfl
 rw[c1,q1,q2,if_pos rfl]
theorem flAt_pow_val{p n N:Nat}{r:Int}(hp:p∈oddP)(hN:N≤1056)(h:flAt N [((p:Int),((2^n:Nat):Int))] [((2:Int),(1:Int))] 1 1=some r):r=((lgN p n:Nat):Int):=by
 have hp2:((p:Nat):Int)≠2:=by have:=oddP_odd hp;omega
 have hz:(0:Int)≤((2^n:Nat):Int):=Int.natCast_nonneg _
 unfold flAt at h
 rw[eLo_one _ _ _ hz,eHi_one _ _ _ hz,eLo_one _ _ _ (by decide),eHi_one _ _ _ (by decide)] at h
 have f1:LN.hiL (lf N) p=lgN p N+1:=by unfold LN.hiL lf;rw[if_neg hp2]
 have f2:LN.hiL (lf N) 2=2^N:=by unfold LN.hiL lf;rw[if_pos rfl,lgN_two]
 have f3:lf N 2=2^N:=lgN_two N
 have f4:lf N p=lgN p N:=rfl
 rw[f1,f2,f3,f4] at h
 have hpos:=Nat.two_pow_pos n
 have hposN:=Nat.two_pow_pos N
 unfold flS at h
 rw[if_neg (by rw[Int.one_mul];omega)] at h
 obtain⟨-,h1,h2⟩:=flE_some h
 unfold LN.quoL at h1
 unfold LN.quoH at h2
 have c1:((1:Nat):Int)=1:=rfl
 rw[c1,← Int.natCast_mul,if_neg (by omega),Int.mul_one,Int.mul_one,Int.one_mul,← Int.natCast_ediv] at h1
 rw[c1,← Int.natCast_mul,if_neg (by omega),Int.mul_one,Int.mul_one,Int.one_mul,← Int.natCast_ediv] at h2
 rcases Nat.lt_or_ge N n with hc|hc
 ·exfalso
  have e:(2:Nat)^n=2^N*2^(n-N):=by rw[← Nat.pow_add];congr 1;omega
  have hd:=Nat.two_pow_pos (n-N)
  rw[e,Nat.mul_assoc,Nat.mul_div_cancel_left _ hposN] at h1
  rw[e,Nat.mul_assoc,Nat.mul_div_cancel_left _ hposN,Nat.mul_add,Nat.mul_one] at h2
  omega
 ·have hcut:=lgN_cut (p:=p) (.inr hp) (N-n) (n:=n) (by omega)
  rw[show n+(N-n)=N by omega] at hcut
  have e:(2:Nat)^N=2^n*2^(N-n):=by rw[← Nat.pow_add];congr 1;omega
  rw[e,Nat.mul_div_mul_left _ _ hpos,hcut] at h1
  exact h1.symm
def pwA (n:Nat):List Rat:=[0,((((2^n:Nat):Int)):Rat)]
def pwB:List Rat:=[1,0]
theorem tden_pwA(n:Nat):tden (pwA n)=1:=by
 have h:=LN.tden_min (l:=pwA n) (D:=1) fun q hq=>by
  simp only[pwA,List.mem_cons,List.not_mem_nil,or_false] at hq
  rcases hq with rfl|rfl
  ·exact Nat.dvd_refl 1
  ·rw[Rat.den_intCast];exact Nat.dvd_refl 1
 exact Nat.dvd_one.1 h
theorem tden_pwB:tden pwB=1:=by decide +kernel
theorem tlQ_pow(p n:Nat):tlQ [2,(p:Int)] (pwA n)=[((p:Int),((2^n:Nat):Int))]:=by
 have h0:=Nat.two_pow_pos n
 unfold tlQ
 rw[tden_pwA]
 unfold tlist pwA
 generalize 2^n=A at *
 rw[List.zip_cons_cons,List.zip_cons_cons,List.filterMap_cons,List.filterMap_cons]
 have z0:(0:Rat).num=0:=rfl
 have z1:((((A:Nat):Int)):Rat).num=((A:Nat):Int):=by rw[Rat.num_intCast]
 have z2:((((A:Nat):Int)):Rat).den=1:=by rw[Rat.den_intCast]
 simp only[z0,z1,z2,if_pos]
 rw[if_neg (by omega)]
 simp
theorem tlQ_oct(p:Nat):tlQ [2,(p:Int)] pwB=[((2:Int),(1:Int))]:=by
 unfold tlQ
 rw[tden_pwB]
 unfold tlist pwB
 rw[List.zip_cons_cons,List.zip_cons_cons,List.filterMap_cons,List.filterMap_cons]
 rfl
theorem pcode_two{p:Nat}(hp:p∈oddP):pcode [2,(p:Int)]=0:=by
 have key:∀ q∈oddP,pcode [2,((q:Nat):Int)]=0:=by decide +kernel
 exact key p hp
theorem all_two{p:Nat}(hp:p∈oddP):∀ x∈[2,(p:Int)],x∈allP:=by
 have key:∀ q∈oddP,((q:Nat):Int)∈allP:=by decide
 intro x hx
 simp only[List.mem_cons,List.not_mem_nil,or_false] at hx
 rcases hx with rfl|rfl
 ·decide
 ·exact key p hp
theorem low_one(p k:Int):lowT [(p,k)]=min (k*lgA p) (k*lgB p)∧highT [(p,k)]=max (k*lgA p) (k*lgB p):=by
 unfold lowT highT
 exact⟨by simp,by simp⟩
theorem oct_okt:okT 100000 ((2:Int),(1:Int)):=by decide +kernel
theorem oct_lg:lgA 2=67108864∧lgB 2=67108864:=by decide +kernel
theorem odd_lgA:∀ q∈oddP,(0:Int)≤lgA ((q:Nat):Int)∧lgA ((q:Nat):Int)≤500000000∧lgB ((q:Nat):Int)=lgA ((q:Nat):Int)+1:=by decide +kernel
theorem floor_pow{p n:Nat}(hp:p∈oddP)(hn:n≤90):FlrZp [2,(p:Int)] (pwA n) pwB 91 ((lgN p n:Nat):Int):=by
 have hpos:=Nat.two_pow_pos n
 obtain⟨o1,o2⟩:=oct_lg
 obtain⟨g1,g2,g3⟩:=odd_lgA p hp
 obtain⟨l1,l2⟩:=low_one (p:Int) ((2^n:Nat):Int)
 obtain⟨m1,m2⟩:=low_one 2 1
 rw[o1,o2] at m1 m2
 rw[g3] at l1 l2
 have q1:((2^n:Nat):Int)*lgA p≤((2^n:Nat):Int)*(lgA p+1):=Int.mul_le_mul_of_nonneg_left (by omega) (by omega)
 have q0:0≤((2^n:Nat):Int)*lgA p:=Int.mul_nonneg (by omega) g1
 rw[Int.min_eq_left q1] at l1
 rw[Int.max_eq_right q1] at l2
 have m1':lowT [((2:Int),(1:Int))]=67108864:=m1
 have m2':highT [((2:Int),(1:Int))]=67108864:=m2
 have hm:∀ {P:Int×Int→Prop} {x:Int×Int},P x→∀ t∈[x],P t:=fun h t ht=>by obtain rfl:=List.mem_singleton.1 ht;exact h
 refine⟨all_two hp,by simp,?_,?_,by rw[tden_pwA];decide,by rw[tden_pwB];decide,by decide,fun N hN=>?_,?_,fun N r hN h=>?_,?_,?_,by rw[tden_pwA];decide,by rw[tden_pwB];decide,?_,?_,fun h=>?_,?_,?_,?_,fun h=>?_⟩
 ·rw[tlQ_pow]
  refine hm (P:=fun t=>t.2.natAbs<2^91) ?_
  show (((2^n:Nat):Int)).natAbs<2^91
  rw[Int.natAbs_natCast]
  exact Nat.pow_lt_pow_right (by decide) (by omega)
 ·rw[tlQ_oct]
  exact hm (P:=fun t=>t.2.natAbs<2^91) (by decide)
 ·rw[tlQ_pow,tlQ_oct,eLo_one _ _ _ (Int.natCast_nonneg _),eLo_one _ _ _ (by decide)]
  refine⟨Int.mul_nonneg (Int.natCast_nonneg _) (Int.natCast_nonneg _),?_⟩
  have f3:lf N 2=2^N:=lgN_two N
  rw[f3,Int.one_mul]
  have:=Nat.two_pow_pos N
  omega
 ·rw[tlQ_pow,tlQ_oct,tden_pwA,tden_pwB,flAt_pow hp (by decide) (by omega) (lf_low38 p hp)]
  exact fun h=>by cases h
 ·rw[tlQ_pow,tlQ_oct,tden_pwA,tden_pwB] at h
  exact flAt_pow_val hp (by omega) h
 ·refine decide_eq_false fun h=>?_
  have h1:=h 1 (by simp)
  have e1:pwB.getD 1 0=0:=rfl
  have e2:(pwA n).getD 1 0=((((2^n:Nat):Int)):Rat):=rfl
  rw[e1,e2,Rat.mul_zero] at h1
  have h2:((0:Int):Rat)=((((2^n:Nat):Int)):Rat):=h1
  have:=Rat.intCast_inj.1 h2
  omega
 ·rw[tlQ_oct]
  exact hm (P:=okT 100000) oct_okt
 ·rw[tlQ_pow,l1];exact q0
 ·rw[tlQ_pow,l1,l2];exact q1
 ·rw[tlQ_pow] at h
  have hk:=(h _ (List.mem_singleton.2 rfl)).1.2
  rw[tlQ_pow,l2]
  have hk':((2^n:Nat):Int)≤100000:=hk
  have:=Int.mul_le_mul hk' (show lgA p+1≤500000001 by omega) (by omega) (by omega)
  omega
 ·rw[tlQ_oct,m1'];decide
 ·rw[tlQ_oct,m1',m2'];decide
 ·rw[tlQ_oct,m2'];decide
 ·rw[tlQ_pow] at h
  have hk:=h _ (List.mem_singleton.2 rfl)
  have hk':((2^n:Nat):Int)≤100000:=hk.1.2
  have hd:=(lgA_lf (p:=(p:Int)) ⟨p,rfl,.inr hp⟩ hk.2).1
  have hn16:n≤16:=by
   refine Nat.le_of_not_lt fun hc=>?_
   have:2^17≤2^n:=Nat.pow_le_pow_right (by decide) hc
   have e:(2:Nat)^17=131072:=by decide
   omega
  rw[tlQ_pow,tlQ_oct,l1,m2',tden_pwA,tden_pwB,hd]
  have hcut:=lgN_cut (p:=p) (.inr hp) (26-n) (n:=n) (by omega)
  rw[show n+(26-n)=26 by omega] at hcut
  have e:(67108864:Nat)=2^n*2^(26-n):=by
   rw[← Nat.pow_add,show n+(26-n)=26 by omega]
  have f4:lf 26 p=lgN p 26:=rfl
  have key:((2^n:Nat):Int)*((lf 26 p:Nat):Int)*((1:Nat):Int)/(67108864*((1:Nat):Int))=((lgN p n:Nat):Int):=by
   rw[show (67108864:Int)=((67108864:Nat):Int) from rfl,← Int.natCast_mul,← Int.natCast_mul,← Int.natCast_mul,← Int.natCast_ediv,Nat.mul_one,Nat.mul_one,e,Nat.mul_div_mul_left _ _ hpos,f4,hcut]
  have hlt:=lgN_le (.inr hp) (show n≤1056 by omega)
  have h16:2^n≤2^16:=Nat.pow_le_pow_right (by decide) hn16
  have e16:(2:Nat)^16=65536:=by decide
  exact⟨key,by omega,by omega⟩
theorem pw_sm{n:Nat}(hn:n≤90):(∀ q∈pwA n,Sm 30 q)∧∀ q∈pwB,Sm 30 q:=by
 have h1:(2:Nat)^n≤2^90:=Nat.pow_le_pow_right (by decide) hn
 have h2:(2:Nat)^90<10^30:=by decide
 have z:Sm 30 (0:Rat):=⟨by decide,by decide⟩
 constructor
 ·intro q hq
  simp only[pwA,List.mem_cons,List.not_mem_nil,or_false] at hq
  rcases hq with rfl|rfl
  ·exact z
  ·exact⟨by rw[Rat.num_intCast,Int.natAbs_natCast];omega,by rw[Rat.den_intCast];decide⟩
 ·intro q hq
  simp only[pwB,List.mem_cons,List.not_mem_nil,or_false] at hq
  rcases hq with rfl|rfl
  ·exact⟨by decide,by decide⟩
  ·exact z
theorem lgN_bits{p n:Nat}(hp:p∈oddP)(hn:n≤1056):2^lgN p n≤p^(2^n)∧p^(2^n)<2^(lgN p n+1):=by
 have h:=lgN_at (.inr hp) hn
 exact⟨h.le,h.lt⟩
theorem num_pw{p k:Nat}(hp:p≤97)(hk:k≤4000):Num (p^k):=by
 show (dec (p^k)).size≤1000000
 obtain⟨D,hD⟩:∃ D:Nat,D=8001:=⟨_,rfl⟩
 refine Nat.le_trans ((size_lt (p^k) D (by omega)).2 ?_) (by omega)
 have h1:p^k≤(10^2)^k:=Nat.pow_le_pow_left (by omega) k
 rw[← Nat.pow_mul] at h1
 exact Nat.lt_of_le_of_lt h1 (Nat.pow_lt_pow_right (by decide) (by omega))
theorem low14_two(w:World)(n:Nat)(hn:n≤90)(L:Laid w):Gives Tryz.prog 49 #[.int .i64 2,.int .i64 n] w (.string (dec (lgN 2 n))):=by
 have h:=power2_dec w 2 n (by decide) (num_pw (by decide) (by omega)) (by omega) L
 rw[dec_two] at h
 rw[lgN_two]
 unfold Gives
 have H:=hd_ h
 clear h L hn
 generalize dec (2^n)=s at *
 go_enter Tryz.func49,Tryz.ntmps49
 go_wp2_with fail
 refine cm_ H.out ?_
 rintro e w1 ⟨rfl,hb⟩
 have B1:=hd_ hb
 clear hb H
 go_wp2_with fail
 go_ret
 exact⟨rfl,B1.out⟩
theorem low14_low(w:World)(p n:Nat)(hp:p∈oddP)(hn:n≤9)(L:Laid w):Gives Tryz.prog 49 #[.int .i64 p,.int .i64 n] w (.string (dec (lgN p n))):=by
 have h97:=oddP_odd hp
 obtain⟨b1,b2⟩:=lgN_bits hp (show n≤1056 by omega)
 have hlt:=lgN_le (.inr hp) (show n≤1056 by omega)
 have h2n:2^n≤512:=by
  have:2^n≤2^9:=Nat.pow_le_pow_right (by decide) hn
  simpa using this
 have hsh:(1:Int)*2^n=((2^n:Nat):Int):=by rw[Int.one_mul,Int.natCast_pow];rfl
 obtain⟨K,hK⟩:∃ K,2^n=K:=⟨_,rfl⟩
 obtain⟨T,hT⟩:∃ T,lgN (p:Int) n=T:=⟨_,rfl⟩
 rw[hK] at h2n b1 b2 hlt hsh
 rw[hT] at b1 b2 hlt ⊢
 unfold Gives
 have H1:=hd_ (fun W (hW:Below w.heap.size w W)=>of2_any W (p:Int) (by omega) (by omega) (L.below hW))
 have H2:=hd_ (fun W (hW:Below w.heap.size w W)=>power2_dec W p K (by omega) (num_pw (by omega) (by omega)) (by omega) (L.below hW))
 have H3:=hd_ (fun W (hW:Below w.heap.size w W)=>bits2_any W (p^K) T (num_pw (by omega) (by omega)) b1 b2 (by omega) (L.below hW))
 have H4:=hd_ (fun W (hW:Below w.heap.size w W)=>of2_any W (T:Int) (by omega) (by omega) (L.below hW))
 rw[itx_nat] at H1 H4
 have hp2:((p:Int)==2)=false:=by rw[beq_eq_false_iff_ne];omega
 have hn9:(n:Int)≤9:=by omega
 have ew1:IntKind.i64.wrap (K:Int)=(K:Int):=iw_ _ (by omega)
 have ew2:IntKind.i64.wrap (((T+1:Nat):Int)-1)=(T:Int):=by rw[show ((T+1:Nat):Int)-1=(T:Int) by omega];exact iw_ _ (by omega)
 have ew3:IntKind.i64.wrap ((T:Int)+1-1)=(T:Int):=by rw[show (T:Int)+1-1=(T:Int) by omega];exact iw_ _ (by omega)
 have ew4:wrap64 (T:Int)=(T:Int):=IntWalk.wrap64_in _ ⟨by clear ew1 ew2 ew3;omega,by clear ew1 ew2 ew3;omega⟩
 clear hp h97 b1 b2 hlt hT hK L
 generalize dec T=st at *
 generalize dec (p^K)=sk at *
 generalize dec p=sp at *
 go_enter Tryz.func49,Tryz.ntmps49
 have hnon:Nonempty (NW w):=⟨⟨w,Below.refl _ _⟩⟩
 have I:Hid (Below w.heap.size w w.drew):=(Below.refl _ _).drew
 go_wp2_with fail
 refine RP.wp_region_readers 8 [(2,0),(2,2),(2,3),(0,1),(0,4),(0,5),(0,6),(0,7),(0,8)] (fun w'=>∃ p:NW w,w'=p.w) (by kernel_rfl) (by kernel_rfl) ?_ ?_
 ·exact⟨⟨_,I.out⟩,rfl⟩
 iterate 3 (refine RP.walkR_any ?_;simp only[dsc_,dz_,tsc_,tz_];go_big_quiet_step (fail);refine wpQuiet_nil ?_)
 clear hnon
 refine RP.walkR_move ?_
 simp only[dsc_,dz_,tsc_,tz_]
 go_wp2_with fail
 refine cm_ (H1.out _ I.out) ?_
 rintro e_ x1 ⟨rfl,hb_⟩
 have W_x1:Hid (Below w.heap.size w x1):=I.out.trans (hb_.mono I.out.size)
 clear hb_ H1 I
 go_wp2_with fail
 refine⟨⟨⟨_,W_x1.out⟩,rfl⟩,?_⟩
 refine RP.walkR_move ?_
 simp only[dsc_,dz_,tsc_,tz_]
 go_wp2_with fail
 refine cm_ (H2.out _ W_x1.out) ?_
 rintro e_ x2 ⟨rfl,hb_⟩
 have W_x2:Hid (Below w.heap.size w x2):=W_x1.out.trans (hb_.mono W_x1.out.size)
 clear hb_ H2 W_x1
 go_wp2_with fail
 refine⟨⟨⟨_,W_x2.out⟩,rfl⟩,?_⟩
 refine RP.walkR_move ?_
 simp only[dsc_,dz_,tsc_,tz_]
 go_wp2_with fail
 refine cm_ (H3.out _ W_x2.out) ?_
 rintro e_ x3 ⟨rfl,hb_⟩
 have W_x3:Hid (Below w.heap.size w x3):=W_x2.out.trans (hb_.mono W_x2.out.size)
 clear hb_ H3 W_x2
 go_wp2_with fail
 refine⟨⟨⟨_,W_x3.out⟩,rfl⟩,?_⟩
 refine RP.walkR_move ?_
 simp only[dsc_,dz_,tsc_,tz_]
 go_wp2_with fail
 refine⟨⟨⟨_,W_x3.out⟩,rfl⟩,?_⟩
 refine RP.walkR_move ?_
 simp only[dsc_,dz_,tsc_,tz_]
 go_wp2_with fail
 refine cm_ (H4.out _ W_x3.out) ?_
 rintro e_ x4 ⟨rfl,hb_⟩
 have W_x4:Hid (Below w.heap.size w x4):=W_x3.out.trans (hb_.mono W_x3.out.size)
 clear hb_ H4 W_x3
 go_wp2_with fail
 refine⟨⟨⟨_,W_x4.out⟩,rfl⟩,?_⟩
 refine RP.walkR_move ?_
 simp only[dsc_,dz_,tsc_,tz_]
 go_wp2_with fail
 simp only[RP.walkR]
 go_wp2_with fail
 go_ret
 exact⟨rfl,W_x4.out⟩
theorem rq_zero_one:cellsQ pwB=[.string ⟨#[49]⟩,.string ⟨#[49]⟩,.string ⟨#[48]⟩,.string ⟨#[49]⟩]:=by
 obtain⟨z1,z2⟩:=zero_txt
 have o1:itx (1:Rat).num=⟨#[49]⟩:=by show itx 1=_;rw[show itx 1=dec 1 from itx_nat 1,dec_one]
 have o2:dec (1:Rat).den=⟨#[49]⟩:=dec_one
 show ([.string (itx (1:Rat).num),.string (dec (1:Rat).den),.string (itx (0:Rat).num),.string (dec (0:Rat).den)]:List Value)=_
 rw[z1,z2,o1,o2]
theorem rq_zero_pow(n:Nat):cellsQ (pwA n)=[.string ⟨#[48]⟩,.string ⟨#[49]⟩,.string (dec (2^n)),.string ⟨#[49]⟩]:=by
 obtain⟨z1,z2⟩:=zero_txt
 unfold pwA
 generalize 2^n=A
 show ([.string (itx (0:Rat).num),.string (dec (0:Rat).den),.string (itx (((A:Int)):Rat).num),.string (dec (((A:Int)):Rat).den)]:List Value)=_
 rw[z1,z2,Rat.num_intCast,Rat.den_intCast,itx_nat,dec_one]
theorem low14_big(w:World)(p n:Nat)(hp:p∈oddP)(h9:9<n)(hn:n≤90)(L:Laid w):Gives Tryz.prog 49 #[.int .i64 p,.int .i64 n] w (.string (dec (lgN p n))):=by
 have h97:=oddP_odd hp
 have hok:=floor_pow hp hn
 have hpc:=pcode_two hp
 obtain⟨sA,sB⟩:=pw_sm hn
 have hpr:∀ x∈[2,(p:Int)],2≤x∧x≤97:=fun x hx=>by
  simp only[List.mem_cons,List.not_mem_nil,or_false] at hx
  rcases hx with rfl|rfl<;>omega
 have hsz:∀ (W:World) (a0 a1:Option Addr) (l:List Rat),Rd W a0 (ints [2,(p:Int)])→Rd W a1 (cellsQ l)→l.length=2→(∀ q∈l,Sm 30 q)→SizeOk W [2,(p:Int)] a0 a1 l 30:=fun W a0 a1 l r0 r1 hl hs=>⟨r0,r1,hl,by simp,hpr,hs,by decide⟩
 have HF:=hd_ (fun (W:World) (hW:Below w.heap.size w W) (a0 a1 a2:Option Addr) (r0:Rd W a0 (ints [2,(p:Int)])) (r1:Rd W a1 (cellsQ (pwA n))) (r2:Rd W a2 (cellsQ pwB))=>by
  have A:=hsz W a0 a1 _ r0 r1 rfl sA
  have B:=hsz W a0 a2 _ r0 r2 rfl sB
  have h:=Floor_of W [2,(p:Int)] a0 a1 a2 2 2 2 _ _ A B hpc (L.below hW) (by rw[tlQ_oct];simp) ((lgN p n:Nat):Int) fun W' hW'=>floor_zp W' [2,(p:Int)] a0 a1 a2 2 2 2 30 91 _ _ _ (A.below hW') (B.below hW') (by decide) hok ((L.below hW).below hW')
  rw[itx_nat] at h
  exact(show Gives Tryz.prog 128 #[.slice a0 2 2,.slice a1 2 2,.slice a2 2 2] W (.tuple #[.string (dec (lgN p n)),.int .i64 0]) from h))
 rw[rq_zero_one,rq_zero_pow] at HF
 have HPw:=hd_ (fun W (hW:Below w.heap.size w W)=>power2_dec W 2 n (by decide) (num_pw (by decide) (by omega)) (by omega) (L.below hW))
 rw[dec_two] at HPw
 have N0:=hd_ (fun W (hW:Below w.heap.size w W)=>k_num W 0 1 0 (by decide +kernel) (by decide) (by decide) (by decide) (by decide) (L.below hW))
 have N1:=hd_ (fun W (hW:Below w.heap.size w W)=>k_num W 1 1 1 (by decide +kernel) (by decide) (by decide) (by decide) (by decide) (L.below hW))
 obtain⟨z1,z2⟩:=zero_txt
 have o1:itx (1:Rat).num=⟨#[49]⟩:=by show itx 1=_;rw[show itx 1=dec 1 from itx_nat 1,dec_one]
 have o2:dec (1:Rat).den=⟨#[49]⟩:=dec_one
 unfold fr fv at N0 N1
 rw[z1,z2] at N0
 rw[o1,o2] at N1
 have hp2:((p:Int)==2)=false:=by rw[beq_eq_false_iff_ne];omega
 have hn9:¬ (n:Int)≤9:=by omega
 clear hp h97 hok hsz sA sB hpc hpr z1 z2 o1 o2 L h9
 unfold Gives
 generalize dec (lgN p n)=st at *
 generalize dec (2^n)=sp at *
 go_enter Tryz.func49,Tryz.ntmps49
 go_wp2_with fail
 have B1:=hd_ ((Below.refl w.heap.size w).alloc nr_ (.cells #[.int .i64 2,.int .i64 p] 3))
 have F1:Hid ((w.alloc (.cells #[.int .i64 2,.int .i64 p] 3)).heap[w.heap.size]?=some (.cells #[.int .i64 2,.int .i64 p] 3 (0,0))):=heap_alloc_new w _
 generalize w.alloc (.cells #[.int .i64 2,.int .i64 p] 3)=w1 at *
 refine cm_ (HPw.out _ B1.out) ?_
 rintro e_ w2 ⟨rfl,hb_⟩
 have B2:=hd_ (B1.out.trans (hb_.mono B1.out.size))
 replace F1:=hd_ (heap_old (heap_kept F1.out hb_ nr_) (.cells #[.string sp,.string ⟨#[49]⟩] 42))
 have B3:=hd_ (B2.out.alloc B2.out.size (.cells #[.string sp,.string ⟨#[49]⟩] 42))
 have F2:Hid ((w2.alloc (.cells #[.string sp,.string ⟨#[49]⟩] 42)).heap[w2.heap.size]?=some (.cells #[.string sp,.string ⟨#[49]⟩] 42 (0,0))):=heap_alloc_new w2 _
 clear hb_ B1 B2 HPw
 go_wp2_with fail
 generalize w2.alloc (.cells #[.string sp,.string ⟨#[49]⟩] 42)=w3 at *
 generalize w2.heap.size=g2 at *
 obtain⟨k0,k1,-,-⟩:=two_cells F2.out
 have q0:=BW.cell k0
 have q1:=BW.cell k1
 have hnon:Nonempty (BW w3):=⟨⟨w3,Below.refl _ _⟩⟩
 have I:Hid (Below w3.heap.size w3 w3.drew):=(Below.refl w3.heap.size w3).drew
 clear k0 k1 F2
 refine RP.wp_region_tree 12 (.rd 2 0 (.rd 1 2 (.mv 1 (.two 3 4 (.mv 4 (.mv 5 (.mv 6 (.mv 7 (.rd 2 8 (.rd 2 9 (.rd 2 10 (.mv 11 (.mv 12 .nil))))))))) (.two 3 5 (.mv 5 (.mv 6 (.mv 7 (.rd 2 8 (.rd 2 9 (.rd 2 10 (.mv 11 (.mv 12 .nil)))))))) (.two 3 6 (.mv 6 (.mv 7 (.rd 2 8 (.rd 2 9 (.rd 2 10 (.mv 11 (.mv 12 .nil))))))) (.mv 3 (.mv 7 (.rd 2 8 (.rd 2 9 (.rd 2 10 (.mv 11 (.mv 12 .nil))))))))))))) (fun w'=>∃ p:BW w3,w'=p.w) (by kernel_rfl) (by kernel_rfl) ?_ ?_
 ·exact⟨⟨_,I.out⟩,rfl⟩
 refine RP.walkT_any ?_
 simp only[dz_,tsc_,tz_]
 go_big_quiet_step (fail);refine wpQuiet_nil ?_
 refine RP.walkT_read ?_
 simp only[dsc_,dz_,tsc_,tz_]
 go_big_quiet_step (fail);refine wpQuiet_nil ?_
 clear q0 q1 hnon
 refine RP.walkT_move ?_
 simp only[dsc_,dz_,tsc_,tz_]
 go_wp2_with fail
 refine cm_ (N0.out _ (B3.out.trans (I.out.mono B3.out.size))) ?_
 rintro e_ y1 ⟨rfl,hb_⟩
 have W_y1:Hid (Below w3.heap.size w3 y1):=I.out.trans (hb_.mono I.out.size)
 clear hb_
 go_wp2_with fail
 refine⟨⟨⟨_,W_y1.out⟩,rfl⟩,?_⟩
 refine RP.walkT_two ?_ ?_
 ·simp only[dsc_,dz_,tsc_,tz_]
  go_wp2_with fail
  have W_y2:=hd_ (W_y1.out.alloc W_y1.out.size (.cells #[.string ⟨#[48]⟩,.string ⟨#[49]⟩,.string sp,.string ⟨#[49]⟩] 42))
  have X_y2:Hid ((y1.alloc (.cells #[.string ⟨#[48]⟩,.string ⟨#[49]⟩,.string sp,.string ⟨#[49]⟩] 42)).heap[y1.heap.size]?=some (.cells #[.string ⟨#[48]⟩,.string ⟨#[49]⟩,.string sp,.string ⟨#[49]⟩] 42 (0,0))):=heap_alloc_new y1 _
  refine⟨⟨⟨_,W_y2.out⟩,rfl⟩,?_⟩
  obtain⟨gX_y2,hgX_y2⟩:∃ g,g=y1.heap.size:=⟨_,rfl⟩
  rw[← hgX_y2] at X_y2 ⊢
  clear hgX_y2
  generalize y1.alloc (.cells #[.string ⟨#[48]⟩,.string ⟨#[49]⟩,.string sp,.string ⟨#[49]⟩] 42)=y2 at *
  refine RP.walkT_move ?_
  simp only[dsc_,dz_,tsc_,tz_]
  go_wp2_with fail
  refine cm_ (N1.out _ (B3.out.trans (W_y2.out.mono B3.out.size))) ?_
  rintro e_ y3 ⟨rfl,hb_⟩
  have W_y3:Hid (Below w3.heap.size w3 y3):=W_y2.out.trans (hb_.mono W_y2.out.size)
  have X_y3:=hd_ (heap_kept X_y2.out hb_ nr_)
  clear hb_
  go_wp2_with fail
  refine⟨⟨⟨_,W_y3.out⟩,rfl⟩,?_⟩
  refine RP.walkT_move ?_
  simp only[dsc_,dz_,tsc_,tz_]
  go_wp2_with fail
  refine cm_ (N0.out _ (B3.out.trans (W_y3.out.mono B3.out.size))) ?_
  rintro e_ y4 ⟨rfl,hb_⟩
  have W_y4:Hid (Below w3.heap.size w3 y4):=W_y3.out.trans (hb_.mono W_y3.out.size)
  have X_y4:=hd_ (heap_kept X_y3.out hb_ nr_)
  clear hb_
  go_wp2_with fail
  refine⟨⟨⟨_,W_y4.out⟩,rfl⟩,?_⟩
  refine RP.walkT_move ?_
  simp only[dsc_,dz_,tsc_,tz_]
  go_wp2_with fail
  have W_y5:=hd_ (W_y4.out.alloc W_y4.out.size (.cells #[.string ⟨#[49]⟩,.string ⟨#[49]⟩,.string ⟨#[48]⟩,.string ⟨#[49]⟩] 42))
  have Y_y5:Hid ((y4.alloc (.cells #[.string ⟨#[49]⟩,.string ⟨#[49]⟩,.string ⟨#[48]⟩,.string ⟨#[49]⟩] 42)).heap[y4.heap.size]?=some (.cells #[.string ⟨#[49]⟩,.string ⟨#[49]⟩,.string ⟨#[48]⟩,.string ⟨#[49]⟩] 42 (0,0))):=heap_alloc_new y4 _
  have X_y5:=hd_ (heap_old X_y4.out (.cells #[.string ⟨#[49]⟩,.string ⟨#[49]⟩,.string ⟨#[48]⟩,.string ⟨#[49]⟩] 42))
  refine⟨⟨⟨_,W_y5.out⟩,rfl⟩,?_⟩
  obtain⟨gY_y5,hgY_y5⟩:∃ g,g=y4.heap.size:=⟨_,rfl⟩
  rw[← hgY_y5] at Y_y5 ⊢
  clear hgY_y5
  generalize y4.alloc (.cells #[.string ⟨#[49]⟩,.string ⟨#[49]⟩,.string ⟨#[48]⟩,.string ⟨#[49]⟩] 42)=y5 at *
  refine RP.walkT_move ?_
  simp only[dsc_,dz_,tsc_,tz_]
  go_wp2_with fail
  refine cm_ (HF.out _ (B3.out.trans (W_y5.out.mono B3.out.size)) _ _ _ (rd_obj (heap_kept F1.out W_y5.out nr_)) (rd_obj X_y5.out) (rd_obj Y_y5.out)) ?_
  rintro e_ z1 ⟨rfl,hb_⟩
  have W1:Hid (Below w3.heap.size w3 z1):=W_y5.out.trans (hb_.mono W_y5.out.size)
  clear hb_
  go_wp2_with fail
  refine⟨⟨⟨_,W1.out⟩,rfl⟩,?_⟩
  refine RP.walkT_any ?_
  simp only[dsc_,dz_,tsc_,tz_]
  go_big_quiet_step (fail);refine wpQuiet_nil ?_
  refine RP.walkT_any ?_
  simp only[dsc_,dz_,tsc_,tz_]
  go_big_quiet_step (fail);refine wpQuiet_nil ?_
  refine RP.walkT_any ?_
  simp only[dsc_,dz_,tsc_,tz_]
  go_big_quiet_step (fail);refine wpQuiet_nil ?_
  refine RP.walkT_move ?_
  simp only[dsc_,dz_,tsc_,tz_]
  go_wp2_with fail
  refine⟨⟨⟨_,W1.out⟩,rfl⟩,?_⟩
  refine RP.walkT_move ?_
  simp only[dsc_,dz_,tsc_,tz_]
  go_wp2_with fail
  simp only[RP.walkT]
  go_wp2_with fail
  go_ret
  exact⟨rfl,B3.out.trans (W1.out.mono B3.out.size)⟩
 ·simp only[dsc_,dz_,tsc_,tz_]
  go_wp2_with fail
  refine cm_ (N1.out _ (B3.out.trans (W_y1.out.mono B3.out.size))) ?_
  rintro e_ y6 ⟨rfl,hb_⟩
  have W_y6:Hid (Below w3.heap.size w3 y6):=W_y1.out.trans (hb_.mono W_y1.out.size)
  clear hb_
  go_wp2_with fail
  refine⟨⟨⟨_,W_y6.out⟩,rfl⟩,?_⟩
  refine RP.walkT_two ?_ ?_
  ·simp only[dsc_,dz_,tsc_,tz_]
   go_wp2_with fail
   have W_y7:=hd_ (W_y6.out.alloc W_y6.out.size (.cells #[.string ⟨#[48]⟩,.string ⟨#[49]⟩,.string sp,.string ⟨#[49]⟩] 42))
   have X_y7:Hid ((y6.alloc (.cells #[.string ⟨#[48]⟩,.string ⟨#[49]⟩,.string sp,.string ⟨#[49]⟩] 42)).heap[y6.heap.size]?=some (.cells #[.string ⟨#[48]⟩,.string ⟨#[49]⟩,.string sp,.string ⟨#[49]⟩] 42 (0,0))):=heap_alloc_new y6 _
   refine⟨⟨⟨_,W_y7.out⟩,rfl⟩,?_⟩
   obtain⟨gX_y7,hgX_y7⟩:∃ g,g=y6.heap.size:=⟨_,rfl⟩
   rw[← hgX_y7] at X_y7 ⊢
   clear hgX_y7
   generalize y6.alloc (.cells #[.string ⟨#[48]⟩,.string ⟨#[49]⟩,.string sp,.string ⟨#[49]⟩] 42)=y7 at *
   refine RP.walkT_move ?_
   simp only[dsc_,dz_,tsc_,tz_]
   go_wp2_with fail
   refine cm_ (N0.out _ (B3.out.trans (W_y7.out.mono B3.out.size))) ?_
   rintro e_ y8 ⟨rfl,hb_⟩
   have W_y8:Hid (Below w3.heap.size w3 y8):=W_y7.out.trans (hb_.mono W_y7.out.size)
   have X_y8:=hd_ (heap_kept X_y7.out hb_ nr_)
   clear hb_
   go_wp2_with fail
   refine⟨⟨⟨_,W_y8.out⟩,rfl⟩,?_⟩
   refine RP.walkT_move ?_
   simp only[dsc_,dz_,tsc_,tz_]
   go_wp2_with fail
   have W_y9:=hd_ (W_y8.out.alloc W_y8.out.size (.cells #[.string ⟨#[49]⟩,.string ⟨#[49]⟩,.string ⟨#[48]⟩,.string ⟨#[49]⟩] 42))
   have Y_y9:Hid ((y8.alloc (.cells #[.string ⟨#[49]⟩,.string ⟨#[49]⟩,.string ⟨#[48]⟩,.string ⟨#[49]⟩] 42)).heap[y8.heap.size]?=some (.cells #[.string ⟨#[49]⟩,.string ⟨#[49]⟩,.string ⟨#[48]⟩,.string ⟨#[49]⟩] 42 (0,0))):=heap_alloc_new y8 _
   have X_y9:=hd_ (heap_old X_y8.out (.cells #[.string ⟨#[49]⟩,.string ⟨#[49]⟩,.string ⟨#[48]⟩,.string ⟨#[49]⟩] 42))
   refine⟨⟨⟨_,W_y9.out⟩,rfl⟩,?_⟩
   obtain⟨gY_y9,hgY_y9⟩:∃ g,g=y8.heap.size:=⟨_,rfl⟩
   rw[← hgY_y9] at Y_y9 ⊢
   clear hgY_y9
   generalize y8.alloc (.cells #[.string ⟨#[49]⟩,.string ⟨#[49]⟩,.string ⟨#[48]⟩,.string ⟨#[49]⟩] 42)=y9 at *
   refine RP.walkT_move ?_
   simp only[dsc_,dz_,tsc_,tz_]
   go_wp2_with fail
   refine cm_ (HF.out _ (B3.out.trans (W_y9.out.mono B3.out.size)) _ _ _ (rd_obj (heap_kept F1.out W_y9.out nr_)) (rd_obj X_y9.out) (rd_obj Y_y9.out)) ?_
   rintro e_ z1 ⟨rfl,hb_⟩
   have W1:Hid (Below w3.heap.size w3 z1):=W_y9.out.trans (hb_.mono W_y9.out.size)
   clear hb_
   go_wp2_with fail
   refine⟨⟨⟨_,W1.out⟩,rfl⟩,?_⟩
   refine RP.walkT_any ?_
   simp only[dsc_,dz_,tsc_,tz_]
   go_big_quiet_step (fail);refine wpQuiet_nil ?_
   refine RP.walkT_any ?_
   simp only[dsc_,dz_,tsc_,tz_]
   go_big_quiet_step (fail);refine wpQuiet_nil ?_
   refine RP.walkT_any ?_
   simp only[dsc_,dz_,tsc_,tz_]
   go_big_quiet_step (fail);refine wpQuiet_nil ?_
   refine RP.walkT_move ?_
   simp only[dsc_,dz_,tsc_,tz_]
   go_wp2_with fail
   refine⟨⟨⟨_,W1.out⟩,rfl⟩,?_⟩
   refine RP.walkT_move ?_
   simp only[dsc_,dz_,tsc_,tz_]
   go_wp2_with fail
   simp only[RP.walkT]
   go_wp2_with fail
   go_ret
   exact⟨rfl,B3.out.trans (W1.out.mono B3.out.size)⟩
  ·simp only[dsc_,dz_,tsc_,tz_]
   go_wp2_with fail
   refine cm_ (N0.out _ (B3.out.trans (W_y6.out.mono B3.out.size))) ?_
   rintro e_ y10 ⟨rfl,hb_⟩
   have W_y10:Hid (Below w3.heap.size w3 y10):=W_y6.out.trans (hb_.mono W_y6.out.size)
   clear hb_
   go_wp2_with fail
   refine⟨⟨⟨_,W_y10.out⟩,rfl⟩,?_⟩
   refine RP.walkT_two ?_ ?_
   ·simp only[dsc_,dz_,tsc_,tz_]
    go_wp2_with fail
    have W_y11:=hd_ (W_y10.out.alloc W_y10.out.size (.cells #[.string ⟨#[48]⟩,.string ⟨#[49]⟩,.string sp,.string ⟨#[49]⟩] 42))
    have X_y11:Hid ((y10.alloc (.cells #[.string ⟨#[48]⟩,.string ⟨#[49]⟩,.string sp,.string ⟨#[49]⟩] 42)).heap[y10.heap.size]?=some (.cells #[.string ⟨#[48]⟩,.string ⟨#[49]⟩,.string sp,.string ⟨#[49]⟩] 42 (0,0))):=heap_alloc_new y10 _
    refine⟨⟨⟨_,W_y11.out⟩,rfl⟩,?_⟩
    obtain⟨gX_y11,hgX_y11⟩:∃ g,g=y10.heap.size:=⟨_,rfl⟩
    rw[← hgX_y11] at X_y11 ⊢
    clear hgX_y11
    generalize y10.alloc (.cells #[.string ⟨#[48]⟩,.string ⟨#[49]⟩,.string sp,.string ⟨#[49]⟩] 42)=y11 at *
    refine RP.walkT_move ?_
    simp only[dsc_,dz_,tsc_,tz_]
    go_wp2_with fail
    have W_y12:=hd_ (W_y11.out.alloc W_y11.out.size (.cells #[.string ⟨#[49]⟩,.string ⟨#[49]⟩,.string ⟨#[48]⟩,.string ⟨#[49]⟩] 42))
    have Y_y12:Hid ((y11.alloc (.cells #[.string ⟨#[49]⟩,.string ⟨#[49]⟩,.string ⟨#[48]⟩,.string ⟨#[49]⟩] 42)).heap[y11.heap.size]?=some (.cells #[.string ⟨#[49]⟩,.string ⟨#[49]⟩,.string ⟨#[48]⟩,.string ⟨#[49]⟩] 42 (0,0))):=heap_alloc_new y11 _
    have X_y12:=hd_ (heap_old X_y11.out (.cells #[.string ⟨#[49]⟩,.string ⟨#[49]⟩,.string ⟨#[48]⟩,.string ⟨#[49]⟩] 42))
    refine⟨⟨⟨_,W_y12.out⟩,rfl⟩,?_⟩
    obtain⟨gY_y12,hgY_y12⟩:∃ g,g=y11.heap.size:=⟨_,rfl⟩
    rw[← hgY_y12] at Y_y12 ⊢
    clear hgY_y12
    generalize y11.alloc (.cells #[.string ⟨#[49]⟩,.string ⟨#[49]⟩,.string ⟨#[48]⟩,.string ⟨#[49]⟩] 42)=y12 at *
    refine RP.walkT_move ?_
    simp only[dsc_,dz_,tsc_,tz_]
    go_wp2_with fail
    refine cm_ (HF.out _ (B3.out.trans (W_y12.out.mono B3.out.size)) _ _ _ (rd_obj (heap_kept F1.out W_y12.out nr_)) (rd_obj X_y12.out) (rd_obj Y_y12.out)) ?_
    rintro e_ z1 ⟨rfl,hb_⟩
    have W1:Hid (Below w3.heap.size w3 z1):=W_y12.out.trans (hb_.mono W_y12.out.size)
    clear hb_
    go_wp2_with fail
    refine⟨⟨⟨_,W1.out⟩,rfl⟩,?_⟩
    refine RP.walkT_any ?_
    simp only[dsc_,dz_,tsc_,tz_]
    go_big_quiet_step (fail);refine wpQuiet_nil ?_
    refine RP.walkT_any ?_
    simp only[dsc_,dz_,tsc_,tz_]
    go_big_quiet_step (fail);refine wpQuiet_nil ?_
    refine RP.walkT_any ?_
    simp only[dsc_,dz_,tsc_,tz_]
    go_big_quiet_step (fail);refine wpQuiet_nil ?_
    refine RP.walkT_move ?_
    simp only[dsc_,dz_,tsc_,tz_]
    go_wp2_with fail
    refine⟨⟨⟨_,W1.out⟩,rfl⟩,?_⟩
    refine RP.walkT_move ?_
    simp only[dsc_,dz_,tsc_,tz_]
    go_wp2_with fail
    simp only[RP.walkT]
    go_wp2_with fail
    go_ret
    exact⟨rfl,B3.out.trans (W1.out.mono B3.out.size)⟩
   ·simp only[dsc_,dz_,tsc_,tz_]
    go_wp2_with fail
    have W_y13:=hd_ (W_y10.out.alloc W_y10.out.size (.cells #[.string ⟨#[49]⟩,.string ⟨#[49]⟩,.string ⟨#[48]⟩,.string ⟨#[49]⟩] 42))
    have Y_y13:Hid ((y10.alloc (.cells #[.string ⟨#[49]⟩,.string ⟨#[49]⟩,.string ⟨#[48]⟩,.string ⟨#[49]⟩] 42)).heap[y10.heap.size]?=some (.cells #[.string ⟨#[49]⟩,.string ⟨#[49]⟩,.string ⟨#[48]⟩,.string ⟨#[49]⟩] 42 (0,0))):=heap_alloc_new y10 _
    refine⟨⟨⟨_,W_y13.out⟩,rfl⟩,?_⟩
    obtain⟨gY_y13,hgY_y13⟩:∃ g,g=y10.heap.size:=⟨_,rfl⟩
    rw[← hgY_y13] at Y_y13 ⊢
    clear hgY_y13
    generalize y10.alloc (.cells #[.string ⟨#[49]⟩,.string ⟨#[49]⟩,.string ⟨#[48]⟩,.string ⟨#[49]⟩] 42)=y13 at *
    refine RP.walkT_move ?_
    simp only[dsc_,dz_,tsc_,tz_]
    go_wp2_with fail
    have W_y14:=hd_ (W_y13.out.alloc W_y13.out.size (.cells #[.string ⟨#[48]⟩,.string ⟨#[49]⟩,.string sp,.string ⟨#[49]⟩] 42))
    have X_y14:Hid ((y13.alloc (.cells #[.string ⟨#[48]⟩,.string ⟨#[49]⟩,.string sp,.string ⟨#[49]⟩] 42)).heap[y13.heap.size]?=some (.cells #[.string ⟨#[48]⟩,.string ⟨#[49]⟩,.string sp,.string ⟨#[49]⟩] 42 (0,0))):=heap_alloc_new y13 _
    have Y_y14:=hd_ (heap_old Y_y13.out (.cells #[.string ⟨#[48]⟩,.string ⟨#[49]⟩,.string sp,.string ⟨#[49]⟩] 42))
    refine⟨⟨⟨_,W_y14.out⟩,rfl⟩,?_⟩
    obtain⟨gX_y14,hgX_y14⟩:∃ g,g=y13.heap.size:=⟨_,rfl⟩
    rw[← hgX_y14] at X_y14 ⊢
    clear hgX_y14
    generalize y13.alloc (.cells #[.string ⟨#[48]⟩,.string ⟨#[49]⟩,.string sp,.string ⟨#[49]⟩] 42)=y14 at *
    refine RP.walkT_move ?_
    simp only[dsc_,dz_,tsc_,tz_]
    go_wp2_with fail
    refine cm_ (HF.out _ (B3.out.trans (W_y14.out.mono B3.out.size)) _ _ _ (rd_obj (heap_kept F1.out W_y14.out nr_)) (rd_obj X_y14.out) (rd_obj Y_y14.out)) ?_
    rintro e_ z1 ⟨rfl,hb_⟩
    have W1:Hid (Below w3.heap.size w3 z1):=W_y14.out.trans (hb_.mono W_y14.out.size)
    clear hb_
    go_wp2_with fail
    refine⟨⟨⟨_,W1.out⟩,rfl⟩,?_⟩
    refine RP.walkT_any ?_
    simp only[dsc_,dz_,tsc_,tz_]
    go_big_quiet_step (fail);refine wpQuiet_nil ?_
    refine RP.walkT_any ?_
    simp only[dsc_,dz_,tsc_,tz_]
    go_big_quiet_step (fail);refine wpQuiet_nil ?_
    refine RP.walkT_any ?_
    simp only[dsc_,dz_,tsc_,tz_]
    go_big_quiet_step (fail);refine wpQuiet_nil ?_
    refine RP.walkT_move ?_
    simp only[dsc_,dz_,tsc_,tz_]
    go_wp2_with fail
    refine⟨⟨⟨_,W1.out⟩,rfl⟩,?_⟩
    refine RP.walkT_move ?_
    simp only[dsc_,dz_,tsc_,tz_]
    go_wp2_with fail
    simp only[RP.walkT]
    go_wp2_with fail
    go_ret
    exact⟨rfl,B3.out.trans (W1.out.mono B3.out.size)⟩
theorem low14_ok(w:World)(p n:Nat)(hp:p=2∨p∈oddP)(hn:n≤90)(L:Laid w):Gives Tryz.prog 49 #[.int .i64 p,.int .i64 n] w (.string (dec (lgN p n))):=by
 rcases hp with rfl|hp
 ·exact low14_two w n hn L
 ·rcases Nat.lt_or_ge 9 n with h | h
  ·exact low14_big w p n hp h hn L
  ·exact low14_low w p n hp h L
theorem eck_err(w:World)(p n:Int)(s:ByteArray)(p0 : -9223372036854775808≤p)(p1:p≤9223372036854775807)(n0 : -9223372036854775808≤n)(n1:n≤9223372036854775807)(he:bcode p n≠0):
  Gives Tryz.prog 48 #[bndV p n s] w (.int .i64 (bcode p n)):=by
 unfold Gives bndV
 have Hb0:=hd_ ((Below.refl w.heap.size w).alloc nr_ (.cells #[.int .i64 p,.int .i64 n,.string s] 27))
 obtain⟨k0,k1,k2,-⟩:=three_cells (heap_alloc_new w (.cells #[.int .i64 p,.int .i64 n,.string s] 27))
 have HC:=hd_ (fun W=>checkBounds_any W p n p0 p1 n0 n1)
 have hnz:(bcode p n != 0)=true:=by rw[bne_iff_ne];exact he
 clear he p0 p1 n0 n1
 generalize bcode p n=v at *
 go_enter Tryz.func48,Tryz.ntmps48
 go_wp2_with fail
 generalize w.alloc (.cells #[.int .i64 p,.int .i64 n,.string s] 27)=W0 at *
 refine cm_ (HC.out _) ?_
 rintro e w1 ⟨rfl,hb⟩
 have B1:=hd_ (Hb0.out.trans (hb.mono Hb0.out.size))
 clear hb HC Hb0 k0 k1 k2
 go_wp2_with fail
 go_ret
 exact⟨rfl,B1.out⟩
theorem eck_num(w:World)(p n:Int)(s:ByteArray)(p0 : -9223372036854775808≤p)(p1:p≤9223372036854775807)(n0 : -9223372036854775808≤n)(n1:n≤9223372036854775807)(hb0:bcode p n=0)(hs:s.size≤10000000)(hz:¬ IsZ s):
  Gives Tryz.prog 48 #[bndV p n s] w (.int .i64 2):=by
 unfold Gives bndV
 have Hb0:=hd_ ((Below.refl w.heap.size w).alloc nr_ (.cells #[.int .i64 p,.int .i64 n,.string s] 27))
 have F0:Hid ((w.alloc (.cells #[.int .i64 p,.int .i64 n,.string s] 27)).heap[w.heap.size]?=some (.cells #[.int .i64 p,.int .i64 n,.string s] 27 (0,0))):=heap_alloc_new w _
 have HC:=hd_ (fun W=>checkBounds_any W p n p0 p1 n0 n1)
 have HZ:=hd_ (fun W=>checkZS_no W s hs hz)
 rw[hb0] at HC
 clear p0 p1 n0 n1 hb0 hs hz
 go_enter Tryz.func48,Tryz.ntmps48
 obtain⟨k0,k1,k2,-⟩:=three_cells F0.out
 go_wp2_with fail
 generalize w.alloc (.cells #[.int .i64 p,.int .i64 n,.string s] 27)=W0 at *
 clear k0 k1 k2
 refine cm_ (HC.out _) ?_
 rintro e w1 ⟨rfl,hb⟩
 have B1:=hd_ (Hb0.out.trans (hb.mono Hb0.out.size))
 obtain⟨k0,k1,k2,-⟩:=three_cells (heap_kept F0.out hb nr_)
 clear hb HC Hb0 F0
 go_wp2_with fail
 clear k0 k1 k2
 refine cm_ (HZ.out _) ?_
 rintro e w2 ⟨rfl,hb⟩
 have B2:=hd_ (B1.out.trans (hb.mono B1.out.size))
 clear hb HZ B1
 go_wp2_with fail
 go_ret
 exact⟨rfl,B2.out⟩
theorem toList_eq{a b:ByteArray}:(a.toList==b.toList)=decide (a=b):=by
 by_cases h:a=b
 ·subst h;simp
 ·rw[decide_eq_false h,Bool.eq_false_iff]
  exact fun hc=>h (toList_inj hc)
theorem eck_fine(w:World)(p n:Nat)(s:ByteArray)(hp:p=2∨p∈oddP)(hpz:IsPz p)(hn:n≤1000)(hz:IsZ s)(L:Laid w):
  Gives Tryz.prog 48 #[bndV p n s] w (.int .i64 (if s=dec (lgN p n) then 0 else 23)):=by
 unfold Gives bndV
 have Hb0:=hd_ ((Below.refl w.heap.size w).alloc nr_ (.cells #[.int .i64 p,.int .i64 n,.string s] 27))
 have F0:Hid ((w.alloc (.cells #[.int .i64 p,.int .i64 n,.string s] 27)).heap[w.heap.size]?=some (.cells #[.int .i64 p,.int .i64 n,.string s] 27 (0,0))):=heap_alloc_new w _
 have h97:=isP_le hpz
 have HC:=hd_ (fun W=>checkBounds_any W p n (by omega) (by omega) (by omega) (by omega))
 have HZ:=hd_ (fun W=>checkZS_yes W s hz)
 have hb0:bcode p n=0:=by unfold bcode;rw[if_pos hpz,if_neg (by omega)]
 rw[hb0] at HC
 have HLo:=hd_ (fun W (hW:Below w.heap.size w W)=>elow_any W p n hp hn (L.below hW))
 clear hb0 hp hpz L h97 hn hz
 generalize dec (lgN p n)=t at *
 obtain⟨v,hv⟩:∃ v:Int,(if s=t then (0:Int) else 23)=v:=⟨_,rfl⟩
 rw[hv]
 have HV:=hd_ hv
 clear hv
 go_enter Tryz.func48,Tryz.ntmps48
 obtain⟨k0,k1,k2,-⟩:=three_cells F0.out
 go_wp2_with fail
 generalize w.alloc (.cells #[.int .i64 p,.int .i64 n,.string s] 27)=W0 at *
 clear k0 k1 k2
 refine cm_ (HC.out _) ?_
 rintro e w1 ⟨rfl,hb⟩
 have B1:=hd_ (Hb0.out.trans (hb.mono Hb0.out.size))
 have F1:=hd_ (heap_kept F0.out hb nr_)
 obtain⟨k0,k1,k2,-⟩:=three_cells F1.out
 clear hb HC Hb0 F0
 go_wp2_with fail
 clear k0 k1 k2
 refine cm_ (HZ.out _) ?_
 rintro e w2 ⟨rfl,hb⟩
 have B2:=hd_ (B1.out.trans (hb.mono B1.out.size))
 obtain⟨k0,k1,k2,-⟩:=three_cells (heap_kept F1.out hb nr_)
 clear hb HZ B1 F1
 have q0:=NW.cell k0
 have q1:=NW.cell k1
 have q2:=NW.cell k2
 have hnon:Nonempty (NW w2):=⟨⟨w2,Below.refl _ _⟩⟩
 have I:Hid (Below w2.heap.size w2 w2.drew):=(Below.refl _ _).drew
 clear k0 k1 k2
 go_wp2_with fail
 refine RP.wp_region_readers 7 [(1,0),(1,1),(1,2),(1,3),(1,4),(1,5),(0,6),(0,7)] (fun w'=>∃ p:NW w2,w'=p.w) (by kernel_rfl) (by kernel_rfl) ?_ ?_
 ·exact⟨⟨_,I.out⟩,rfl⟩
 refine RP.walkR_read ?_
 simp only[dz_,tsc_,tz_]
 go_big_quiet_step (fail);refine wpQuiet_nil ?_
 iterate 5 (refine RP.walkR_read ?_;simp only[dsc_,dz_,tsc_,tz_];go_big_quiet_step (fail);refine wpQuiet_nil ?_)
 clear hnon q0 q1 q2
 refine RP.walkR_move ?_
 simp only[dsc_,dz_,tsc_,tz_]
 go_wp2_with fail
 refine cm_ (HLo.out _ (B2.out.trans (I.out.mono B2.out.size))) ?_
 rintro e w3 ⟨rfl,hb⟩
 have J:Hid (Below w2.heap.size w2 w3):=I.out.trans (hb.mono I.out.size)
 clear hb HLo I
 go_wp2_with fail
 refine⟨⟨⟨_,J.out⟩,rfl⟩,?_⟩
 refine RP.walkR_move ?_
 simp only[dsc_,dz_,tsc_,tz_]
 have B3:=hd_ (B2.out.trans (J.out.mono B2.out.size))
 have hst:=toList_eq (a:=s) (b:=t)
 clear J B2
 by_cases hE:s=t
 ·have HV0:Hid (v=0):=by show _=_;rw[← HV.out,if_pos hE]
  rw[decide_eq_true hE] at hst
  clear hE
  go_wp2_with fail
  simp only[RP.walkR]
  go_wp2_with fail
  go_ret
  exact⟨by rw[HV0.out];rfl,B3.out⟩
 ·have HV0:Hid (v=23):=by show _=_;rw[← HV.out,if_neg hE]
  rw[decide_eq_false hE] at hst
  clear hE
  go_wp2_with fail
  simp only[RP.walkR]
  go_wp2_with fail
  go_ret
  exact⟨by rw[HV0.out];rfl,B3.out⟩
theorem canon_end{t:ByteArray}(hd:Digs (lb t)):Canon (lb t)↔0<t.size∧(t.size=1∨((lb t).getD 0 0).toNat≠48):=by
 have h:=canon_bool (lb t) hd
 rw[lb_length] at h
 rw[← decide_eq_true_iff (p:=Canon (lb t)),h,Bool.or_eq_true,Bool.and_eq_true,decide_eq_true_iff,decide_eq_true_iff,decide_eq_true_iff]
 constructor
 ·rintro(h1 | ⟨h1,h2⟩)
  ·exact⟨by omega,.inl h1⟩
  ·exact⟨by omega,.inr h2⟩
 ·rintro⟨h1,h2 | h2⟩
  ·exact .inl h2
  ·rcases Nat.lt_or_ge 1 t.size with h3 | h3
   ·exact .inr ⟨h3,h2⟩
   ·exact .inl (by omega)
theorem zero_list(t:ByteArray):(t.toList==[48])=decide (t=⟨#[48]⟩):=by
 rw[← toList_eq]
 have h:(⟨#[48]⟩:ByteArray).toList=[48]:=by rw[ByteArray.toList_eq]
 rw[h]
theorem canonical2_any(w:World)(s:ByteArray)(hs:s.size≤10000000)(b:Bool)(hb:b=true↔(¬ (isNeg s=true∧magS s=⟨#[48]⟩)∧Canon (lb (magS s)))):
  Gives Tryz.prog 129 #[.string s] w (.bool b):=by
 unfold Gives
 have Hb:=hd_ hb
 clear hb
 by_cases h0:0<s.size
 ·have hix:∀ W,(Instr.index 9 (.string s) (.int .i64 0)).run Tryz.prog W = .ok (.int .u8 ((lb s).getD 0 0).toNat) W:=fun W=>idx0 W s h0
  have hpos:(0:Int)<s.size:=by omega
  have hone:(1:Int)≤s.size:=by omega
  by_cases hc:(lb s).getD 0 0=45
  ·have Hv:Hid (isNeg s=true):=by show _=_;unfold isNeg;rw[decide_eq_true_eq];exact⟨h0,hc⟩
   have Hm:Hid (magS s=s.extract 1 s.size):=by show _=_;unfold magS;rw[if_pos Hv.out]
   rw[hc] at hix
   rw[show (((45:UInt8).toNat:Nat):Int)=45 from rfl] at hix
   have hq:=zero_list (s.extract 1 s.size)
   have hts:(s.extract 1 s.size).size≤10000000:=by rw[ByteArray.size_extract];omega
   rw[Hm.out,Hv.out] at Hb
   have HB:Hid (Below w.heap.size w w):=Below.refl _ _
   go_enter Tryz.func129,Tryz.ntmps129
   by_cases hz:s.extract 1 s.size=⟨#[48]⟩
   ·have Hno:Hid (b=false):=by
     show _=_
     rw[Bool.eq_false_iff]
     intro hc
     exact(Hb.out.1 hc).1 ⟨rfl,hz⟩
    rw[decide_eq_true hz] at hq
    clear hz Hb Hv Hm hc
    go_wp2_with fail
    go_ret
    exact⟨by rw[Hno.out];rfl,HB.out⟩
   ·have Hx:Hid (b=true↔Canon (lb (s.extract 1 s.size))):=⟨fun h=>(Hb.out.1 h).2,fun h=>Hb.out.2 ⟨fun h2=>hz h2.2,h⟩⟩
    rw[decide_eq_false hz] at hq
    clear hz Hb Hv Hm hc
    go_wp2_with fail
    clear hix hq
    generalize s.extract 1 s.size=t at *
    clear hone hpos h0
    go_loop [4] (fun i=>∃ k:Nat,k≤t.size∧i = .int .i64 k∧Hid (Digs ((lb t).take k))) (fun i=>t.size-(intOf i).toNat)
    case atStart=>exact⟨0,Nat.zero_le _,rfl,fun c hc=>by simp at hc⟩
    case round =>
     obtain⟨k,hk,rfl,HD⟩:=hrel
     by_cases hlt:k<t.size
     ·have hlt':(k:Int)<t.size:=by omega
      have htl:k<(lb t).length:=by rw[lb_length];exact hlt
      have hge:(lb t)[k]=t[k]'hlt:=rfl
      have Hnext:Hid ((lb t).take (k+1)=(lb t).take k++[t[k]'hlt]):=by
       show _=_
       rw[List.take_succ_eq_append_getElem htl,hge]
      have Hu:Hid (t[k]'hlt∈lb t):=by
       show _∈_
       rw[← hge];exact List.getElem_mem _
      clear hge
      by_cases hg:48≤(t[k]'hlt).toNat∧(t[k]'hlt).toNat≤57
      ·have HD2:Hid (Digs ((lb t).take (k+1))):=by
        show Digs _
        rw[Hnext.out]
        intro c hc
        rcases List.mem_append.1 hc with h|h
        ·exact HD.out c h
        ·obtain rfl:=List.mem_singleton.1 h;exact hg
       obtain⟨hg1,hg2⟩:=hg
       clear Hnext Hu HD
       generalize hbb:(t[k]'hlt).toNat=c at *
       have f1:decide ((c:Int)<48)=false:=decide_eq_false (by omega)
       have f2:decide ((57:Int)<(c:Int))=false:=decide_eq_false (by omega)
       go_wp2_with fail
       exact⟨⟨k+1,by omega,by go_num,HD2⟩,by simp[intOf];omega⟩
      ·have Hno:Hid (b=false):=by
        show _=_
        rw[Bool.eq_false_iff]
        intro hc
        exact hg ((Hx.out.1 hc).1 _ Hu.out)
       clear Hnext Hu HD
       generalize hbb:(t[k]'hlt).toNat=c at *
       by_cases hlo:c<48
       ·have f1:decide ((c:Int)<48)=true:=decide_eq_true (by omega)
        go_wp2_with fail
        go_ret
        exact⟨by rw[Hno.out];rfl,HB.out⟩
       ·have h57:57<c:=by omega
        have f1:decide ((c:Int)<48)=false:=decide_eq_false (by omega)
        have f2:decide ((57:Int)<(c:Int))=true:=decide_eq_true (by omega)
        clear hg
        go_wp2_with fail
        go_ret
        exact⟨by rw[Hno.out];rfl,HB.out⟩
     ·obtain rfl:k=t.size:=by omega
      have hlt':¬ (t.size:Int)<t.size:=by omega
      have hce:=canon_end (t:=t) (by have:=HD.out;rw[← lb_length,List.take_length] at this;exact this)
      rw[← Hx.out] at hce
      have Hce:=hd_ hce
      clear hce HD Hx
      by_cases h0:t.size=0
      ·have Hno:Hid (b=false):=by
        show _=_
        rw[Bool.eq_false_iff]
        intro hc
        have:=(Hce.out.1 hc).1
        omega
       have h0':¬ (0:Int)<t.size:=by omega
       clear Hce
       go_wp2_with fail
       go_ret
       exact⟨by rw[Hno.out];rfl,HB.out⟩
      ·have h0':(0:Int)<t.size:=by omega
       have hix:∀ W,(Instr.index 9 (.string t) (.int .i64 0)).run Tryz.prog W = .ok (.int .u8 ((lb t).getD 0 0).toNat) W:=fun W=>idx0 W _ (by omega)
       generalize ((lb t).getD 0 0).toNat=c at *
       by_cases hc:c=48
       ·subst hc
        by_cases h1:t.size=1
        ·have Hyes:Hid (b=true):=Hce.out.2 ⟨by omega,.inl h1⟩
         have h1':((t.size:Int)==1)=true:=by rw[beq_iff_eq];omega
         clear Hce
         go_wp2_with fail
         go_ret
         exact⟨by rw[Hyes.out];rfl,HB.out⟩
        ·have Hno:Hid (b=false):=by
          show _=_
          rw[Bool.eq_false_iff]
          intro hc
          rcases(Hce.out.1 hc).2 with h|h
          ·exact h1 h
          ·exact h rfl
         have h1':((t.size:Int)==1)=false:=by rw[beq_eq_false_iff_ne];omega
         clear Hce
         go_wp2_with fail
         go_ret
         exact⟨by rw[Hno.out];rfl,HB.out⟩
       ·have Hyes:Hid (b=true):=Hce.out.2 ⟨by omega,.inr hc⟩
        have hcb:((c:Int) != 48)=true:=by rw[bne_iff_ne];omega
        have hcb2:((c:Int)==48)=false:=by rw[beq_eq_false_iff_ne];omega
        clear Hce hc
        go_wp2_with fail
        go_ret
        exact⟨by rw[Hyes.out];rfl,HB.out⟩
  ·have Hv:Hid (isNeg s=false):=by show _=_;unfold isNeg;rw[decide_eq_false_iff_not];exact fun h=>hc h.2
   have Hm:Hid (magS s=s):=by show _=_;unfold magS;rw[if_neg (by rw[Hv.out];decide)]
   have hcc:((((lb s).getD 0 0).toNat:Int)==45)=false:=by
    rw[beq_eq_false_iff_ne]
    intro h
    apply hc
    apply UInt8.toNat_inj.1
    have:(45:UInt8).toNat=45:=rfl
    omega
   rw[Hm.out,Hv.out] at Hb
   have Hx:Hid (b=true↔Canon (lb s)):=⟨fun h=>(Hb.out.1 h).2,fun h=>Hb.out.2 ⟨fun h2=>(by cases h2.1),h⟩⟩
   have HB:Hid (Below w.heap.size w w):=Below.refl _ _
   clear Hv Hm hc Hb
   obtain⟨c0,hc0⟩:∃ c0,(((lb s).getD 0 0).toNat:Int)=c0:=⟨_,rfl⟩
   rw[hc0] at hcc hix
   clear hc0
   go_enter Tryz.func129,Tryz.ntmps129
   go_wp2_with fail
   clear hix hcc hone hpos h0
   obtain⟨t,ht⟩:∃ t,t=s:=⟨_,rfl⟩
   subst ht
   go_loop [4] (fun i=>∃ k:Nat,k≤t.size∧i = .int .i64 k∧Hid (Digs ((lb t).take k))) (fun i=>t.size-(intOf i).toNat)
   case atStart=>exact⟨0,Nat.zero_le _,rfl,fun c hc=>by simp at hc⟩
   case round =>
    obtain⟨k,hk,rfl,HD⟩:=hrel
    by_cases hlt:k<t.size
    ·have hlt':(k:Int)<t.size:=by omega
     have htl:k<(lb t).length:=by rw[lb_length];exact hlt
     have hge:(lb t)[k]=t[k]'hlt:=rfl
     have Hnext:Hid ((lb t).take (k+1)=(lb t).take k++[t[k]'hlt]):=by
      show _=_
      rw[List.take_succ_eq_append_getElem htl,hge]
     have Hu:Hid (t[k]'hlt∈lb t):=by
      show _∈_
      rw[← hge];exact List.getElem_mem _
     clear hge
     by_cases hg:48≤(t[k]'hlt).toNat∧(t[k]'hlt).toNat≤57
     ·have HD2:Hid (Digs ((lb t).take (k+1))):=by
       show Digs _
       rw[Hnext.out]
       intro c hc
       rcases List.mem_append.1 hc with h|h
       ·exact HD.out c h
       ·obtain rfl:=List.mem_singleton.1 h;exact hg
      obtain⟨hg1,hg2⟩:=hg
      clear Hnext Hu HD
      generalize hbb:(t[k]'hlt).toNat=c at *
      have f1:decide ((c:Int)<48)=false:=decide_eq_false (by omega)
      have f2:decide ((57:Int)<(c:Int))=false:=decide_eq_false (by omega)
      go_wp2_with fail
      exact⟨⟨k+1,by omega,by go_num,HD2⟩,by simp[intOf];omega⟩
     ·have Hno:Hid (b=false):=by
       show _=_
       rw[Bool.eq_false_iff]
       intro hc
       exact hg ((Hx.out.1 hc).1 _ Hu.out)
      clear Hnext Hu HD
      generalize hbb:(t[k]'hlt).toNat=c at *
      by_cases hlo:c<48
      ·have f1:decide ((c:Int)<48)=true:=decide_eq_true (by omega)
       go_wp2_with fail
       go_ret
       exact⟨by rw[Hno.out];rfl,HB.out⟩
      ·have h57:57<c:=by omega
       have f1:decide ((c:Int)<48)=false:=decide_eq_false (by omega)
       have f2:decide ((57:Int)<(c:Int))=true:=decide_eq_true (by omega)
       clear hg
       go_wp2_with fail
       go_ret
       exact⟨by rw[Hno.out];rfl,HB.out⟩
    ·obtain rfl:k=t.size:=by omega
     have hlt':¬ (t.size:Int)<t.size:=by omega
     have hce:=canon_end (t:=t) (by have:=HD.out;rw[← lb_length,List.take_length] at this;exact this)
     rw[← Hx.out] at hce
     have Hce:=hd_ hce
     clear hce HD Hx
     by_cases h0:t.size=0
     ·have Hno:Hid (b=false):=by
       show _=_
       rw[Bool.eq_false_iff]
       intro hc
       have:=(Hce.out.1 hc).1
       omega
      have h0':¬ (0:Int)<t.size:=by omega
      clear Hce
      go_wp2_with fail
      go_ret
      exact⟨by rw[Hno.out];rfl,HB.out⟩
     ·have h0':(0:Int)<t.size:=by omega
      have hix:∀ W,(Instr.index 9 (.string t) (.int .i64 0)).run Tryz.prog W = .ok (.int .u8 ((lb t).getD 0 0).toNat) W:=fun W=>idx0 W _ (by omega)
      generalize ((lb t).getD 0 0).toNat=c at *
      by_cases hc:c=48
      ·subst hc
       by_cases h1:t.size=1
       ·have Hyes:Hid (b=true):=Hce.out.2 ⟨by omega,.inl h1⟩
        have h1':((t.size:Int)==1)=true:=by rw[beq_iff_eq];omega
        clear Hce
        go_wp2_with fail
        go_ret
        exact⟨by rw[Hyes.out];rfl,HB.out⟩
       ·have Hno:Hid (b=false):=by
         show _=_
         rw[Bool.eq_false_iff]
         intro hc
         rcases(Hce.out.1 hc).2 with h|h
         ·exact h1 h
         ·exact h rfl
        have h1':((t.size:Int)==1)=false:=by rw[beq_eq_false_iff_ne];omega
        clear Hce
        go_wp2_with fail
        go_ret
        exact⟨by rw[Hno.out];rfl,HB.out⟩
      ·have Hyes:Hid (b=true):=Hce.out.2 ⟨by omega,.inr hc⟩
       have hcb:((c:Int) != 48)=true:=by rw[bne_iff_ne];omega
       have hcb2:((c:Int)==48)=false:=by rw[beq_eq_false_iff_ne];omega
       clear Hce hc
       go_wp2_with fail
       go_ret
       exact⟨by rw[Hyes.out];rfl,HB.out⟩
 ·have Hv:Hid (isNeg s=false):=by show _=_;unfold isNeg;rw[decide_eq_false_iff_not];exact fun h=>h0 h.1
  have Hm:Hid (magS s=s):=by show _=_;unfold magS;rw[if_neg (by rw[Hv.out];decide)]
  rw[Hm.out,Hv.out] at Hb
  have Hx:Hid (b=true↔Canon (lb s)):=⟨fun h=>(Hb.out.1 h).2,fun h=>Hb.out.2 ⟨fun h2=>(by cases h2.1),h⟩⟩
  have hpos:¬ (0:Int)<s.size:=by omega
  have Hno:Hid (b=false):=by
   show _=_
   rw[Bool.eq_false_iff]
   intro hc
   have h1:=(Hx.out.1 hc).2.1
   exact h1 (List.eq_nil_of_length_eq_zero (by rw[lb_length];omega))
  have hsz:s.size=0:=by omega
  have HB:Hid (Below w.heap.size w w):=Below.refl _ _
  clear Hv Hm Hb Hx h0
  go_enter Tryz.func129,Tryz.ntmps129
  go_wp2_with fail
  go_loop [4] (fun i=>i = .int .i64 0) (fun _=>0)
  case atStart=>rfl
  case round =>
   subst hrel
   go_wp2_with fail
   go_ret
   exact⟨by rw[Hno.out];rfl,HB.out⟩
theorem digits2_any(w:World)(s:ByteArray)(hs:s.size≤10000000):Gives Tryz.prog 116 #[.string s] w (.string (magS s)):=by
 unfold Gives
 by_cases h0:0<s.size
 ·have hix:∀ W,(Instr.index 25 (.string s) (.int .i64 0)).run Tryz.prog W = .ok (.int .u8 ((lb s).getD 0 0).toNat) W:=fun W=>idx0 W s h0
  have hpos:(0:Int)<s.size:=by omega
  have hone:(1:Int)≤s.size:=by omega
  by_cases hc:(lb s).getD 0 0=45
  ·have Hm:Hid (magS s=s.extract 1 s.size):=by show _=_;unfold magS isNeg;rw[if_pos (decide_eq_true ⟨h0,hc⟩)]
   rw[hc] at hix
   rw[show (((45:UInt8).toNat:Nat):Int)=45 from rfl] at hix
   clear hc
   go_enter Tryz.func116,Tryz.ntmps116
   go_wp2_with fail
   go_ret
   exact⟨by rw[Hm.out];rfl,Below.refl _ _⟩
  ·have Hm:Hid (magS s=s):=by show _=_;unfold magS isNeg;rw[if_neg (by rw[decide_eq_true_eq];exact fun h=>hc h.2)]
   have hcc:((((lb s).getD 0 0).toNat:Int)==45)=false:=by
    rw[beq_eq_false_iff_ne]
    intro h
    apply hc
    apply UInt8.toNat_inj.1
    have:(45:UInt8).toNat=45:=rfl
    omega
   clear hc
   generalize (((lb s).getD 0 0).toNat:Int)=c at *
   go_enter Tryz.func116,Tryz.ntmps116
   go_wp2_with fail
   go_ret
   exact⟨by rw[Hm.out];rfl,Below.refl _ _⟩
 ·have Hm:Hid (magS s=s):=by show _=_;unfold magS isNeg;rw[if_neg (by rw[decide_eq_true_eq];exact fun h=>h0 h.1)]
  have hpos:¬ (0:Int)<s.size:=by omega
  go_enter Tryz.func116,Tryz.ntmps116
  go_wp2_with fail
  go_ret
  exact⟨by rw[Hm.out];rfl,Below.refl _ _⟩
theorem right2_any(w:World)(s:ByteArray)(hs:s.size≤400)(b:Bool)(hb:b=true↔IsZ s):Gives Tryz.prog 50 #[.string s] w (.bool b):=by
 unfold Gives
 have hm:=magS_size s
 have hm':((magS s).size:Int)≤400:=by omega
 have HC:=hd_ (fun W=>canonical2_any W s (by omega) b (hb.trans ((isZ_iff s).trans ⟨fun h=>⟨h.1,h.2.1⟩,fun h=>⟨h.1,h.2,by omega⟩⟩)))
 have HD:=hd_ (fun W=>digits2_any W s (by omega))
 clear hb hm hs
 generalize magS s=t at *
 go_enter Tryz.func50,Tryz.ntmps50
 go_wp2_with fail
 refine cm_ (HC.out _) ?_
 rintro e w1 ⟨rfl,hb1⟩
 have B1:=hd_ hb1
 clear hb1 HC
 cases b
 ·go_wp2_with fail
  go_ret
  exact⟨rfl,B1.out⟩
 ·go_wp2_with fail
  refine cm_ (HD.out _) ?_
  rintro e w2 ⟨rfl,hb2⟩
  have B2:=hd_ (B1.out.trans (hb2.mono B1.out.size))
  clear hb2 HD B1
  go_wp2_with fail
  go_ret
  exact⟨rfl,B2.out⟩
theorem lawEck_pass(w:World)(p n:Int)(s:ByteArray)(h:(90<n∧n≤1000)∨40<s.size)(L:Laid w):
  Gives Tryz.prog 10 #[.agg #[.int .i64 p,.int .i64 n,.string s]] w (.bool true):=by
 unfold Gives
 have B0:=hd_ ((Below.refl w.heap.size w).alloc nr_ (.cells #[.int .i64 p,.int .i64 n,.string s] 27))
 have F0:Hid ((w.alloc (.cells #[.int .i64 p,.int .i64 n,.string s] 27)).heap[w.heap.size]?=some (.cells #[.int .i64 p,.int .i64 n,.string s] 27 (0,0))):=heap_alloc_new w _
 have HK:=hd_ (fun W (hW:Below w.heap.size w W)=>known14_ok W (L.below hW))
 by_cases h1:90<n
 ·have d1:decide ((90:Int)<n)=true:=decide_eq_true h1
  by_cases h2:n≤1000
  ·have d2:decide (n≤(1000:Int))=true:=decide_eq_true h2
   clear h
   go_enter Tryz.func10,Tryz.ntmps10
   go_wp2_with fail
   generalize w.alloc (.cells #[.int .i64 p,.int .i64 n,.string s] 27)=w0 at *
   refine cm_ (HK.out _ B0.out) ?_
   rintro e_ w1 ⟨rfl,hb⟩
   have B1:=hd_ (B0.out.trans (hb.mono B0.out.size))
   have F1:=hd_ (heap_kept F0.out hb nr_)
   clear hb B0 F0
   obtain⟨k0,k1,k2,-⟩:=three_cells F1.out
   go_wp2_with fail
   clear k0 k1 k2
   refine cm_ (HK.out _ B1.out) ?_
   rintro e_ w2 ⟨rfl,hb⟩
   have B2:=hd_ (B1.out.trans (hb.mono B1.out.size))
   have F2:=hd_ (heap_kept F1.out hb nr_)
   clear hb B1 F1
   go_wp2_with fail
   go_ret
   exact⟨rfl,B2.out⟩
  ·have d2:decide (n≤(1000:Int))=false:=decide_eq_false h2
   have h3:(40:Int)<s.size:=by omega
   clear h
   go_enter Tryz.func10,Tryz.ntmps10
   go_wp2_with fail
   generalize w.alloc (.cells #[.int .i64 p,.int .i64 n,.string s] 27)=w0 at *
   refine cm_ (HK.out _ B0.out) ?_
   rintro e_ w1 ⟨rfl,hb⟩
   have B1:=hd_ (B0.out.trans (hb.mono B0.out.size))
   have F1:=hd_ (heap_kept F0.out hb nr_)
   clear hb B0 F0
   obtain⟨k0,k1,k2,-⟩:=three_cells F1.out
   go_wp2_with fail
   clear k0 k1 k2
   refine cm_ (HK.out _ B1.out) ?_
   rintro e_ w2 ⟨rfl,hb⟩
   have B2:=hd_ (B1.out.trans (hb.mono B1.out.size))
   have F2:=hd_ (heap_kept F1.out hb nr_)
   clear hb B1 F1
   go_wp2_with fail
   go_ret
   exact⟨rfl,B2.out⟩
 ·have d1:decide ((90:Int)<n)=false:=decide_eq_false h1
  have h3:(40:Int)<s.size:=by omega
  clear h
  go_enter Tryz.func10,Tryz.ntmps10
  go_wp2_with fail
  generalize w.alloc (.cells #[.int .i64 p,.int .i64 n,.string s] 27)=w0 at *
  refine cm_ (HK.out _ B0.out) ?_
  rintro e_ w1 ⟨rfl,hb⟩
  have B1:=hd_ (B0.out.trans (hb.mono B0.out.size))
  have F1:=hd_ (heap_kept F0.out hb nr_)
  clear hb B0 F0
  obtain⟨k0,k1,k2,-⟩:=three_cells F1.out
  go_wp2_with fail
  clear k0 k1 k2
  refine cm_ (HK.out _ B1.out) ?_
  rintro e_ w2 ⟨rfl,hb⟩
  have B2:=hd_ (B1.out.trans (hb.mono B1.out.size))
  have F2:=hd_ (heap_kept F1.out hb nr_)
  clear hb B1 F1
  go_wp2_with fail
  go_ret
  exact⟨rfl,B2.out⟩
theorem lawEck_err(w:World)(p n:Int)(s:ByteArray)(p0 : -9223372036854775808≤p)(p1:p≤9223372036854775807)(n0 : -9223372036854775808≤n)(n1:n≤9223372036854775807)(hs:s.size≤40)(h:n≤90∨1000<n)(he:bcode p n≠0)(L:Laid w):
  Gives Tryz.prog 10 #[.agg #[.int .i64 p,.int .i64 n,.string s]] w (.bool true):=by
 unfold Gives
 have B0:=hd_ ((Below.refl w.heap.size w).alloc nr_ (.cells #[.int .i64 p,.int .i64 n,.string s] 27))
 have F0:Hid ((w.alloc (.cells #[.int .i64 p,.int .i64 n,.string s] 27)).heap[w.heap.size]?=some (.cells #[.int .i64 p,.int .i64 n,.string s] 27 (0,0))):=heap_alloc_new w _
 have HK:=hd_ (fun W (hW:Below w.heap.size w W)=>known14_ok W (L.below hW))
 have HC:=hd_ (fun W=>eck_err W p n s p0 p1 n0 n1 he)
 have HP:=hd_ (fun W=>isPrimez_any W p p0 p1)
 unfold bndV at HC
 have h3:¬ (40:Int)<s.size:=by omega
 obtain⟨v,hv⟩:∃ v,bcode p n=v:=⟨_,rfl⟩
 rw[hv] at HC he
 have hvv:(v==v)=true:=beq_self_eq_true v
 clear L
 by_cases hz:IsPz p
 ·rw[decide_eq_true hz] at HP
  unfold bcode at hv
  rw[if_pos hz] at hv
  by_cases hr:n<0∨1000<n
  ·rw[if_pos hr] at hv
   subst hv
   clear hz he
   by_cases hr1:n<0
   ·have d0:decide (n<0)=true:=decide_eq_true hr1
    have d1:decide ((90:Int)<n)=false:=decide_eq_false (by omega)
    clear hr
    go_enter Tryz.func10,Tryz.ntmps10
    go_wp2_with fail
    generalize w.alloc (.cells #[.int .i64 p,.int .i64 n,.string s] 27)=w0 at *
    refine cm_ (HK.out _ B0.out) ?_
    rintro e_ w1 ⟨rfl,hb⟩
    have B1:=hd_ (B0.out.trans (hb.mono B0.out.size))
    have F1:=hd_ (heap_kept F0.out hb nr_)
    clear hb B0 F0
    obtain⟨k0,k1,k2,-⟩:=three_cells F1.out
    go_wp2_with fail
    clear k0 k1 k2
    refine cm_ (HP.out _) ?_
    rintro e_ w2 ⟨rfl,hb⟩
    have B2:=hd_ (B1.out.trans (hb.mono B1.out.size))
    have F2:=hd_ (heap_kept F1.out hb nr_)
    clear hb B1 F1
    obtain⟨k0,k1,k2,-⟩:=three_cells F2.out
    go_wp2_with fail
    clear k0 k1 k2
    refine cm_ (HC.out _) ?_
    rintro e_ w3 ⟨rfl,hb⟩
    have B3:=hd_ (B2.out.trans (hb.mono B2.out.size))
    have F3:=hd_ (heap_kept F2.out hb nr_)
    clear hb B2 F2
    go_wp2_with fail
    go_ret
    exact⟨rfl,B3.out⟩
   ·have d0:decide (n<0)=false:=decide_eq_false hr1
    have d1:decide ((90:Int)<n)=true:=decide_eq_true (by omega)
    have d2:decide (n≤(1000:Int))=false:=decide_eq_false (by omega)
    have d3:decide ((1000:Int)<n)=true:=decide_eq_true (by omega)
    clear hr
    go_enter Tryz.func10,Tryz.ntmps10
    go_wp2_with fail
    generalize w.alloc (.cells #[.int .i64 p,.int .i64 n,.string s] 27)=w0 at *
    refine cm_ (HK.out _ B0.out) ?_
    rintro e_ w1 ⟨rfl,hb⟩
    have B1:=hd_ (B0.out.trans (hb.mono B0.out.size))
    have F1:=hd_ (heap_kept F0.out hb nr_)
    clear hb B0 F0
    obtain⟨k0,k1,k2,-⟩:=three_cells F1.out
    go_wp2_with fail
    clear k0 k1 k2
    refine cm_ (HP.out _) ?_
    rintro e_ w2 ⟨rfl,hb⟩
    have B2:=hd_ (B1.out.trans (hb.mono B1.out.size))
    have F2:=hd_ (heap_kept F1.out hb nr_)
    clear hb B1 F1
    obtain⟨k0,k1,k2,-⟩:=three_cells F2.out
    go_wp2_with fail
    clear k0 k1 k2
    refine cm_ (HC.out _) ?_
    rintro e_ w3 ⟨rfl,hb⟩
    have B3:=hd_ (B2.out.trans (hb.mono B2.out.size))
    have F3:=hd_ (heap_kept F2.out hb nr_)
    clear hb B2 F2
    go_wp2_with fail
    go_ret
    exact⟨rfl,B3.out⟩
  ·rw[if_neg hr] at hv
   exact absurd hv.symm he
 ·rw[decide_eq_false hz] at HP
  unfold bcode at hv
  rw[if_neg hz] at hv
  subst hv
  clear hz he
  by_cases hr1:n≤90
  ·have d1:decide ((90:Int)<n)=false:=decide_eq_false (by omega)
   clear h
   go_enter Tryz.func10,Tryz.ntmps10
   go_wp2_with fail
   generalize w.alloc (.cells #[.int .i64 p,.int .i64 n,.string s] 27)=w0 at *
   refine cm_ (HK.out _ B0.out) ?_
   rintro e_ w1 ⟨rfl,hb⟩
   have B1:=hd_ (B0.out.trans (hb.mono B0.out.size))
   have F1:=hd_ (heap_kept F0.out hb nr_)
   clear hb B0 F0
   obtain⟨k0,k1,k2,-⟩:=three_cells F1.out
   go_wp2_with fail
   clear k0 k1 k2
   refine cm_ (HP.out _) ?_
   rintro e_ w2 ⟨rfl,hb⟩
   have B2:=hd_ (B1.out.trans (hb.mono B1.out.size))
   have F2:=hd_ (heap_kept F1.out hb nr_)
   clear hb B1 F1
   obtain⟨k0,k1,k2,-⟩:=three_cells F2.out
   go_wp2_with fail
   clear k0 k1 k2
   refine cm_ (HC.out _) ?_
   rintro e_ w3 ⟨rfl,hb⟩
   have B3:=hd_ (B2.out.trans (hb.mono B2.out.size))
   have F3:=hd_ (heap_kept F2.out hb nr_)
   clear hb B2 F2
   go_wp2_with fail
   go_ret
   exact⟨rfl,B3.out⟩
  ·have d1:decide ((90:Int)<n)=true:=decide_eq_true (by omega)
   have d2:decide (n≤(1000:Int))=false:=decide_eq_false (by omega)
   clear h
   go_enter Tryz.func10,Tryz.ntmps10
   go_wp2_with fail
   generalize w.alloc (.cells #[.int .i64 p,.int .i64 n,.string s] 27)=w0 at *
   refine cm_ (HK.out _ B0.out) ?_
   rintro e_ w1 ⟨rfl,hb⟩
   have B1:=hd_ (B0.out.trans (hb.mono B0.out.size))
   have F1:=hd_ (heap_kept F0.out hb nr_)
   clear hb B0 F0
   obtain⟨k0,k1,k2,-⟩:=three_cells F1.out
   go_wp2_with fail
   clear k0 k1 k2
   refine cm_ (HP.out _) ?_
   rintro e_ w2 ⟨rfl,hb⟩
   have B2:=hd_ (B1.out.trans (hb.mono B1.out.size))
   have F2:=hd_ (heap_kept F1.out hb nr_)
   clear hb B1 F1
   obtain⟨k0,k1,k2,-⟩:=three_cells F2.out
   go_wp2_with fail
   clear k0 k1 k2
   refine cm_ (HC.out _) ?_
   rintro e_ w3 ⟨rfl,hb⟩
   have B3:=hd_ (B2.out.trans (hb.mono B2.out.size))
   have F3:=hd_ (heap_kept F2.out hb nr_)
   clear hb B2 F2
   go_wp2_with fail
   go_ret
   exact⟨rfl,B3.out⟩
theorem lawEck_num(w:World)(p n:Nat)(s:ByteArray)(hpz:IsPz p)(hs:s.size≤40)(hn:n≤90)(hZ:¬ IsZ s)(L:Laid w):
  Gives Tryz.prog 10 #[.agg #[.int .i64 p,.int .i64 n,.string s]] w (.bool true):=by
 unfold Gives
 have B0:=hd_ ((Below.refl w.heap.size w).alloc nr_ (.cells #[.int .i64 p,.int .i64 n,.string s] 27))
 have F0:Hid ((w.alloc (.cells #[.int .i64 p,.int .i64 n,.string s] 27)).heap[w.heap.size]?=some (.cells #[.int .i64 p,.int .i64 n,.string s] 27 (0,0))):=heap_alloc_new w _
 have HK:=hd_ (fun W (hW:Below w.heap.size w W)=>known14_ok W (L.below hW))
 have h97:=isP_le hpz
 have HP:=hd_ (fun W=>isPrimez_any W (p:Int) (by omega) (by omega))
 rw[decide_eq_true hpz] at HP
 have h3:¬ (40:Int)<s.size:=by omega
 have d0:decide ((n:Int)<0)=false:=decide_eq_false (by omega)
 have d1:decide ((90:Int)<n)=false:=decide_eq_false (by omega)
 have d3:decide ((1000:Int)<n)=false:=decide_eq_false (by omega)
 have hb0:bcode p n=0:=by unfold bcode;rw[if_pos hpz,if_neg (by omega)]
 have HC:=hd_ (fun W=>eck_num W (p:Int) (n:Int) s (by omega) (by omega) (by omega) (by omega) hb0 (by omega) hZ)
 have HR:=hd_ (fun W=>right2_any W s (by omega) false ⟨fun h=>(by cases h),fun h=>absurd h hZ⟩)
 unfold bndV at HC
 clear L hb0 hZ hpz h97
 go_enter Tryz.func10,Tryz.ntmps10
 go_wp2_with fail
 generalize w.alloc (.cells #[.int .i64 p,.int .i64 n,.string s] 27)=w0 at *
 refine cm_ (HK.out _ B0.out) ?_
 rintro e_ w1 ⟨rfl,hb⟩
 have B1:=hd_ (B0.out.trans (hb.mono B0.out.size))
 have F1:=hd_ (heap_kept F0.out hb nr_)
 clear hb B0 F0
 obtain⟨k0,k1,k2,-⟩:=three_cells F1.out
 go_wp2_with fail
 clear k0 k1 k2
 refine cm_ (HP.out _) ?_
 rintro e_ w2 ⟨rfl,hb⟩
 have B2:=hd_ (B1.out.trans (hb.mono B1.out.size))
 have F2:=hd_ (heap_kept F1.out hb nr_)
 clear hb B1 F1
 obtain⟨k0,k1,k2,-⟩:=three_cells F2.out
 go_wp2_with fail
 clear k0 k1 k2
 refine cm_ (HR.out _) ?_
 rintro e_ w3 ⟨rfl,hb⟩
 have B3:=hd_ (B2.out.trans (hb.mono B2.out.size))
 have F3:=hd_ (heap_kept F2.out hb nr_)
 clear hb B2 F2
 obtain⟨k0,k1,k2,-⟩:=three_cells F3.out
 go_wp2_with fail
 clear k0 k1 k2
 refine cm_ (HC.out _) ?_
 rintro e_ w4 ⟨rfl,hb⟩
 have B4:=hd_ (B3.out.trans (hb.mono B3.out.size))
 have F4:=hd_ (heap_kept F3.out hb nr_)
 clear hb B3 F3
 go_wp2_with fail
 go_ret
 exact⟨rfl,B4.out⟩
theorem lawEck_fine(w:World)(p n:Nat)(s:ByteArray)(hp:p=2∨p∈oddP)(hpz:IsPz p)(hs:s.size≤40)(hn:n≤90)(hZ:IsZ s)(L:Laid w):
  Gives Tryz.prog 10 #[.agg #[.int .i64 p,.int .i64 n,.string s]] w (.bool true):=by
 unfold Gives
 have B0:=hd_ ((Below.refl w.heap.size w).alloc nr_ (.cells #[.int .i64 p,.int .i64 n,.string s] 27))
 have F0:Hid ((w.alloc (.cells #[.int .i64 p,.int .i64 n,.string s] 27)).heap[w.heap.size]?=some (.cells #[.int .i64 p,.int .i64 n,.string s] 27 (0,0))):=heap_alloc_new w _
 have HK:=hd_ (fun W (hW:Below w.heap.size w W)=>known14_ok W (L.below hW))
 have h97:=isP_le hpz
 have HP:=hd_ (fun W=>isPrimez_any W (p:Int) (by omega) (by omega))
 rw[decide_eq_true hpz] at HP
 have h3:¬ (40:Int)<s.size:=by omega
 have d0:decide ((n:Int)<0)=false:=decide_eq_false (by omega)
 have d1:decide ((90:Int)<n)=false:=decide_eq_false (by omega)
 have d3:decide ((1000:Int)<n)=false:=decide_eq_false (by omega)
 have hb0:bcode p n=0:=by unfold bcode;rw[if_pos hpz,if_neg (by omega)]
 have HC:=hd_ (fun W (hW:Below w.heap.size w W)=>eck_fine W p n s hp hpz (by omega) hZ (L.below hW))
 have HR:=hd_ (fun W=>right2_any W s (by omega) true ⟨fun _=>hZ,fun _=>rfl⟩)
 have HLo:=hd_ (fun W (hW:Below w.heap.size w W)=>low14_ok W p n hp hn (L.below hW))
 unfold bndV at HC
 clear L hb0 hZ hpz h97 hp
 generalize dec (lgN p n)=t at *
 have hst:=toList_eq (a:=s) (b:=t)
 go_enter Tryz.func10,Tryz.ntmps10
 go_wp2_with fail
 generalize w.alloc (.cells #[.int .i64 p,.int .i64 n,.string s] 27)=w0 at *
 refine cm_ (HK.out _ B0.out) ?_
 rintro e_ w1 ⟨rfl,hb⟩
 have B1:=hd_ (B0.out.trans (hb.mono B0.out.size))
 have F1:=hd_ (heap_kept F0.out hb nr_)
 clear hb B0 F0
 obtain⟨k0,k1,k2,-⟩:=three_cells F1.out
 go_wp2_with fail
 clear k0 k1 k2
 refine cm_ (HP.out _) ?_
 rintro e_ w2 ⟨rfl,hb⟩
 have B2:=hd_ (B1.out.trans (hb.mono B1.out.size))
 have F2:=hd_ (heap_kept F1.out hb nr_)
 clear hb B1 F1
 obtain⟨k0,k1,k2,-⟩:=three_cells F2.out
 go_wp2_with fail
 clear k0 k1 k2
 refine cm_ (HR.out _) ?_
 rintro e_ w3 ⟨rfl,hb⟩
 have B3:=hd_ (B2.out.trans (hb.mono B2.out.size))
 have F3:=hd_ (heap_kept F2.out hb nr_)
 clear hb B2 F2
 obtain⟨k0,k1,k2,-⟩:=three_cells F3.out
 have q0:=NW.cell k0
 have q1:=NW.cell k1
 have q2:=NW.cell k2
 have hnon:Nonempty (NW w3):=⟨⟨w3,Below.refl _ _⟩⟩
 have I:Hid (Below w3.heap.size w3 w3.drew):=(Below.refl _ _).drew
 clear k0 k1 k2
 go_wp2_with fail
 refine RP.wp_region_readers 8 [(1,0),(1,1),(1,2),(1,3),(1,4),(1,5),(0,6),(0,7),(0,8)] (fun w'=>∃ p:NW w3,w'=p.w) (by kernel_rfl) (by kernel_rfl) ?_ ?_
 ·exact⟨⟨_,I.out⟩,rfl⟩
 refine RP.walkR_read ?_
 simp only[dz_,tsc_,tz_]
 go_big_quiet_step (fail);refine wpQuiet_nil ?_
 iterate 5 (refine RP.walkR_read ?_;simp only[dsc_,dz_,tsc_,tz_];go_big_quiet_step (fail);refine wpQuiet_nil ?_)
 clear hnon q0 q1 q2
 refine RP.walkR_move ?_
 simp only[dsc_,dz_,tsc_,tz_]
 go_wp2_with fail
 refine cm_ (HLo.out _ (B3.out.trans (I.out.mono B3.out.size))) ?_
 rintro e_ w4 ⟨rfl,hb⟩
 have J:Hid (Below w3.heap.size w3 w4):=I.out.trans (hb.mono I.out.size)
 clear hb HLo I
 go_wp2_with fail
 refine⟨⟨⟨_,J.out⟩,rfl⟩,?_⟩
 have B4:=hd_ (B3.out.trans (J.out.mono B3.out.size))
 have F4:=hd_ (heap_kept F3.out J.out nr_)
 by_cases hE:s=t
 ·rw[if_pos hE] at HC
  rw[decide_eq_true hE] at hst
  clear hE
  refine RP.walkR_move ?_
  simp only[dsc_,dz_,tsc_,tz_]
  go_wp2_with fail
  refine⟨⟨⟨_,J.out⟩,rfl⟩,?_⟩
  refine RP.walkR_move ?_
  simp only[dsc_,dz_,tsc_,tz_]
  go_wp2_with fail
  simp only[RP.walkR]
  clear J B3 F3
  obtain⟨k0,k1,k2,-⟩:=three_cells F4.out
  go_wp2_with fail
  clear k0 k1 k2
  refine cm_ (HC.out _ B4.out) ?_
  rintro e_ w5 ⟨rfl,hb⟩
  have B5:=hd_ (B4.out.trans (hb.mono B4.out.size))
  clear hb HC B4 F4
  go_wp2_with fail
  go_ret
  exact⟨rfl,B5.out⟩
 ·rw[if_neg hE] at HC
  rw[decide_eq_false hE] at hst
  clear hE
  refine RP.walkR_move ?_
  simp only[dsc_,dz_,tsc_,tz_]
  go_wp2_with fail
  refine⟨⟨⟨_,J.out⟩,rfl⟩,?_⟩
  refine RP.walkR_move ?_
  simp only[dsc_,dz_,tsc_,tz_]
  go_wp2_with fail
  simp only[RP.walkR]
  clear J B3 F3
  obtain⟨k0,k1,k2,-⟩:=three_cells F4.out
  go_wp2_with fail
  clear k0 k1 k2
  refine cm_ (HC.out _ B4.out) ?_
  rintro e_ w5 ⟨rfl,hb⟩
  have B5:=hd_ (B4.out.trans (hb.mono B4.out.size))
  clear hb HC B4 F4
  go_wp2_with fail
  go_ret
  exact⟨rfl,B5.out⟩
theorem lawEck(w:World)(p n:Int)(s:ByteArray)(p0 : -9223372036854775808≤p)(p1:p≤9223372036854775807)(n0 : -9223372036854775808≤n)(n1:n≤9223372036854775807)(L:Laid w):
  Gives Tryz.prog 10 #[.agg #[.int .i64 p,.int .i64 n,.string s]] w (.bool true):=by
 by_cases h:(90<n∧n≤1000)∨40<s.size
 ·exact lawEck_pass w p n s h L
 ·by_cases he:bcode p n=0
  ·unfold bcode at he
   by_cases hz:IsPz p
   ·rw[if_pos hz] at he
    by_cases hr:n<0∨1000<n
    ·rw[if_pos hr] at he;cases he
    ·obtain⟨q,rfl,hq⟩:=isPz_pr hz
     obtain⟨m,rfl⟩:=Int.eq_ofNat_of_zero_le (show 0≤n by omega)
     by_cases hZ:IsZ s
     ·exact lawEck_fine w q m s hq hz (by omega) (by omega) hZ L
     ·exact lawEck_num w q m s hz (by omega) (by omega) hZ L
   ·rw[if_neg hz] at he;cases he
  ·exact lawEck_err w p n s p0 p1 n0 n1 (by omega) (by omega) he L
end Go.Proofs.YtnjedhgcfeoemaaGreatDoor

namespace Go.Proofs.YtnjedhgcfeoemaaGreatDoor
open Go.ChangeShapes Go.WideShapes Go.ChangeAt Go.RowKit
theorem enclosureChecks_lifted(os:Os)(started:os.Started)(H:Type)(enc:TypeId×Value→H):
  ReturnsInHanded {} Tryz.checked os 10 .any (fun w args=>(Rows.enclosureChecksSpec.pre enc Tryz.prog Tryz.f10 [] false w args∧laidMetH Tryz.prog laidL w)∧sizedMet enc Tryz.prog Tryz.f10 (OpenSpec.ofChange Rows.enclosureChecksSpec) false w args)
   (Rows.enclosureChecksSpec.post enc Tryz.prog Tryz.f10 false true false false):=by
 refine returnsInHanded_of_change_and (C:=Tryz.checked) (X:=fun w _=>laidMetH Tryz.prog laidL w) (fun _ _ _ hh h=>h.of_heap hh) own started (by kernel_rfl) Tryz.func10
  (ChangeSpec.witness_shaped (enc:=enc) (C:=Tryz.checked) (os:=os) (X:=fun w _=>laidMetH Tryz.prog laidL w) false (World.doorLaid Tryz.prog 400 os) #[.agg #[.int .i64 0,.int .i64 0,.string ⟨#[]⟩]] 8 rfl (World.shaped_of_RefB (by kernel_rfl) (by kernel_rfl)) (by kernel_rfl) (by kernel_rfl) (by kernel_rfl) (door_met os _)) ?_
 intro W base args ds gs before hval0 hW _ _ hL _
 have hval:∀ (j:Nat) t v,Tryz.f10.params[j]?=some t→args[j]?=some v→Value.okWide Tryz.prog W .any base t v:=hval0
 have hW':=hW
 obtain⟨p,q,hA0,hV,rfl,hfz,hnd⟩:=hW
 have hA:DataW.TrodAll enc Tryz.prog W 0 (fun _=>true) true Tryz.f10.params.toList args.toList ds p:=hA0
 rw[Tryz.params10] at hA hval
 obtain⟨v0,vs0,d0,ds0,p0,q0,hargs,rfl,rfl,h0,r0⟩:=trodAll_cons hA
 obtain⟨rfl,rfl,rfl⟩:=trodAll_nil r0
 obtain rfl:args = #[v0]:=by cases args;simp_all
 obtain⟨rfl,rfl⟩:=trodVars_none hV
 have k0:=h0
 have lt0:∀ x∈p0,x.block<W.heap.size:=by obtain⟨m,hm⟩:=k0;exact DataW.trod_lt m _ _ _ hm
 obtain⟨bp,bn,bs,rfl,wp,wn,-⟩:=open_bd (hval 0 27 v0 rfl rfl) h0
 clear hA0 hval0
 refine(lawEck W bp bn bs wp.1 wp.2 wn.1 wn.2 (laid_of hL)).mono fun e W' ⟨he,bel⟩=>?_
 subst he
 exact⟨_,rfl,_,_,_,[],_,[],hW',trodAll_mk1 (shut_bool Tryz.underlying4 _),(trodAll_cons_mk (Below.trod laidOut (by kernel_rfl) (of_decide_eq_true (by kernel_rfl)) k0 bel lt0) trodAll_mk0),rfl,bel.frame _,fun h=>by cases h⟩
theorem enclosureChecks_row:Rows.EnclosureChecksSaid:=
 OpenClaim.holds_of_wide 10 Tryz.f10 rfl rfl rfl rfl rfl rfl rfl ⟨rfl,rfl,rfl,rfl,rfl⟩ rfl rfl rfl rfl rfl (by as_aux_lemma=>kernel_rfl) Tryz.func10 (by
   unfold joinedFacts
   simp only[Bool.and_eq_true]
   repeat' (refine And.intro ?_ ?_)
   all_goals (as_aux_lemma=>kernel_rfl))
  (by as_aux_lemma=>exact of_decide_eq_true (by kernel_rfl)) (by unfold Func.isWrapper;first | (rw[if_pos (by decide +kernel)];kernel_rfl) | (rw[if_neg (by decide +kernel)];exact⟨rfl,rfl⟩))
  (fun os started H enc _=>enclosureChecks_lifted os started H enc)
end Go.Proofs.YtnjedhgcfeoemaaGreatDoor
