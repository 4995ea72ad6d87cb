/- Lemmas for the laws of this seat, part 4. -/
import Derived.WalkMore
import Derived.Scope
import Derived.Laws.AppendOwnNone
import Derived.BigQuiet
import Derived.Deep.OwnRows
import Derived.Test.YtnjedhgcfeoemaaGreatDoorWj3
set_option maxRecDepth 100000
set_option maxHeartbeats 16000000
namespace Go.Proofs.YtnjedhgcfeoemaaGreatDoor
open Go.RowKit
structure Qaf (n:Nat) (bl:List Bool) (F:Nat→Nat):Prop where
 len:bl.length=n
 nxt:∀ j,j<n→F (j+1)=2*F j+(bl.getD j false).toNat
 sm:∀ j,j≤n→F j<2^(j+3)
theorem Zvo{p P n:Nat}(hp:2≤p)(hp2:p≤97)(hP:64≤P){s:Nat×Nat×Nat}(h:Vm p P n=some s):∃ F,Qaf n (Zdf p P n) F∧F 0=p.log2∧F n=s.2.2:=by
 refine⟨fun j=>match Vm p P j with | some s=>s.2.2 | none=>0,⟨Yf p P n,fun j hj=>?_,fun j hj=>?_⟩,rfl,?_⟩
 ·have h1:(Vm p P (j+1)).isSome:=Zan hj (by rw[h];rfl)
  have h0:(Vm p P j).isSome:=Zan (Nat.le_of_lt hj) (by rw[h];rfl)
  obtain⟨t,ht⟩:=Option.isSome_iff_exists.1 h1;obtain⟨u,hu⟩:=Option.isSome_iff_exists.1 h0;simp only[ht,hu];rw[Zth p P n j hj];exact Zvm hu ht
 ·have h0:(Vm p P j).isSome:=Zan hj (by rw[h];rfl)
  obtain⟨u,hu⟩:=Option.isSome_iff_exists.1 h0;simp only[hu];exact(Zs1 p P hp hp2 hP j _ hu).out
 ·simp only[h]
theorem Zvn(n:Nat):Qaf n (List.replicate n false) (fun j=>2^j):=by
 refine⟨by simp,fun j hj=>?_,fun j hj=>Nat.pow_lt_pow_right (by decide) (by omega)⟩
 have:(List.replicate n false).getD j false=false:=by rw[List.getD_eq_getElem?_getD,List.getElem?_replicate];split<;>rfl
 rw[this,Nat.pow_succ]
 show _=_+0
 omega
/-! The walk. -/
def K10:Nat:=1010
theorem k10:K10=1010:=rfl
theorem Zy8(n:Nat)(w:World)(hn:n≤100000000):
  (Instr.makeSlice 74 (.int .i64 (n:Int)) (.int .i64 (n:Int))).run Tryz.prog w = .ok (.slice (some ⟨w.heap.size,0,none⟩) n n) (w.alloc (.cells (Zbe (List.replicate n false)).toArray 4)):=by
 have:=run_make_row' (P:=Tryz.prog) 74 4 (.bool false) 1 Tryz.underlying74 Zwv rfl .i64 .i64 n (by omega) (by omega) w
 rw[show madeCells #[.bool false] n=(Zbe (List.replicate n false)).toArray by apply Array.ext';rw[toList_madeCells_one];simp[Zbe]] at this
 exact this
theorem Zra(w:World)(l:List Bool):Rd (w.alloc (.cells (Zbe l).toArray 4)) (some ⟨w.heap.size,0,none⟩) (Zbe l) :=
 .inr ⟨w.heap.size,0,rfl,by simp,fun i v hi=>by
  rw[Nat.zero_add,cell_of_row _ w.heap.size i _ 4 (0,0) (heap_alloc_new w _)]
  simpa using hi⟩
theorem Zue{w:World}{B:Nat}{a:Option Addr}{c:Nat}{l:List Bool}(h:Zhe w B a c l):Rd w a (Zbe l):=by
 by_cases hn:0<l.length
 ·obtain⟨g,cap,hv,h1,h2,h3,h4,h5⟩:=Vv h hn;simp only[Value.slice.injEq] at hv;obtain⟨rfl,-,-⟩:=hv;refine .inr ⟨g,0,rfl,h2,fun i v hi=>?_⟩
  have hlt:=(List.getElem?_eq_some_iff.1 hi).1;rw[Zaf] at hlt;rw[Nat.zero_add,h4 i (by omega)];exact hi
 ·obtain rfl:=List.length_eq_zero_iff.1 (Nat.eq_zero_of_not_pos hn);exact .inl rfl
structure LoI (w wr:World) (n:Nat) (bl:List Bool) (j:Nat) (a:Option Addr) (c:Nat):Prop where
 rd:Rd wr a (Zbe (bl.drop j))
 cap:n-j≤c
 bel:Below w.heap.size w wr
theorem Zoc(w:World)(p n:Nat)(hp:p=2∨p∈Yt)(hn:n≤1000)(L:Qb w):
  Kc Tryz.prog 67 #[.int .i64 p,.int .i64 n] w (.string (dec (lgN p n))):=by
 unfold Kc;have hp1:2≤p:=by
  rcases hp with h|h
  ·omega
  ·have:=Yg h;have:=Zfd h;omega
 have hp2:p≤97:=by
  rcases hp with h|h
  ·omega
  ·have:=Yg h;omega
 have hl:=Zmi p hp1 hp2;have hln:=hd_ (Tryz.bits_Len p w (by omega) (by omega))
 rw[show ((p:Nat):Int).toNat=p from rfl,Zen p (by omega) hp2] at hln
 have hw1:IntKind.i64.wrap (((p.log2+1:Nat):Int)-1)=(p.log2:Int):=by rw[show ((p.log2+1:Nat):Int)-1=(p.log2:Int) by omega];exact iw_ _ (by omega)
 have hw2:IntKind.u64.wrap (p:Int)=p:=IntWalk.u64_in _ (by omega)
 have HL:=hd_ L;clear L;have Hof:Hid (∀ (z:Nat) W,z≤1000000000→Below w.heap.size w W→Kc Tryz.prog 73 #[.int .i64 z] W (.string (dec z))):=fun z W hz hW=>by
  have:=Zah W z (by omega) (by omega) (HL.out.below hW)
  rw[Kj] at this;exact this
 have Hmul:Hid (∀ (x g:Nat) W,x<2^K10→g≤28→Below w.heap.size w W→Kc Tryz.prog 115 #[.string (dec x),.string (dec (2^g))] W (.string (dec (x*2^g)))):=fun x g W hx hg hW =>
  Qae W x (2^g) K10 (by decide) hx (Nat.pow_lt_pow_right (by decide) (by rw[k10];omega)) (HL.out.below hW)
 have Hadd:Hid (∀ (x a g:Nat) W,x<2^K10→g≤28→a<2^g→Below w.heap.size w W→Kc Tryz.prog 20 #[.string (dec (x*2^g)),.string (dec a)] W (.string (dec (x*2^g+a)))):=fun x a g W hx hg ha hW=>by
  refine Zv5 W (x*2^g) a (K10+90) (by decide) ?_ ?_ (HL.out.below hW)
  ·refine Nat.lt_of_lt_of_le (Nat.mul_lt_mul_of_pos_right hx (Nat.two_pow_pos g)) ?_;rw[← Nat.pow_add];exact Nat.pow_le_pow_right (by decide) (by omega)
  ·exact Nat.lt_of_lt_of_le ha (Nat.pow_le_pow_right (by decide) (by rw[k10];omega))
 have Hdg:Hid (p≠2→∀ (P:Nat) W,n+64≤P→P≤1300→Calls Tryz.prog 139 #[.int .i64 p,.int .i64 p.log2,.int .i64 n,.int .i64 P] W fun e w'=>Qaa W w' p P n e):=fun _ P W h1 h2=>Zmv W p n P hp1 hp2 hl hn h1 h2
 have Hok:Hid (∀ P,p≠2→1120≤P→Vm p P n≠none):=fun P h1 h2 h3=>by
  have:=Zje (hp.resolve_left h1) (show n≤1056 by omega) h2
  rw[h3] at this;cases this
 have Hlg:Hid (∀ (P:Nat) s,p≠2→64≤P→Vm p P n=some s→s.2.2=lgN p n):=fun P s h1 h2 h3=>Zds (hp.resolve_left h1) (by omega) (by omega) h3
 have Hlg2:Hid (p=2→lgN p n=2^n):=fun h=>by rw[h];exact Yl n
 have Hp1:=hd_ hp1;have Hp2:=hd_ hp2;have Hn:=hd_ hn;have hpb:p≤97:=hp2;have hnb:n≤1000:=hn;obtain⟨v,hv⟩:∃ v,lgN p n=v:=⟨_,rfl⟩;rw[hv] at Hlg Hlg2 ⊢;clear hv hp hp1 hp2 hn;generalize hk:p.log2=k at *
 have Hk:=hd_ hk;clear hk;go_enter Tryz.func67,Tryz.ntmps67
 go_wp2_with fail
 refine cm_ hln.out ?_;rintro e w1 ⟨rfl,hw1e⟩;clear hln
 go_wp2_with fail
 clear hw1e;refine cm_ (Hof.out k w (by omega) (Below.refl _ _)) ?_
 rintro e w2 ⟨rfl,hb⟩;have B2:=hd_ hb;clear hb
 by_cases h2:p=2
 ·have Hv:Hid (v=2^n):=Hlg2.out h2;have Hk1:Hid (k=1):=by
   show _=_
   rw[← Hk.out,h2];decide +kernel
  subst h2;have hmk:=Zy8 n w2 (by omega)
  have Hrd:=hd_ (Zra w2 (List.replicate n false));have B3:=hd_ (B2.out.alloc B2.out.size (.cells (Zbe (List.replicate n false)).toArray 4));generalize w2.alloc (.cells (Zbe (List.replicate n false)).toArray 4)=w3 at *
  clear B2 Hdg Hok Hlg Hlg2
  go_wp2_with fail
  go_loopw [7,8] (fun l q wr=>l = .slice (some ⟨w2.heap.size,0,none⟩) n n∧q = .int .i64 ((n:Int)+64)∧Hid (wr=w3)) (fun _ _ _=>0)
  case atStart=>exact⟨rfl,rfl,rfl⟩
  case round =>
   obtain⟨rfl,rfl,hwr⟩:=hrel;obtain rfl:=hwr.out;clear hwr;obtain⟨F,hF⟩:∃ F:Nat→Nat,F=fun j=>2^j:=⟨_,rfl⟩
   obtain⟨bl,hbl⟩:∃ bl,bl=List.replicate n false:=⟨_,rfl⟩;have HF:Hid (Qaf n bl F):=by show Qaf n bl F;rw[hbl,hF];exact Zvn n
   have HFk:Hid (F 0=k):=by show _=_;rw[hF,Hk1.out]
   have HFn:Hid (F n=v):=by show _=_;rw[hF,Hv.out]
   have HR:Hid (LoI w wr n bl 0 (some ⟨w2.heap.size,0,none⟩) n):=⟨by rw[List.drop_zero,hbl];exact Hrd.out,by omega,B3.out⟩
   clear hF hbl Hv Hk1 Hrd B3
   go_wp2_with fail
   go_loopw [6,7] (fun s l wr=>∃ (j:Nat) (a:Option Addr) (c:Nat),j≤n∧s = .string (dec (F j))∧l = .slice a (n-j) c∧Hid (LoI w wr n bl j a c)) (fun _ l _=>match l with | .slice _ m _=>m | _=>0)
   case atStart=>exact⟨0,_,_,Nat.zero_le _,by rw[HFk.out],by rw[Nat.sub_zero],HR⟩
   case round =>
    clear HR;obtain⟨j,a,c,hj,rfl,rfl,HI⟩:=hrel;obtain⟨m,hm⟩:∃ m,n-j=m:=⟨_,rfl⟩;have hmb:m≤1000:=by omega
    rw[hm]
    by_cases hlt:0<m
    ·have hlt':(0:Int)<m:=by omega
     obtain⟨g,hg⟩:∃ g,min m 28=g:=⟨_,rfl⟩;have hg28:g≤28:=by omega
     have hgm:g≤m:=by omega
     have hg0:0<g:=by omega
     have hmin:min (m:Int) 28=(g:Nat):=by omega
     have hcap:g≤c:=by have:=HI.out.cap;omega
     have Hjg:=hd_ (show j+g≤n by omega)
     obtain⟨b,off,rfl,hb1,hcell⟩:=HI.out.rd.open (by rw[Zaf,List.length_drop,HF.out.len];omega)
     have Hcell:Hid (∀ t,t<g→wr.cell? ⟨b,off+t,none⟩=some (.bool (bl.getD (j+t) false))):=fun t ht=>by
      refine hcell t _ ?_;rw[Zgy _ _ (by rw[List.length_drop,HF.out.len];omega)]
      rw[List.getD_eq_getElem?_getD,List.getD_eq_getElem?_getD,List.getElem?_drop]
     clear hcell;obtain⟨wo,hwo⟩:∃ wo:World,wo=wr:=⟨_,rfl⟩;subst hwo
     go_wp2_with fail
     go_loopw [11,49] (fun ad i wr=>∃ t x:Nat,t≤g∧i = .int .i64 t∧ad = .int .i64 x∧x<268435456∧Hid (x<2^t∧F (j+t)=F j*2^t+x)∧Hid (Below wo.heap.size wo wr)) (fun _ i _=>g-(intOf i).toNat)
     case atStart=>exact⟨0,0,Nat.zero_le _,rfl,rfl,by decide,⟨by decide,by simp⟩,Below.refl _ _⟩
     case round =>
      obtain⟨t,x,ht,rfl,rfl,hx,HX,HB⟩:=hrel
      by_cases hlt2:t<g
      ·have hlt2':(t:Int)<g:=by omega
       have cb:=Hcell.out t hlt2;rw[← HB.out.cell (p:=⟨b,off+t,none⟩) hb1] at cb;have hnx:=HF.out.nxt (j+t) (by have:=Hjg.out;omega)
       have hxt:=HX.out.1;have hpt:2^(t+1)≤268435456:=Nat.le_trans (Nat.pow_le_pow_right (by decide) (show t+1≤28 by omega)) (by decide)
       have hps:2^(t+1)=2*2^t:=by rw[Nat.pow_succ,Nat.mul_comm]
       have hw2':IntKind.i64.wrap ((x:Int)*2)=((2*x:Nat):Int):=by rw[show (x:Int)*2=((2*x:Nat):Int) by omega];exact iw_ _ (by omega)
       have hw3':IntKind.i64.wrap (((2*x:Nat):Int)+1)=((2*x+1:Nat):Int):=by rw[← Int.natCast_succ];exact iw_ _ (by omega)
       have htw:IntKind.i64.wrap ((t:Int)+1)=((t+1:Nat):Int):=by rw[← Int.natCast_succ];exact iw_ _ (by omega)
       have e1:F j*2^(t+1)=2*(F j*2^t):=by rw[hps];exact Nat.mul_left_comm ..
       have hXb:=HX.out.2;cases hbv:bl.getD (j+t) false with
       | true =>
        have HX2:Hid (2*x+1<2^(t+1)∧F (j+(t+1))=F j*2^(t+1)+(2*x+1)):=by
         refine⟨by omega,?_⟩
         rw[hbv] at hnx;rw[← Nat.add_assoc,hnx,hXb,e1]
         show _+1=_
         omega
        have hx2:2*x+1<268435456:=by have:=HX2.out.1;omega
        rw[hbv] at cb;clear hnx hbv HX e1 hXb hxt hpt hps
        go_wp2_with fail
        refine⟨⟨t+1,2*x+1,by omega,by go_num,by go_num,hx2,HX2,HB⟩,by simp[intOf];omega⟩
       | false =>
        have HX2:Hid (2*x<2^(t+1)∧F (j+(t+1))=F j*2^(t+1)+2*x):=by
         refine⟨by omega,?_⟩
         rw[hbv] at hnx;rw[← Nat.add_assoc,hnx,hXb,e1]
         show _+0=_
         omega
        have hx2:2*x<268435456:=by have:=HX2.out.1;omega
        rw[hbv] at cb;clear hnx hbv HX e1 hXb hxt hpt hps hw3'
        go_wp2_with fail
        refine⟨⟨t+1,2*x,by omega,by go_num,by go_num,hx2,HX2,HB⟩,by simp[intOf];omega⟩
      ·obtain rfl:t=g:=by omega
       have hlt2':¬ (t:Int)<t:=by omega
       have hFj:=HF.out.sm j hj;have hF10:F j<2^K10:=Nat.lt_of_lt_of_le hFj (Nat.pow_le_pow_right (by decide) (by rw[k10];omega))
       obtain⟨G,hG⟩:∃ G,2^t=G:=⟨_,rfl⟩;have hGb:G≤268435456:=by rw[← hG];exact Nat.le_trans (Nat.pow_le_pow_right (by decide) hg28) (by decide)
       have hGi:(2:Int)^t=(G:Nat):=by rw[← hG,Int.natCast_pow];rfl
       have hsh:IntKind.i64.wrap (G:Int)=(G:Nat):=iw_ _ (by omega)
       have hM:=fun W hW=>Hmul.out (F j) t W hF10 hg28 hW
       have hA:=fun W hW=>Hadd.out (F j) x t W hF10 hg28 HX.out.1 hW
       have hXe:=HX.out.2;rw[hG] at hM hA hXe;have BW2:=hd_ (HI.out.bel.trans (HB.out.mono HI.out.bel.size));have HM:=hd_ hM;have HA:=hd_ hA;have HXe:=hd_ hXe;have hof1:=hd_ (fun W hW=>Hof.out G W (by omega) hW)
       have hof2:=hd_ (fun W hW=>Hof.out x W (by omega) hW)
       clear hFj hF10 hG hM hA hXe HX
       go_wp2_with fail
       refine cm_ (hof1.out _ BW2.out) ?_;rintro e w4 ⟨rfl,hb⟩;have B4:=hd_ (BW2.out.trans (hb.mono BW2.out.size));have C4:=hd_ (HB.out.trans (hb.mono HB.out.size));clear hb
       go_wp2_with fail
       refine cm_ (HM.out _ B4.out) ?_;rintro e w5 ⟨rfl,hb⟩;have B5:=hd_ (B4.out.trans (hb.mono B4.out.size));have C5:=hd_ (C4.out.trans (hb.mono C4.out.size));clear hb B4 C4
       go_wp2_with fail
       refine cm_ (hof2.out _ B5.out) ?_;rintro e w6 ⟨rfl,hb⟩;have B6:=hd_ (B5.out.trans (hb.mono B5.out.size));have C6:=hd_ (C5.out.trans (hb.mono C5.out.size));clear hb B5 C5
       go_wp2_with fail
       refine cm_ (HA.out _ B6.out) ?_;rintro e w7 ⟨rfl,hb⟩;have B7:=hd_ (B6.out.trans (hb.mono B6.out.size));have C7:=hd_ (C6.out.trans (hb.mono C6.out.size));clear hb B6 C6 hof1 hof2 HM HA HB BW2 Hcell;have HR7:=hd_ (Zrb (d:=c) (HI.out.rd.below C7.out nr_) t (by rw[Zaf,List.length_drop,HF.out.len];have:=HI.out.cap;omega))
       have Hcp:=hd_ HI.out.cap;rw[← HXe.out];clear HI HXe
       go_wp2_with fail
       refine⟨⟨j+t,_,c-t,Hjg.out,rfl,by rw[show n-(j+t)=m-t by omega],⟨?_,by have:=Hcp.out;omega,B7.out⟩⟩,by show m-t<m;omega⟩
       have:=HR7.out
       unfold Zbe at this;rw[← List.map_drop,List.drop_drop] at this;exact this
    ·obtain rfl:j=n:=by omega
     obtain rfl:m=0:=by omega
     go_wp2_with fail
     go_ret;exact⟨by rw[HFn.out];rfl,HI.out.bel⟩
 ·have h2b:((p:Int)==2)=false:=by rw[beq_eq_false_iff_ne];omega
  have h2n:((p:Int) != 2)=true:=by rw[bne_iff_ne];omega
  have Hdg':=hd_ (Hdg.out h2);have Hok':=hd_ (fun P h=>Hok.out P h2 h)
  have Hlg':=hd_ (fun P s h=>Hlg.out P s h2 h)
  have Hodd:=hd_ (fun (P:Nat) (s:Nat×Nat×Nat) (h1:64≤P) (h:Vm p P n=some s)=>Zvo Hp1.out Hp2.out h1 h)
  clear Hdg Hok Hlg Hlg2;have hwn:IntKind.i64.wrap ((n:Int)+64)=((n+64:Nat):Int):=by rw[show (n:Int)+64=((n+64:Nat):Int) by omega];exact iw_ _ (by omega)
  go_wp2_with fail
  go_loopw [7,8] (fun l q wr=>∃ P:Nat,n+64≤P∧P≤1200∧l = .slice none 0 0∧q = .int .i64 P∧Hid (Below w.heap.size w wr)) (fun _ q _=>1300-(intOf q).toNat)
  case atStart=>exact⟨n+64,Nat.le_refl _,by omega,rfl,rfl,B2⟩
  case round =>
   obtain⟨P,hP1,hP2,rfl,rfl,B3⟩:=hrel;clear B2
   go_wp2_with fail
   refine cm_ (Hdg'.out P _ hP1 (by omega)) ?_
   rintro e w4 ⟨hb,hm⟩;have B4:=hd_ (B3.out.trans (hb.mono B3.out.size));have hPw:IntKind.i64.wrap ((P:Int)+64)=((P+64:Nat):Int):=by rw[show (P:Int)+64=((P+64:Nat):Int) by omega];exact iw_ _ (by omega)
   cases hd:Vm p P n with
   | none =>
    rw[hd] at hm;obtain rfl:=hm;have hP3:P<1120:=Nat.lt_of_not_le fun h=>Hok'.out P h hd
    clear hb hd
    go_wp2_with fail
    refine⟨⟨P+64,by omega,by omega,rfl,by go_num,B4⟩,by simp[intOf];omega⟩
   | some s =>
    rw[hd] at hm;obtain⟨a0,c0,rfl,ho⟩:=hm;obtain⟨F,hF,hFk,hFn⟩:=Hodd.out P s (by omega) hd
    have HR':=hd_ (Zue ho);have Hcap0:Hid (n≤c0):=by
     have:Zhe w4 wr.heap.size a0 c0 (Zdf p P n):=ho
     show n≤c0
     rcases this.2 with⟨h1,h0⟩|⟨g,cap,cur,h1,_,_,h2,_⟩
     ·simp only[Value.slice.injEq] at h1;rw[Yf] at h0;omega
     ·simp only[Value.slice.injEq] at h1;rw[Yf] at h2;omega
    have HFn:Hid (F n=v):=by show _=_;rw[hFn];exact Hlg'.out P s (by omega) hd
    have HF:=hd_ hF;have HFk:Hid (F 0=k):=by show _=_;rw[hFk,Hk.out]
    clear hF hFn hFk hb hd ho Hdg' Hok' Hlg' Hodd B3;generalize Zdf p P n=bl at *
    have HR:Hid (LoI w w4 n bl 0 a0 c0):=⟨by rw[List.drop_zero];exact HR'.out,by have:=Hcap0.out;omega,B4.out⟩
    clear HR' Hcap0 B4
    go_wp2_with fail
    go_loopw [6,7] (fun s l wr=>∃ (j:Nat) (a:Option Addr) (c:Nat),j≤n∧s = .string (dec (F j))∧l = .slice a (n-j) c∧Hid (LoI w wr n bl j a c)) (fun _ l _=>match l with | .slice _ m _=>m | _=>0)
    case atStart=>exact⟨0,_,_,Nat.zero_le _,by rw[HFk.out],by rw[Nat.sub_zero],HR⟩
    case round =>
     clear HR;obtain⟨j,a,c,hj,rfl,rfl,HI⟩:=hrel;obtain⟨m,hm⟩:∃ m,n-j=m:=⟨_,rfl⟩;have hmb:m≤1000:=by omega
     rw[hm]
     by_cases hlt:0<m
     ·have hlt':(0:Int)<m:=by omega
      obtain⟨g,hg⟩:∃ g,min m 28=g:=⟨_,rfl⟩;have hg28:g≤28:=by omega
      have hgm:g≤m:=by omega
      have hg0:0<g:=by omega
      have hmin:min (m:Int) 28=(g:Nat):=by omega
      have hcap:g≤c:=by have:=HI.out.cap;omega
      have Hjg:=hd_ (show j+g≤n by omega)
      obtain⟨b,off,rfl,hb1,hcell⟩:=HI.out.rd.open (by rw[Zaf,List.length_drop,HF.out.len];omega)
      have Hcell:Hid (∀ t,t<g→wr.cell? ⟨b,off+t,none⟩=some (.bool (bl.getD (j+t) false))):=fun t ht=>by
       refine hcell t _ ?_;rw[Zgy _ _ (by rw[List.length_drop,HF.out.len];omega)]
       rw[List.getD_eq_getElem?_getD,List.getD_eq_getElem?_getD,List.getElem?_drop]
      clear hcell;obtain⟨wo,hwo⟩:∃ wo:World,wo=wr:=⟨_,rfl⟩;subst hwo
      go_wp2_with fail
      go_loopw [11,49] (fun ad i wr=>∃ t x:Nat,t≤g∧i = .int .i64 t∧ad = .int .i64 x∧x<268435456∧Hid (x<2^t∧F (j+t)=F j*2^t+x)∧Hid (Below wo.heap.size wo wr)) (fun _ i _=>g-(intOf i).toNat)
      case atStart=>exact⟨0,0,Nat.zero_le _,rfl,rfl,by decide,⟨by decide,by simp⟩,Below.refl _ _⟩
      case round =>
       obtain⟨t,x,ht,rfl,rfl,hx,HX,HB⟩:=hrel
       by_cases hlt2:t<g
       ·have hlt2':(t:Int)<g:=by omega
        have cb:=Hcell.out t hlt2;rw[← HB.out.cell (p:=⟨b,off+t,none⟩) hb1] at cb;have hnx:=HF.out.nxt (j+t) (by have:=Hjg.out;omega)
        have hxt:=HX.out.1;have hpt:2^(t+1)≤268435456:=Nat.le_trans (Nat.pow_le_pow_right (by decide) (show t+1≤28 by omega)) (by decide)
        have hps:2^(t+1)=2*2^t:=by rw[Nat.pow_succ,Nat.mul_comm]
        have hw2':IntKind.i64.wrap ((x:Int)*2)=((2*x:Nat):Int):=by rw[show (x:Int)*2=((2*x:Nat):Int) by omega];exact iw_ _ (by omega)
        have hw3':IntKind.i64.wrap (((2*x:Nat):Int)+1)=((2*x+1:Nat):Int):=by rw[← Int.natCast_succ];exact iw_ _ (by omega)
        have htw:IntKind.i64.wrap ((t:Int)+1)=((t+1:Nat):Int):=by rw[← Int.natCast_succ];exact iw_ _ (by omega)
        have e1:F j*2^(t+1)=2*(F j*2^t):=by rw[hps];exact Nat.mul_left_comm ..
        have hXb:=HX.out.2;cases hbv:bl.getD (j+t) false with
        | true =>
         have HX2:Hid (2*x+1<2^(t+1)∧F (j+(t+1))=F j*2^(t+1)+(2*x+1)):=by
          refine⟨by omega,?_⟩
          rw[hbv] at hnx;rw[← Nat.add_assoc,hnx,hXb,e1]
          show _+1=_
          omega
         have hx2:2*x+1<268435456:=by have:=HX2.out.1;omega
         rw[hbv] at cb;clear hnx hbv HX e1 hXb hxt hpt hps
         go_wp2_with fail
         refine⟨⟨t+1,2*x+1,by omega,by go_num,by go_num,hx2,HX2,HB⟩,by simp[intOf];omega⟩
        | false =>
         have HX2:Hid (2*x<2^(t+1)∧F (j+(t+1))=F j*2^(t+1)+2*x):=by
          refine⟨by omega,?_⟩
          rw[hbv] at hnx;rw[← Nat.add_assoc,hnx,hXb,e1]
          show _+0=_
          omega
         have hx2:2*x<268435456:=by have:=HX2.out.1;omega
         rw[hbv] at cb;clear hnx hbv HX e1 hXb hxt hpt hps hw3'
         go_wp2_with fail
         refine⟨⟨t+1,2*x,by omega,by go_num,by go_num,hx2,HX2,HB⟩,by simp[intOf];omega⟩
       ·obtain rfl:t=g:=by omega
        have hlt2':¬ (t:Int)<t:=by omega
        have hFj:=HF.out.sm j hj;have hF10:F j<2^K10:=Nat.lt_of_lt_of_le hFj (Nat.pow_le_pow_right (by decide) (by rw[k10];omega))
        obtain⟨G,hG⟩:∃ G,2^t=G:=⟨_,rfl⟩;have hGb:G≤268435456:=by rw[← hG];exact Nat.le_trans (Nat.pow_le_pow_right (by decide) hg28) (by decide)
        have hGi:(2:Int)^t=(G:Nat):=by rw[← hG,Int.natCast_pow];rfl
        have hsh:IntKind.i64.wrap (G:Int)=(G:Nat):=iw_ _ (by omega)
        have hM:=fun W hW=>Hmul.out (F j) t W hF10 hg28 hW
        have hA:=fun W hW=>Hadd.out (F j) x t W hF10 hg28 HX.out.1 hW
        have hXe:=HX.out.2;rw[hG] at hM hA hXe;have BW2:=hd_ (HI.out.bel.trans (HB.out.mono HI.out.bel.size));have HM:=hd_ hM;have HA:=hd_ hA;have HXe:=hd_ hXe;have hof1:=hd_ (fun W hW=>Hof.out G W (by omega) hW)
        have hof2:=hd_ (fun W hW=>Hof.out x W (by omega) hW)
        clear hFj hF10 hG hM hA hXe HX
        go_wp2_with fail
        refine cm_ (hof1.out _ BW2.out) ?_;rintro e w4 ⟨rfl,hb⟩;have B4:=hd_ (BW2.out.trans (hb.mono BW2.out.size));have C4:=hd_ (HB.out.trans (hb.mono HB.out.size));clear hb
        go_wp2_with fail
        refine cm_ (HM.out _ B4.out) ?_;rintro e w5 ⟨rfl,hb⟩;have B5:=hd_ (B4.out.trans (hb.mono B4.out.size));have C5:=hd_ (C4.out.trans (hb.mono C4.out.size));clear hb B4 C4
        go_wp2_with fail
        refine cm_ (hof2.out _ B5.out) ?_;rintro e w6 ⟨rfl,hb⟩;have B6:=hd_ (B5.out.trans (hb.mono B5.out.size));have C6:=hd_ (C5.out.trans (hb.mono C5.out.size));clear hb B5 C5
        go_wp2_with fail
        refine cm_ (HA.out _ B6.out) ?_;rintro e w7 ⟨rfl,hb⟩;have B7:=hd_ (B6.out.trans (hb.mono B6.out.size));have C7:=hd_ (C6.out.trans (hb.mono C6.out.size));clear hb B6 C6 hof1 hof2 HM HA HB BW2 Hcell;have HR7:=hd_ (Zrb (d:=c) (HI.out.rd.below C7.out nr_) t (by rw[Zaf,List.length_drop,HF.out.len];have:=HI.out.cap;omega))
        have Hcp:=hd_ HI.out.cap;rw[← HXe.out];clear HI HXe
        go_wp2_with fail
        refine⟨⟨j+t,_,c-t,Hjg.out,rfl,by rw[show n-(j+t)=m-t by omega],⟨?_,by have:=Hcp.out;omega,B7.out⟩⟩,by show m-t<m;omega⟩
        have:=HR7.out
        unfold Zbe at this;rw[← List.map_drop,List.drop_drop] at this;exact this
     ·obtain rfl:j=n:=by omega
      obtain rfl:m=0:=by omega
      go_wp2_with fail
      go_ret;exact⟨by rw[HFn.out];rfl,HI.out.bel⟩
end Go.Proofs.YtnjedhgcfeoemaaGreatDoor

namespace Go.Proofs.YtnjedhgcfeoemaaGreatDoor.LN
def sg (x:Rat):Int:=if 1<x then 1 else if x<1 then -1 else 0
theorem Zpl{x y:Rat}(hx:1≤x)(hy:1≤y):1≤x*y:=by
 have h:=Rat.mul_le_mul_of_nonneg_left hy (show 0≤x by grind)
 rw[Rat.mul_one] at h;exact Rat.le_trans hx h
theorem Zpk{x y:Rat}(hx:1<x)(hy:1≤y):1<x*y:=by
 have h:=Rat.mul_le_mul_of_nonneg_left hy (show 0≤x by grind)
 rw[Rat.mul_one] at h
 grind
theorem Zhr{x:Rat}(hx:1≤x):∀ m:Nat,1≤x^m
 | 0=>by rw[Rat.pow_zero];exact Rat.le_refl
 | m+1=>by rw[Rat.pow_succ];exact Zpl (Zhr hx m) hx
theorem Zph{x:Rat}(hx:1<x)(m:Nat)(hm:0<m):1<x^m:=by
 obtain⟨k,rfl⟩:=Nat.exists_eq_succ_of_ne_zero (by omega:m≠0)
 rw[Rat.pow_succ,Rat.mul_comm];exact Zpk hx (Zhr (by grind) k)
def vp:List Int→List Int→Rat
 | p::ps,k::ks=>(p:Rat)^k*vp ps ks
 | _,_=>1
theorem natCast_pow(a n:Nat):((a^n:Nat):Rat)=(a:Rat)^n:=by
 induction n with
 | zero=>rw[Nat.pow_zero,Rat.pow_zero];rfl
 | succ n ih=>rw[Nat.pow_succ,Rat.pow_succ,Rat.natCast_mul,ih]
theorem mkRat_den'(n:Int)(d:Nat)(h:d≠0):(mkRat n d).den=d/Nat.gcd n.natAbs d:=by
 rw[← Rat.normalize_eq_mkRat h,Rat.den_normalize]
theorem Zuo(q:Rat):q*(q.den:Rat)=(q.num:Rat):=by
 have h:mkRat q.num q.den=(q.num:Rat)/((q.den:Nat):Rat):=Rat.mkRat_eq_div _ _;rw[Rat.mkRat_self] at h;have h2:((q.den:Nat):Rat)≠0:=by have:=Rat.natCast_pos.2 q.den_pos;grind
 have h3:=Rat.div_mul_cancel (a:=(q.num:Rat)) h2;rw[← h] at h3;exact h3
def ex (D:Nat) (q:Rat):Int:=q.num*((D/q.den:Nat):Int)
theorem ex_eq{D:Nat}{q:Rat}(h:q.den ∣ D):(ex D q:Rat)=q*(D:Rat):=by
 obtain⟨m,rfl⟩:=h;unfold ex;rw[Nat.mul_div_cancel_left _ q.den_pos,Rat.intCast_mul,Rat.intCast_natCast,Rat.natCast_mul];have h1:=Zuo q
 grind
theorem ex_mul{D m:Nat}{a:Rat}(ha:a.den ∣ D):ex (m*D) a=(m:Int)*ex D a:=by
 have:a.den ∣ m*D:=Nat.dvd_trans ha (Nat.dvd_mul_left ..)
 rw[← Rat.intCast_inj,Rat.intCast_mul,ex_eq ha,ex_eq this,Rat.natCast_mul,Rat.intCast_natCast]
 grind
theorem Zw9(l:List Rat):∀ d:Nat,d ∣ l.foldl (fun d q=>Nat.lcm d q.den) d∧∀ q∈l,q.den ∣ l.foldl (fun d q=>Nat.lcm d q.den) d:=by
 induction l with
 | nil=>intro d;exact⟨Nat.dvd_refl _,by simp⟩
 | cons a l ih =>
  intro d;obtain⟨h1,h2⟩:=ih (Nat.lcm d a.den);refine⟨Nat.dvd_trans (Nat.dvd_lcm_left ..) h1,fun q hq=>?_⟩
  rcases List.mem_cons.1 hq with rfl|hq
  ·exact Nat.dvd_trans (Nat.dvd_lcm_right ..) h1
  ·exact h2 q hq
theorem tden_dvd{l:List Rat}{q:Rat}(h:q∈l):q.den ∣ Qc l:=(Zw9 l 1).2 q h
theorem Zo4(l:List Rat):∀ (D d:Nat),d ∣ D→(∀ q∈l,q.den ∣ D)→l.foldl (fun d q=>Nat.lcm d q.den) d ∣ D:=by
 induction l with
 | nil=>intro D d h _;exact h
 | cons a l ih =>
  intro D d h h2;exact ih D _ (Nat.lcm_dvd h (h2 a List.mem_cons_self)) fun q hq=>h2 q (List.mem_cons_of_mem _ hq)
theorem tden_min{l:List Rat}{D:Nat}(h:∀ q∈l,q.den ∣ D):Qc l ∣ D:=Zo4 l D 1 (Nat.one_dvd _) h
theorem tden_pos'(l:List Rat):0<Qc l:=by
 have:∀ (l:List Rat) (d:Nat),0<d→0<l.foldl (fun d q=>Nat.lcm d q.den) d:=by
  intro l
  induction l with
  | nil=>intro d h;exact h
  | cons a l ih=>intro d h;exact ih _ (Nat.lcm_pos h a.den_pos)
 exact this l 1 Nat.one_pos
def sz (ps:List Int) (l:List Rat):Int:=Qai (Vo (Qc l) ps l)
end Go.Proofs.YtnjedhgcfeoemaaGreatDoor.LN

namespace Go.Proofs.YtnjedhgcfeoemaaGreatDoor.LN
theorem Zcf{x:Rat}(hx:x≠0)(a:Int):∀ n:Nat,(x^a)^n=x^(a*n)
 | 0=>by simp
 | n+1=>by
  rw[Rat.pow_succ,Zcf hx a n,← Rat.zpow_add hx];congr 1;rw[Int.natCast_add,Int.mul_add];simp
theorem Zjr{x:Rat}(hx:x≠0)(a b:Int):(x^a)^b=x^(a*b):=by
 rcases Int.eq_nat_or_neg b with⟨n,rfl|rfl⟩
 ·rw[Rat.zpow_natCast,Zcf hx]
 ·rw[Rat.zpow_neg,Rat.zpow_natCast,Zcf hx,← Rat.zpow_neg];congr 1;rw[Int.mul_neg]
theorem Zjv:(2:Rat)≠0:=by decide
theorem Zfl{a:Int}(h:0<a):(1:Rat)<2^a:=by
 obtain⟨n,rfl⟩:=Int.eq_ofNat_of_zero_le (Int.le_of_lt h);rw[Rat.zpow_natCast];exact Zph (by decide) n (by omega)
theorem Zfm{a:Int}(h:a<0):(2:Rat)^a<1:=by
 have h1:=Zfl (a := -a) (by omega)
 have h2:(2:Rat)^a*2^(-a)=1:=by rw[← Rat.zpow_add Zjv];simp[Int.add_right_neg]
 have h3:(0:Rat)<2^a:=Rat.zpow_pos (by decide)
 refine Rat.not_le.1 fun h4=>?_
 have h5:=Rat.mul_le_mul_of_nonneg_right h4 (c:=2^(-a)) (by grind)
 grind
theorem Zf4{x y:Rat}(h0:0<x)(h:x≤y):∀ n:Nat,x^n≤y^n
 | 0=>by rw[Rat.pow_zero,Rat.pow_zero];exact Rat.le_refl
 | n+1=>by
  have ih:=Zf4 h0 h n;rw[Rat.pow_succ,Rat.pow_succ];have h1:=Rat.mul_le_mul_of_nonneg_right ih (c:=x) (by grind)
  have h2:=Rat.mul_le_mul_of_nonneg_left h (c:=y^n) (Rat.le_of_lt (Rat.pow_pos (by grind)))
  exact Rat.le_trans h1 h2
theorem Zef{x y:Rat}(h0:0<x)(h:x≤y):y⁻¹≤x⁻¹:=by
 have hy:0<y:=by grind
 have h1:=Rat.inv_pos.2 h0;have h2:=Rat.inv_pos.2 hy;have e1:=Rat.mul_inv_cancel x (by grind)
 have e2:=Rat.mul_inv_cancel y (by grind)
 have h3:=Rat.mul_le_mul_of_nonneg_right h (c:=x⁻¹ * y⁻¹) (Rat.le_of_lt (Rat.mul_pos h1 h2));have e3:x*(x⁻¹ * y⁻¹)=y⁻¹:=by rw[← Rat.mul_assoc,e1,Rat.one_mul]
 have e4:y*(x⁻¹ * y⁻¹)=x⁻¹:=by rw[Rat.mul_comm x⁻¹,← Rat.mul_assoc,e2,Rat.one_mul]
 rw[e3,e4] at h3;exact h3
theorem Zca{x y:Rat}(h0:0<x)(h:x≤y){j:Int}(hj:j≤0):y^j≤x^j:=by
 obtain⟨n,hn⟩:=Int.eq_ofNat_of_zero_le (a := -j) (by omega)
 have e:j = -(n:Int):=by omega
 rw[e,Rat.zpow_neg,Rat.zpow_neg,Rat.zpow_natCast,Rat.zpow_natCast];exact Zef (Rat.pow_pos h0) (Zf4 h0 h n)
structure Btw (v:Rat) (a b:Int):Prop where
 pos:0<v
 lo:2^a≤v
 hi:v≤2^b
theorem Btw.inv{v:Rat}{a b:Int}(h:Btw v a b):Btw v⁻¹ (-b) (-a):=by
 refine⟨Rat.inv_pos.2 h.pos,?_,?_⟩
 ·rw[Rat.zpow_neg];exact Zef h.pos h.hi
 ·rw[Rat.zpow_neg];exact Zef (Rat.zpow_pos (by decide)) h.lo
theorem Btw.zpow_neg{v:Rat}{a b:Int}(h:Btw v a b){j:Int}(hj:j≤0):Btw (v^j) (j*b) (j*a):=by
 refine⟨Rat.zpow_pos h.pos,?_,?_⟩
 ·rw[Int.mul_comm,← Zjr Zjv];exact Zca h.pos h.hi hj
 ·rw[Int.mul_comm,← Zjr Zjv];exact Zca (Rat.zpow_pos (by decide)) h.lo hj
theorem Btw.mul{v u:Rat}{a b c d:Int}(h:Btw v a b)(k:Btw u c d):Btw (v*u) (a+c) (b+d):=by
 refine⟨Rat.mul_pos h.pos k.pos,?_,?_⟩
 ·rw[Rat.zpow_add Zjv];have h1:=Rat.mul_le_mul_of_nonneg_right h.lo (c:=2^c) (Rat.le_of_lt (Rat.zpow_pos (by decide)))
  have h2:=Rat.mul_le_mul_of_nonneg_left k.lo (c:=v) (Rat.le_of_lt h.pos);exact Rat.le_trans h1 h2
 ·rw[Rat.zpow_add Zjv];have h1:=Rat.mul_le_mul_of_nonneg_right h.hi (c:=u) (Rat.le_of_lt k.pos);have h2:=Rat.mul_le_mul_of_nonneg_left k.hi (c:=2^b) (Rat.le_of_lt (Rat.zpow_pos (by decide)))
  exact Rat.le_trans h1 h2
theorem Btw.lt{v:Rat}{a b:Int}(h:Btw v a b)(hb:b<0):v<1:=by
 have:=Zfm hb
 have:=h.hi
 grind
def eLo (f:Int→Nat) (l:List (Int×Int)):Int:=(l.map fun x=>if x.2<0 then x.2*(hiL f x.1:Int) else x.2*(f x.1:Int)).sum
def eHi (f:Int→Nat) (l:List (Int×Int)):Int:=(l.map fun x=>if x.2<0 then x.2*(f x.1:Int) else x.2*(hiL f x.1:Int)).sum
theorem Zhi(k:Int)(a b:Nat):(if k<0 then k*(b:Int) else k*(a:Int))=((k.toNat*a:Nat):Int)-(((-k).toNat*b:Nat):Int):=by
 by_cases h:k<0
 ·rw[if_pos h,show k.toNat=0 by omega]
  have e:((-k).toNat:Int) = -k:=Int.toNat_of_nonneg (by omega)
  rw[Int.natCast_mul,Int.natCast_mul,e]
  grind
 ·rw[if_neg h,show (-k).toNat=0 by omega]
  have e:(k.toNat:Int)=k:=Int.toNat_of_nonneg (by omega)
  rw[Int.natCast_mul,Int.natCast_mul,e]
  grind
theorem eLo_eq(f:Int→Nat):∀ l:List (Int×Int),eLo f l=(loS f l:Int)-(hiS f (negT l):Int)
 | []=>rfl
 | x::l=>by
  have ih:=eLo_eq f l;unfold eLo at ih ⊢;have e:negT (x::l)=(x.1,-x.2)::negT l:=rfl;rw[List.map_cons,List.sum_cons,ih,e,loS,hiS,Zhi]
  dsimp only
  omega
theorem eHi_eq(f:Int→Nat):∀ l:List (Int×Int),eHi f l=(hiS f l:Int)-(loS f (negT l):Int)
 | []=>rfl
 | x::l=>by
  have ih:=eHi_eq f l;unfold eHi at ih ⊢;have e:negT (x::l)=(x.1,-x.2)::negT l:=rfl;rw[List.map_cons,List.sum_cons,ih,e,hiS,loS,Zhi]
  dsimp only
  omega
def quoL (xl yl yh g d:Int):Int:=xl*g/((if xl<0 then yl else yh)*d)
def quoH (xh yl yh g d:Int):Int:=xh*g/((if xh<0 then yh else yl)*d)
end Go.Proofs.YtnjedhgcfeoemaaGreatDoor.LN

namespace Go.Proofs.YtnjedhgcfeoemaaGreatDoor
open Go.RowKit Go.Shelf
attribute [local go_sem] Oper.semAt_some
def lf (n:Nat):Int→Nat:=fun p=>lgN p n
structure Zow (B:Nat) (n:Int) (slo shi:ByteArray) (W:World):Prop where
 c3:W.cell? ⟨B+1,0,none⟩=some (.int .i64 n)
 c4:W.cell? ⟨B+1+1,0,none⟩=some (.string slo)
 c5:W.cell? ⟨B+1+1+1,0,none⟩=some (.string shi)
 f4:W.frozen? ⟨B+1+1,0,none⟩=false
 f5:W.frozen? ⟨B+1+1+1,0,none⟩=false
 sz:B+4<W.heap.size
theorem Zow.below{B:Nat}{n:Int}{slo shi:ByteArray}{W W':World}(h:Zow B n slo shi W)(hb:Below W.heap.size W W'):Zow B n slo shi W' :=
 ⟨(hb.cell (block_lt_of_cell h.c3)).trans h.c3,(hb.cell (block_lt_of_cell h.c4)).trans h.c4,(hb.cell (block_lt_of_cell h.c5)).trans h.c5,
  (hb.frozen (block_lt_of_cell h.c4)).trans h.f4,(hb.frozen (block_lt_of_cell h.c5)).trans h.f5,Nat.lt_of_lt_of_le h.sz hb.size⟩
theorem Zow.kept{B:Nat}{n:Int}{slo shi:ByteArray}{W W':World}{row:Option Nat}(h:Zow B n slo shi W)(hg:W.grownBy W' row)(hr:∀ r,row=some r→∃ o:Obj,W.heap[r]?=some o∧o.isCells=false):Zow B n slo shi W' :=
 ⟨cell_kept h.c3 hg hr,cell_kept h.c4 hg hr,cell_kept h.c5 hg hr,(frozen_kept h.c4 hg hr).trans h.f4,(frozen_kept h.c5 hg hr).trans h.f5,Nat.lt_of_lt_of_le h.sz hg.size⟩
theorem Zow.stored{B:Nat}{n:Int}{slo shi:ByteArray}{W:World}(h:Zow B n slo shi W)(s t:ByteArray):
  Zow B n s t ((W.setCell ⟨B+1+1,0,none⟩ (.string s)).setCell ⟨B+1+1+1,0,none⟩ (.string t)):=by
 refine⟨?_,?_,?_,?_,?_,?_⟩
 ·rw[World.cell?_setCell_other _ _ _ _ (by simp),World.cell?_setCell_other _ _ _ _ (by simp)];exact h.c3
 ·rw[World.cell?_setCell_other _ _ _ _ (by simp),World.cell?_setCell_same _ _ _ h.c4]
 ·rw[World.cell?_setCell_same _ _ _ (by rw[World.cell?_setCell_other _ _ _ _ (by simp)];exact h.c5)]
 ·rw[World.frozen?_setCell,World.frozen?_setCell];exact h.f4
 ·rw[World.frozen?_setCell,World.frozen?_setCell];exact h.f5
 ·rw[World.size_setCell,World.size_setCell];exact h.sz
theorem Zja{B:Nat}{W0 W W4:World}(hB:W0.heap.size=B)(hb:Below W0.heap.size W0 W)(hsz:B+4<W.heap.size)(h:Below W.heap.size W W4)(v5 v6:Value):
  KT B (B+4) W ((W4.setCell ⟨B+1+1,0,none⟩ v5).setCell ⟨B+1+1+1,0,none⟩ v6):=by
 subst hB;refine⟨((h.mono hb.size).setCell (p:=⟨W0.heap.size+1+1,0,none⟩) (by show _≤W0.heap.size+1+1;omega) _).setCell (p:=⟨W0.heap.size+1+1+1,0,none⟩) (by show _≤W0.heap.size+1+1+1;omega) _,?_⟩
 rw[Zp (g:=W0.heap.size+1+1+1) (k:=W0.heap.size+4) (by omega),Zp (g:=W0.heap.size+1+1) (k:=W0.heap.size+4) (by omega),h.block _ hsz]
theorem Zz3(w:World)(o1:Obj)(v2 v3 v4:Value)(t2 t3 t4:TypeId)(W:World)(hW:(((w.alloc o1).alloc (.cells #[v2] t2)).alloc (.cells #[v3] t3)).alloc (.cells #[v4] t4)=W):
  W.heap[w.heap.size+1]?=some (.cells #[v2] t2 (0,0))∧W.heap[w.heap.size+1+1]?=some (.cells #[v3] t3 (0,0))∧W.heap[w.heap.size+1+1+1]?=some (.cells #[v4] t4 (0,0)):=by
 subst hW;exact⟨Kl (Kl (Qx _ _ _ _ (by simp)) _) _,Kl (Qx _ _ _ _ (by simp)) _,Qx _ _ _ _ (by simp)⟩
def PrT (tl:List (Int×Int)):Prop:=∀ x∈tl,∃ q:Nat,x.1=q∧(q=2∨q∈Yt)
theorem Zvi(f:Int→Nat)(l:List (Int×Int))(x:Int×Int):LN.eLo f (l++[x])=LN.eLo f l+(if x.2<0 then x.2*(LN.hiL f x.1:Int) else x.2*(f x.1:Int)):=by simp[LN.eLo]
theorem Zvj(f:Int→Nat)(l:List (Int×Int))(x:Int×Int):LN.eHi f (l++[x])=LN.eHi f l+(if x.2<0 then x.2*(f x.1:Int) else x.2*(LN.hiL f x.1:Int)):=by simp[LN.eHi]
theorem Zxq{n:Nat}{p:Int}(hp:∃ q:Nat,p=q∧(q=2∨q∈Yt))(hn:n≤1056):lf n p<2^(n+3)∧LN.hiL (lf n) p<2^(n+3):=by
 obtain⟨q,rfl,hq⟩:=hp;have h:=Zgc hq hn;have e:2^(n+3)=8*2^n:=by rw[Nat.pow_add,Nat.mul_comm]
 have h1:=Nat.two_pow_pos n;have h2:lf n q<7*2^n:=h;refine⟨by omega,?_⟩
 unfold LN.hiL;split<;>omega
theorem Zao{k:Int}{a E F:Nat}(hk:k.natAbs<2^E)(ha:a<2^F):(k*(a:Int)).natAbs<2^(E+F):=by
 rw[Int.natAbs_mul,Int.natAbs_natCast,Nat.pow_add];exact Nat.mul_lt_mul'' hk ha
theorem Zsv{n E:Nat}(hn:n≤1056):∀ l:List (Int×Int),PrT l→(∀ x∈l,x.2.natAbs<2^E)→(LN.eLo (lf n) l).natAbs≤l.length*2^(E+(n+3))∧(LN.eHi (lf n) l).natAbs≤l.length*2^(E+(n+3))
 | [],_,_=>by simp[LN.eLo,LN.eHi]
 | x::l,hp,hk=>by
  have ih:=Zsv hn l (fun y hy=>hp y (List.mem_cons_of_mem _ hy)) (fun y hy=>hk y (List.mem_cons_of_mem _ hy))
  obtain⟨h1,h2⟩:=Zxq (hp x List.mem_cons_self) hn;have hx:=hk x List.mem_cons_self;have a1:=Zao hx h1;have a2:=Zao hx h2;have e1:LN.eLo (lf n) (x::l)=(if x.2<0 then x.2*(LN.hiL (lf n) x.1:Int) else x.2*(lf n x.1:Int))+LN.eLo (lf n) l:=by simp[LN.eLo]
  have e2:LN.eHi (lf n) (x::l)=(if x.2<0 then x.2*(lf n x.1:Int) else x.2*(LN.hiL (lf n) x.1:Int))+LN.eHi (lf n) l:=by simp[LN.eHi]
  rw[e1,e2,List.length_cons,Nat.add_mul,Nat.one_mul];generalize 2^(E+(n+3))=T at *
  generalize l.length*T=S at *
  constructor
  ·refine Nat.le_trans (Int.natAbs_add_le _ _) ?_;split<;>omega
  ·refine Nat.le_trans (Int.natAbs_add_le _ _) ?_;split<;>omega
theorem Zjc{n E:Nat}(hn:n≤1056)(l:List (Int×Int))(hl:l.length≤1000)(hp:PrT l)(hk:∀ x∈l,x.2.natAbs<2^E):
  (LN.eLo (lf n) l).natAbs<2^(E+(n+3)+10)∧(LN.eHi (lf n) l).natAbs<2^(E+(n+3)+10):=by
 obtain⟨h1,h2⟩:=Zsv hn l hp hk;have h3:l.length*2^(E+(n+3))≤1000*2^(E+(n+3)):=Nat.mul_le_mul_right _ hl;have e:2^(E+(n+3)+10)=1024*2^(E+(n+3)):=by rw[Nat.pow_add _ _ 10,Nat.mul_comm]
 have h4:=Nat.two_pow_pos (E+(n+3));rw[e];constructor<;>omega
theorem Zow.cast{B:Nat}{n:Int}{s s' t t':ByteArray}{W:World}(h:Zow B n s t W)(e1:s'=s)(e2:t'=t):Zow B n s' t' W:=by subst e1;subst e2;exact h
theorem Zwy(w:World)(a b:Int)(K:Nat)(hK:K<90000)(ha:a.natAbs<2^K)(hb:b.natAbs<2^K)(L:Qb w):Kc Tryz.prog 20 #[.string (itx a),.string (itx b)] w (.string (itx (a+b))) :=
 Zfi w a b (Ve ha (by omega)) (Ve hb (by omega)) (Ve (K:=K+1) (by rw[Nat.pow_succ];omega) (by omega)) L
theorem Qad(w:World)(a b:Int)(K M:Nat)(hK:K+M<90000)(ha:a.natAbs<2^K)(hb:b.natAbs<2^M)(L:Qb w):Kc Tryz.prog 115 #[.string (itx a),.string (itx b)] w (.string (itx (a*b))) :=
 Yu w a b (Ve ha (by omega)) (Ve hb (by omega)) (Ve (K:=K+M) (by rw[Int.natAbs_mul,Nat.pow_add];exact Nat.mul_lt_mul'' ha hb) (by omega)) L
def Zmt (w:World) (b1 b2:Option Addr) (d1 d2 D m:Nat) (n:Int) (p:Int) (k:ByteArray):Act:={ tmps := #[.agg (Qa b1 d1 b2 d2 m D),.int .i64 n,.pointer (some ⟨w.heap.size,0,none⟩),.pointer (some ⟨w.heap.size+1,0,none⟩),.pointer (some ⟨w.heap.size+1+1,0,none⟩),.pointer (some ⟨w.heap.size+1+1+1,0,none⟩),.int .i64 p,.string k,undef,undef,.agg #[.slice b1 m d1,.slice b2 m d2,.string (dec D)],.func (.func 241) #[] #[.pointer (some ⟨w.heap.size+1+1+1+1,0,none⟩)],.int .i64 p,.string k,undef,undef,undef,undef,undef,undef,undef,undef,undef,undef,undef,undef,undef,undef,undef,undef,undef,undef,undef,undef,undef,undef,undef,undef,undef,undef,undef],defers:=[] }
theorem Zob(w:World)(b1 b2:Option Addr)(d1 d2 D n E:Nat)(tl:List (Int×Int))(T:Yo w tl b1 b2)(hP:PrT tl)(hE:E≤20000)(hK:∀ x∈tl,x.2.natAbs<2^E)(hn:n≤1056)(L:Qb w):
  Kc Tryz.prog 172 #[.agg (Qa b1 d1 b2 d2 tl.length D),.int .i64 n] w (.tuple #[.string (itx (LN.eLo (lf n) tl)),.string (itx (LN.eHi (lf n) tl))]):=by
 unfold Kc;have hr1:=T.r1;have hr2:=T.r2;have hl:=T.len;refine(callsIn_wide (n:=3)).1 ?_;refine callsIn_of_wp_marks Tryz.func172 rfl trivial ?_ rfl;simp only[Tryz.ntmps172,List.size_toArray,List.length_cons,List.length_nil,Nat.reduceAdd,Nat.reduceSub,Array.replicate_succ,Array.replicate_zero,List.push_toArray,List.append_toArray,List.nil_append,List.cons_append];have HT:=hd_ T;have HL:=hd_ L;have Hn:=hd_ hn;have HE:=hd_ hE;have HP:=hd_ hP;have HK:=hd_ hK;have H0:Hid (itx 0=⟨#[48]⟩):=by show _=_;rw[show (0:Int)=((0:Nat):Int) from rfl,Kj,Zc1]
 clear L T hn hE hK hP
 gi_wp2_with fail
 obtain⟨w0,hw0⟩:∃ w0,(((w.alloc (Obj.cells (Qa b1 d1 b2 d2 tl.length D) 163)).alloc (Obj.cells #[Value.int IntKind.i64 n] 3)).alloc (Obj.cells #[Value.string ⟨#[48]⟩] 25)).alloc (Obj.cells #[Value.string ⟨#[48]⟩] 25)=w0:=⟨_,rfl⟩;have hsz0:w0.heap.size=w.heap.size+4:=by rw[← hw0];simp
 have hB0:Below w.heap.size w w0:=by rw[← hw0];exact((((Below.refl _ w).alloc nr_ _).alloc (by simp) _).alloc (by simp;omega) _).alloc (by simp;omega) _
 have hbox:=Zz3 w _ _ _ _ _ _ _ w0 hw0;rw[hw0];refine⟨trivial,?_⟩;refine(callsIn_wide.2 (Ztm w0 b1 b2 d1 d2 tl.length D)).mono ?_;rintro e w' ⟨rfl,rfl⟩;rw[hsz0];have hB5:(w0.alloc (.cells (Qa b1 d1 b2 d2 tl.length D) 163)).heap[w.heap.size+4]?=some (.cells (Qa b1 d1 b2 d2 tl.length D) 163 (0,0)):=by
  rw[← hsz0];exact Go.heap_alloc_new w0 _
 have hB1:Below w.heap.size w (w0.alloc (.cells (Qa b1 d1 b2 d2 tl.length D) 163)):=hB0.alloc (by omega) _
 have hsz1:(w0.alloc (.cells (Qa b1 d1 b2 d2 tl.length D) 163)).heap.size=w.heap.size+5:=by rw[World.size_alloc,hsz0]
 have hI1:Zow w.heap.size n (itx (LN.eLo (lf n) [])) (itx (LN.eHi (lf n) [])) (w0.alloc (.cells (Qa b1 d1 b2 d2 tl.length D) 163)):=by
  obtain⟨h1,h2,h3⟩:=hbox;have h1:=Kl h1 (.cells (Qa b1 d1 b2 d2 tl.length D) 163);have h2:=Kl h2 (.cells (Qa b1 d1 b2 d2 tl.length D) 163);have h3:=Kl h3 (.cells (Qa b1 d1 b2 d2 tl.length D) 163);have e1:itx (LN.eLo (lf n) [])=⟨#[48]⟩:=H0.out;have e2:itx (LN.eHi (lf n) [])=⟨#[48]⟩:=H0.out;rw[e1,e2];exact⟨(Ys h1).1,(Ys h2).1,(Ys h3).1,(Ys h2).2,(Ys h3).2,by rw[hsz1];omega⟩
 clear hB0 hw0 hbox H0;generalize w0.alloc (.cells (Qa b1 d1 b2 d2 tl.length D) 163)=w1 at *
 gi_wp2_with fail
 refine wpIn_rangeFunc_ownF rfl (by decide) (gf:=241) (lb := #[.pointer (some ⟨w.heap.size+4,0,none⟩)]) rfl trivial (enters_of Tryz.func241 (by kernel_rfl) rfl)
  (Zld 2 (by decide) w w1 hB1 (w.heap.size+4) b1 b2 d1 d2 D tl hl hB5 hr1 hr2) Qa4 (Qa5 (by rw[hsz1];omega) (by rw[hsz1];omega)) (Below.refl _ _) (fun _=>rfl)
  (fun pre W=>Zow w.heap.size n (itx (LN.eLo (lf n) (pre.map Subtype.val))) (itx (LN.eHi (lf n) (pre.map Subtype.val))) W∧Below w.heap.size w W)
  (fun _ _ W=>False∧Below w.heap.size w W)
  (OwnFrom.and (Own.from (fun s A B row hs hg hr=>hs.kept hg hr) _) (ownFrom_below nr_ (by rw[hsz1];omega)))
  (fun c=>OwnFrom.and (Own.from (fun s A B row hs hg hr=>hs.elim) _) (ownFrom_below nr_ (by rw[hsz1];omega)))
  ⟨hI1,hB1⟩
  (fun x=>Zmt w b1 b2 d1 d2 D tl.length n x.1.1 (itx x.1.2)) ?assign ?body ?done ?stop
 case assign =>
  intro l x W K hK;unfold Zmt at hK
  gi_wp2
  exact hK
 case body =>
  rintro l pre ⟨⟨p,k⟩,hmem⟩ W0 ⟨hI,hB⟩ hlen;have HI:=hd_ hI;have HB:=hd_ hB;have hpp:=HP.out _ hmem;have hkk:=HK.out _ hmem;simp only at hpp hkk;have hn:=Hn.out;have hE:=HE.out;obtain⟨g1,g2⟩:=Zxq hpp hn;have hsub:∀ x∈pre.map Subtype.val,x∈tl:=fun x hx=>by
   obtain⟨y,_,rfl⟩:=List.mem_map.1 hx;exact y.2
  have hpl:(pre.map Subtype.val).length≤1000:=by rw[List.length_map];omega
  obtain⟨s1,s2⟩:=Zjc hn (pre.map Subtype.val) hpl (fun x hx=>HP.out x (hsub x hx)) (fun x hx=>HK.out x (hsub x hx))
  have e1:LN.eLo (lf n) ((pre++[(⟨(p,k),hmem⟩:{x // x∈tl})]).map Subtype.val)=LN.eLo (lf n) (pre.map Subtype.val)+(if k<0 then (LN.hiL (lf n) p:Int)*k else (lf n p:Int)*k):=by
   rw[List.map_append];have:=Zvi (lf n) (pre.map Subtype.val) (p,k)
   simp only at this;rw[Int.mul_comm k,Int.mul_comm k] at this;exact this
  have e2:LN.eHi (lf n) ((pre++[(⟨(p,k),hmem⟩:{x // x∈tl})]).map Subtype.val)=LN.eHi (lf n) (pre.map Subtype.val)+(if k<0 then (lf n p:Int)*k else (LN.hiL (lf n) p:Int)*k):=by
   rw[List.map_append];have:=Zvj (lf n) (pre.map Subtype.val) (p,k)
   simp only at this;rw[Int.mul_comm k,Int.mul_comm k] at this;exact this
  have Hlog:Hid (∀ W,Below w.heap.size w W→Kc Tryz.prog 212 #[.int .i64 p,.int .i64 n] W (.string (dec (lf n p)))):=fun W hW=>by
   obtain⟨q,rfl,hq⟩:=hpp;exact Zxo W q n hq hn (HL.out.below hW)
  have Hm1:Hid (∀ W,Below w.heap.size w W→Kc Tryz.prog 115 #[.string (dec (lf n p)),.string (itx k)] W (.string (itx ((lf n p:Int)*k)))):=fun W hW=>by
   have:=Qad W (lf n p:Int) k (n+3) E (by omega) (by rw[Int.natAbs_natCast];exact g1) hkk (HL.out.below hW)
   rw[Kj] at this;exact this
  have Hm2:Hid (∀ W,Below w.heap.size w W→Kc Tryz.prog 115 #[.string (dec (LN.hiL (lf n) p)),.string (itx k)] W (.string (itx ((LN.hiL (lf n) p:Int)*k)))):=fun W hW=>by
   have:=Qad W (LN.hiL (lf n) p:Int) k (n+3) E (by omega) (by rw[Int.natAbs_natCast];exact g2) hkk (HL.out.below hW)
   rw[Kj] at this;exact this
  have Hsg:Hid (∀ W,Below w.heap.size w W→Kc Tryz.prog 84 #[.string (itx k)] W (.int .i64 k.sign)):=fun W _=>Zo W k
  have t1:((lf n p:Int)*k).natAbs<2^(E+(n+3)+10):=by
   have:=Zao hkk g1
   rw[Int.mul_comm] at this;exact Nat.lt_of_lt_of_le this (Nat.pow_le_pow_right (by decide) (by omega))
  have t2:((LN.hiL (lf n) p:Int)*k).natAbs<2^(E+(n+3)+10):=by
   have:=Zao hkk g2
   rw[Int.mul_comm] at this;exact Nat.lt_of_lt_of_le this (Nat.pow_le_pow_right (by decide) (by omega))
  have hF:E+(n+3)+10<90000:=by omega
  have one:1<2^(n+3):=Nat.one_lt_two_pow (by omega)
  have Had:Hid (∀ W,Below w.heap.size w W→Kc Tryz.prog 20 #[.string (dec (lf n p)),.string ⟨#[49]⟩] W (.string (dec (lf n p+1)))):=fun W hW=>by
   have:=Zv5 W (lf n p) 1 (n+3) (by omega) g1 one (HL.out.below hW)
   rw[Vf] at this;exact this
  generalize E+(n+3)+10=F at *
  unfold Zmt;have Hk0:=hd_ (Below.refl W0.heap.size W0);have HI0:=HI;have HB0:=HB;have hw2:(k.sign = -1∧k<0)∨(0≤k.sign∧k.sign≤1∧¬ k<0):=by
   rcases Int.lt_trichotomy k 0 with h|h|h
   ·exact .inl ⟨Int.sign_eq_neg_one_of_neg h,h⟩
   ·subst h;exact .inr ⟨by decide,by decide,by decide⟩
   ·rw[Int.sign_eq_one_of_pos h];exact .inr ⟨by decide,by decide,by omega⟩
  clear hI hB hr1 hr2 hI1 hB1 hB5 hpp hkk hsub g1 g2 one;have hc3:=HI0.out.c3;have hc4:=HI0.out.c4;have hc5:=HI0.out.c5;have hf4:=HI0.out.f4;have hf5:=HI0.out.f5;have HLL:Hid (∀ W,Below w.heap.size w W→Qb W):=fun W hW=>HL.out.below hW
  by_cases hp2:p=2
  ·subst hp2;have hH:LN.hiL (lf n) 2=lf n 2:=by unfold LN.hiL;rw[if_pos rfl]
   rw[hH] at Hm2 e1 e2 t2;clear hH;rcases hw2 with⟨hs,hk⟩|⟨hs1,hs2,hk⟩
   ·rw[if_pos hk] at e1 e2;rw[hs] at Hsg;clear hs;have Ha1:Hid (∀ W,Below w.heap.size w W→Kc Tryz.prog 20 #[.string (itx (LN.eLo (lf n) (pre.map Subtype.val))),.string (itx ((lf n 2:Int)*k))] W (.string (itx ((LN.eLo (lf n) (pre.map Subtype.val))+(lf n 2:Int)*k)))):=fun W hW=>Zwy W _ _ F hF s1 t2 (HLL.out W hW)
    have Ha2:Hid (∀ W,Below w.heap.size w W→Kc Tryz.prog 20 #[.string (itx (LN.eHi (lf n) (pre.map Subtype.val))),.string (itx ((lf n 2:Int)*k))] W (.string (itx ((LN.eHi (lf n) (pre.map Subtype.val))+(lf n 2:Int)*k)))):=fun W hW=>Zwy W _ _ F hF s2 t1 (HLL.out W hW)
    rw[← e1] at Ha1;rw[← e2] at Ha2;clear e1 e2 s1 s2 t1 t2 HLL hlen hpl hF;obtain⟨slo2,hq1⟩:∃ s,itx (LN.eLo (lf n) ((pre++[(⟨(2,k),hmem⟩:{x // x∈tl})]).map Subtype.val))=s:=⟨_,rfl⟩;obtain⟨shi2,hq2⟩:∃ s,itx (LN.eHi (lf n) ((pre++[(⟨(2,k),hmem⟩:{x // x∈tl})]).map Subtype.val))=s:=⟨_,rfl⟩;rw[hq1] at Ha1;rw[hq2] at Ha2;have Hf1:=hd_ hq1;have Hf2:=hd_ hq2;clear hq1 hq2;generalize itx (LN.eLo (lf n) (pre.map Subtype.val))=slo at *
    generalize itx (LN.eHi (lf n) (pre.map Subtype.val))=shi at *
    generalize itx k=sk at *
    generalize itx ((lf n 2:Int)*k)=sa at *
    generalize dec (lf n 2)=sL at *
    clear Had
    gi_wp2_with fail
    refine⟨trivial,?_⟩;refine(CallsIn.inRound l (callsIn_wide.2 (Hlog.out W0 HB0.out))).mono ?_;rintro e W1 ⟨rfl,hb⟩;have HI1:=hd_ (HI0.out.below hb);have HB1:=hd_ (HB0.out.trans (hb.mono HB0.out.size));have Hk1:=hd_ (Hk0.out.trans (hb.mono Hk0.out.size));clear hb hc3 hc4 hc5 hf4 hf5 Hlog HI0 HB0 Hk0;have hc3:=HI1.out.c3;have hc4:=HI1.out.c4;have hc5:=HI1.out.c5;have hf4:=HI1.out.f4;have hf5:=HI1.out.f5
    gi_wp2_with fail
    refine⟨trivial,?_⟩;refine(CallsIn.inRound l (callsIn_wide.2 (Hm1.out W1 HB1.out))).mono ?_;rintro e W2 ⟨rfl,hb⟩;have HI2:=hd_ (HI1.out.below hb);have HB2:=hd_ (HB1.out.trans (hb.mono HB1.out.size));have Hk2:=hd_ (Hk1.out.trans (hb.mono Hk1.out.size));clear hb hc3 hc4 hc5 hf4 hf5 Hm1 HI1 HB1 Hk1;have hc3:=HI2.out.c3;have hc4:=HI2.out.c4;have hc5:=HI2.out.c5;have hf4:=HI2.out.f4;have hf5:=HI2.out.f5
    gi_wp2_with fail
    refine⟨trivial,?_⟩;refine(CallsIn.inRound l (callsIn_wide.2 (Hm2.out W2 HB2.out))).mono ?_;rintro e W3 ⟨rfl,hb⟩;have HI3:=hd_ (HI2.out.below hb);have HB3:=hd_ (HB2.out.trans (hb.mono HB2.out.size));have Hk3:=hd_ (Hk2.out.trans (hb.mono Hk2.out.size));clear hb hc3 hc4 hc5 hf4 hf5 Hm2 HI2 HB2 Hk2;have hc3:=HI3.out.c3;have hc4:=HI3.out.c4;have hc5:=HI3.out.c5;have hf4:=HI3.out.f4;have hf5:=HI3.out.f5
    gi_wp2_with fail
    refine⟨trivial,?_⟩;refine(CallsIn.inRound l (callsIn_wide.2 (Hsg.out W3 HB3.out))).mono ?_;rintro e W4 ⟨rfl,hb⟩;have HI4:=hd_ (HI3.out.below hb);have HB4:=hd_ (HB3.out.trans (hb.mono HB3.out.size));have Hk4:=hd_ (Hk3.out.trans (hb.mono Hk3.out.size));clear hb hc3 hc4 hc5 hf4 hf5 Hsg HI3 HB3 Hk3;have hc3:=HI4.out.c3;have hc4:=HI4.out.c4;have hc5:=HI4.out.c5;have hf4:=HI4.out.f4;have hf5:=HI4.out.f5
    gi_wp2_with fail
    have q0:=@Zl.h;have q9:Nonempty (Zl ⟨w.heap.size+1+1,0,none⟩ (.string slo)):=⟨⟨W4,HI4.out.c4⟩⟩;have q8:Nonempty (Zl ⟨w.heap.size+1+1+1,0,none⟩ (.string shi)):=⟨⟨W4,HI4.out.c5⟩⟩;refine Qn [(8,0),(1,1),(9,3),(1,4),(0,2),(0,5),(0,6),(0,7)]
     [(6,fun w'=>∃ p:Zl ⟨w.heap.size+1+1,0,none⟩ (.string slo),w'=p.w),(7,fun w'=>∃ p:Zl ⟨w.heap.size+1+1+1,0,none⟩ (.string shi),w'=p.w)]
     (by kernel_rfl) (by kernel_rfl) ⟨.inr ⟨⟨{ W4 with drawn:=W4.drawn+1 },HI4.out.c4⟩,rfl⟩,.inr ⟨⟨{ W4 with drawn:=W4.drawn+1 },HI4.out.c5⟩,rfl⟩,trivial⟩ ?_
    refine Qw (s:=6) _ (List.mem_cons_self ..) rfl ?_;simp only[dz_,Kg,tz_]
    go_big_quiet_step (fail)
    refine wpQuiet_nil ?_;refine Vh ?_;simp only[Kh,dz_,Kg,tz_]
    go_big_quiet_step (fail)
    refine wpQuiet_nil ?_;refine Qw (s:=7) _ (List.mem_cons_of_mem _ (List.mem_cons_self ..)) rfl ?_;simp only[Kh,dz_,Kg,tz_]
    go_big_quiet_step (fail)
    refine wpQuiet_nil ?_;refine Vh ?_;simp only[Kh,dz_,Kg,tz_]
    go_big_quiet_step (fail)
    refine wpQuiet_nil ?_;clear q0 q8 q9 hc3 hc4 hc5 hf4 hf5;obtain⟨V0,hV0⟩:∃ V0:World,{ heap:=W4.heap,tape:=W4.tape,drawn:=W4.drawn+1,os:=W4.os,output:=W4.output }=V0:=⟨_,rfl⟩;rw[hV0];have hdr:Below W4.heap.size W4 V0:=by rw[← hV0];exact⟨rfl,rfl,rfl,Nat.le_refl _,fun _ _=>rfl⟩
    have HJ0:=hd_ (HI4.out.below hdr);have HC0:=hd_ (HB4.out.trans (hdr.mono HB4.out.size));have Hl0:=hd_ (Hk4.out.trans (hdr.mono Hk4.out.size));clear hV0 hdr HI4 HB4 Hk4;refine Kz ?_;simp only[Kh,dz_,Kg,tz_]
    go_wp2_with fail
    refine cm_ (Ha1.out V0 HC0.out) ?_;rintro e V1 ⟨rfl,hb⟩;have HJ1:=hd_ (HJ0.out.below hb);have HC1:=hd_ (HC0.out.trans (hb.mono HC0.out.size));have Hl1:=hd_ (Hl0.out.trans (hb.mono Hl0.out.size));clear hb HJ0 HC0 Hl0 Ha1
    go_wp2_with fail
    refine⟨⟨.inr ⟨⟨V1,HJ1.out.c4⟩,rfl⟩,.inr ⟨⟨V1,HJ1.out.c5⟩,rfl⟩,trivial⟩,?_⟩;refine Kz ?_;simp only[Kh,dz_,Kg,tz_]
    go_wp2_with fail
    refine cm_ (Ha2.out V1 HC1.out) ?_;rintro e V2 ⟨rfl,hb⟩;have HJ2:=hd_ (HJ1.out.below hb);have HC2:=hd_ (HC1.out.trans (hb.mono HC1.out.size));have Hl2:=hd_ (Hl1.out.trans (hb.mono Hl1.out.size));clear hb HJ1 HC1 Hl1 Ha2
    go_wp2_with fail
    refine⟨⟨.inr ⟨⟨V2,HJ2.out.c4⟩,rfl⟩,.inr ⟨⟨V2,HJ2.out.c5⟩,rfl⟩,trivial⟩,?_⟩;have hc4:=HJ2.out.c4;have hc5:=HJ2.out.c5;have hf4:=HJ2.out.f4;have hf5:=HJ2.out.f5;refine Kz ?_;simp only[Kh,dz_,Kg,tz_]
    go_wp2_with fail
    have hc52:(V2.setCell ⟨w.heap.size+1+1,0,none⟩ (.string slo2)).cell? ⟨w.heap.size+1+1+1,0,none⟩=some (.string shi):=by
     rw[World.cell?_setCell_other _ _ _ _ (by simp)];exact HJ2.out.c5
    have hf52:(V2.setCell ⟨w.heap.size+1+1,0,none⟩ (.string slo2)).frozen? ⟨w.heap.size+1+1+1,0,none⟩=false:=by rw[World.frozen?_setCell];exact HJ2.out.f5
    refine⟨⟨.inl rfl,.inr ⟨⟨V2.setCell ⟨w.heap.size+1+1,0,none⟩ (.string slo2),hc52⟩,rfl⟩,trivial⟩,?_⟩;clear hc4 hc5 hf4 hf5;refine Kz ?_;simp only[Kh,dz_,Kg,tz_]
    go_wp2_with fail
    refine⟨⟨.inl rfl,.inl rfl,trivial⟩,?_⟩;simp only[Vq];exact⟨(Qh Hl2.out).trans ((KeepsOthers.setCell _ _ _).trans (KeepsOthers.setCell _ _ _)),Zja rfl HB.out HI.out.sz Hl2.out _ _,(HJ2.out.stored _ _).cast Hf1.out Hf2.out,Zak HC2.out _ _⟩
   ·rw[if_neg hk] at e1 e2;have hs':¬ k.sign<0:=by omega
    have Ha1:Hid (∀ W,Below w.heap.size w W→Kc Tryz.prog 20 #[.string (itx (LN.eLo (lf n) (pre.map Subtype.val))),.string (itx ((lf n 2:Int)*k))] W (.string (itx ((LN.eLo (lf n) (pre.map Subtype.val))+(lf n 2:Int)*k)))):=fun W hW=>Zwy W _ _ F hF s1 t1 (HLL.out W hW)
    have Ha2:Hid (∀ W,Below w.heap.size w W→Kc Tryz.prog 20 #[.string (itx (LN.eHi (lf n) (pre.map Subtype.val))),.string (itx ((lf n 2:Int)*k))] W (.string (itx ((LN.eHi (lf n) (pre.map Subtype.val))+(lf n 2:Int)*k)))):=fun W hW=>Zwy W _ _ F hF s2 t2 (HLL.out W hW)
    generalize k.sign=sg at *
    rw[← e1] at Ha1;rw[← e2] at Ha2;clear e1 e2 s1 s2 t1 t2 HLL hlen hpl hF;obtain⟨slo2,hq1⟩:∃ s,itx (LN.eLo (lf n) ((pre++[(⟨(2,k),hmem⟩:{x // x∈tl})]).map Subtype.val))=s:=⟨_,rfl⟩;obtain⟨shi2,hq2⟩:∃ s,itx (LN.eHi (lf n) ((pre++[(⟨(2,k),hmem⟩:{x // x∈tl})]).map Subtype.val))=s:=⟨_,rfl⟩;rw[hq1] at Ha1;rw[hq2] at Ha2;have Hf1:=hd_ hq1;have Hf2:=hd_ hq2;clear hq1 hq2;generalize itx (LN.eLo (lf n) (pre.map Subtype.val))=slo at *
    generalize itx (LN.eHi (lf n) (pre.map Subtype.val))=shi at *
    generalize itx k=sk at *
    generalize itx ((lf n 2:Int)*k)=sa at *
    generalize dec (lf n 2)=sL at *
    clear Had
    gi_wp2_with fail
    refine⟨trivial,?_⟩;refine(CallsIn.inRound l (callsIn_wide.2 (Hlog.out W0 HB0.out))).mono ?_;rintro e W1 ⟨rfl,hb⟩;have HI1:=hd_ (HI0.out.below hb);have HB1:=hd_ (HB0.out.trans (hb.mono HB0.out.size));have Hk1:=hd_ (Hk0.out.trans (hb.mono Hk0.out.size));clear hb hc3 hc4 hc5 hf4 hf5 Hlog HI0 HB0 Hk0;have hc3:=HI1.out.c3;have hc4:=HI1.out.c4;have hc5:=HI1.out.c5;have hf4:=HI1.out.f4;have hf5:=HI1.out.f5
    gi_wp2_with fail
    refine⟨trivial,?_⟩;refine(CallsIn.inRound l (callsIn_wide.2 (Hm1.out W1 HB1.out))).mono ?_;rintro e W2 ⟨rfl,hb⟩;have HI2:=hd_ (HI1.out.below hb);have HB2:=hd_ (HB1.out.trans (hb.mono HB1.out.size));have Hk2:=hd_ (Hk1.out.trans (hb.mono Hk1.out.size));clear hb hc3 hc4 hc5 hf4 hf5 Hm1 HI1 HB1 Hk1;have hc3:=HI2.out.c3;have hc4:=HI2.out.c4;have hc5:=HI2.out.c5;have hf4:=HI2.out.f4;have hf5:=HI2.out.f5
    gi_wp2_with fail
    refine⟨trivial,?_⟩;refine(CallsIn.inRound l (callsIn_wide.2 (Hm2.out W2 HB2.out))).mono ?_;rintro e W3 ⟨rfl,hb⟩;have HI3:=hd_ (HI2.out.below hb);have HB3:=hd_ (HB2.out.trans (hb.mono HB2.out.size));have Hk3:=hd_ (Hk2.out.trans (hb.mono Hk2.out.size));clear hb hc3 hc4 hc5 hf4 hf5 Hm2 HI2 HB2 Hk2;have hc3:=HI3.out.c3;have hc4:=HI3.out.c4;have hc5:=HI3.out.c5;have hf4:=HI3.out.f4;have hf5:=HI3.out.f5
    gi_wp2_with fail
    refine⟨trivial,?_⟩;refine(CallsIn.inRound l (callsIn_wide.2 (Hsg.out W3 HB3.out))).mono ?_;rintro e W4 ⟨rfl,hb⟩;have HI4:=hd_ (HI3.out.below hb);have HB4:=hd_ (HB3.out.trans (hb.mono HB3.out.size));have Hk4:=hd_ (Hk3.out.trans (hb.mono Hk3.out.size));clear hb hc3 hc4 hc5 hf4 hf5 Hsg HI3 HB3 Hk3;have hc3:=HI4.out.c3;have hc4:=HI4.out.c4;have hc5:=HI4.out.c5;have hf4:=HI4.out.f4;have hf5:=HI4.out.f5
    gi_wp2_with fail
    have q0:=@Zl.h;have q9:Nonempty (Zl ⟨w.heap.size+1+1,0,none⟩ (.string slo)):=⟨⟨W4,HI4.out.c4⟩⟩;have q8:Nonempty (Zl ⟨w.heap.size+1+1+1,0,none⟩ (.string shi)):=⟨⟨W4,HI4.out.c5⟩⟩;refine Qn [(8,0),(1,1),(9,3),(1,4),(0,2),(0,5),(0,6),(0,7)]
     [(6,fun w'=>∃ p:Zl ⟨w.heap.size+1+1,0,none⟩ (.string slo),w'=p.w),(7,fun w'=>∃ p:Zl ⟨w.heap.size+1+1+1,0,none⟩ (.string shi),w'=p.w)]
     (by kernel_rfl) (by kernel_rfl) ⟨.inr ⟨⟨{ W4 with drawn:=W4.drawn+1 },HI4.out.c4⟩,rfl⟩,.inr ⟨⟨{ W4 with drawn:=W4.drawn+1 },HI4.out.c5⟩,rfl⟩,trivial⟩ ?_
    refine Qw (s:=6) _ (List.mem_cons_self ..) rfl ?_;simp only[dz_,Kg,tz_]
    go_big_quiet_step (fail)
    refine wpQuiet_nil ?_;refine Vh ?_;simp only[Kh,dz_,Kg,tz_]
    go_big_quiet_step (fail)
    refine wpQuiet_nil ?_;refine Qw (s:=7) _ (List.mem_cons_of_mem _ (List.mem_cons_self ..)) rfl ?_;simp only[Kh,dz_,Kg,tz_]
    go_big_quiet_step (fail)
    refine wpQuiet_nil ?_;refine Vh ?_;simp only[Kh,dz_,Kg,tz_]
    go_big_quiet_step (fail)
    refine wpQuiet_nil ?_;clear q0 q8 q9 hc3 hc4 hc5 hf4 hf5;obtain⟨V0,hV0⟩:∃ V0:World,{ heap:=W4.heap,tape:=W4.tape,drawn:=W4.drawn+1,os:=W4.os,output:=W4.output }=V0:=⟨_,rfl⟩;rw[hV0];have hdr:Below W4.heap.size W4 V0:=by rw[← hV0];exact⟨rfl,rfl,rfl,Nat.le_refl _,fun _ _=>rfl⟩
    have HJ0:=hd_ (HI4.out.below hdr);have HC0:=hd_ (HB4.out.trans (hdr.mono HB4.out.size));have Hl0:=hd_ (Hk4.out.trans (hdr.mono Hk4.out.size));clear hV0 hdr HI4 HB4 Hk4;refine Kz ?_;simp only[Kh,dz_,Kg,tz_]
    go_wp2_with fail
    refine cm_ (Ha1.out V0 HC0.out) ?_;rintro e V1 ⟨rfl,hb⟩;have HJ1:=hd_ (HJ0.out.below hb);have HC1:=hd_ (HC0.out.trans (hb.mono HC0.out.size));have Hl1:=hd_ (Hl0.out.trans (hb.mono Hl0.out.size));clear hb HJ0 HC0 Hl0 Ha1
    go_wp2_with fail
    refine⟨⟨.inr ⟨⟨V1,HJ1.out.c4⟩,rfl⟩,.inr ⟨⟨V1,HJ1.out.c5⟩,rfl⟩,trivial⟩,?_⟩;refine Kz ?_;simp only[Kh,dz_,Kg,tz_]
    go_wp2_with fail
    refine cm_ (Ha2.out V1 HC1.out) ?_;rintro e V2 ⟨rfl,hb⟩;have HJ2:=hd_ (HJ1.out.below hb);have HC2:=hd_ (HC1.out.trans (hb.mono HC1.out.size));have Hl2:=hd_ (Hl1.out.trans (hb.mono Hl1.out.size));clear hb HJ1 HC1 Hl1 Ha2
    go_wp2_with fail
    refine⟨⟨.inr ⟨⟨V2,HJ2.out.c4⟩,rfl⟩,.inr ⟨⟨V2,HJ2.out.c5⟩,rfl⟩,trivial⟩,?_⟩;have hc4:=HJ2.out.c4;have hc5:=HJ2.out.c5;have hf4:=HJ2.out.f4;have hf5:=HJ2.out.f5;refine Kz ?_;simp only[Kh,dz_,Kg,tz_]
    go_wp2_with fail
    have hc52:(V2.setCell ⟨w.heap.size+1+1,0,none⟩ (.string slo2)).cell? ⟨w.heap.size+1+1+1,0,none⟩=some (.string shi):=by
     rw[World.cell?_setCell_other _ _ _ _ (by simp)];exact HJ2.out.c5
    have hf52:(V2.setCell ⟨w.heap.size+1+1,0,none⟩ (.string slo2)).frozen? ⟨w.heap.size+1+1+1,0,none⟩=false:=by rw[World.frozen?_setCell];exact HJ2.out.f5
    refine⟨⟨.inl rfl,.inr ⟨⟨V2.setCell ⟨w.heap.size+1+1,0,none⟩ (.string slo2),hc52⟩,rfl⟩,trivial⟩,?_⟩;clear hc4 hc5 hf4 hf5;refine Kz ?_;simp only[Kh,dz_,Kg,tz_]
    go_wp2_with fail
    refine⟨⟨.inl rfl,.inl rfl,trivial⟩,?_⟩;simp only[Vq];exact⟨(Qh Hl2.out).trans ((KeepsOthers.setCell _ _ _).trans (KeepsOthers.setCell _ _ _)),Zja rfl HB.out HI.out.sz Hl2.out _ _,(HJ2.out.stored _ _).cast Hf1.out Hf2.out,Zak HC2.out _ _⟩
  ·have hH:LN.hiL (lf n) p=lf n p+1:=by unfold LN.hiL;rw[if_neg hp2]
   rw[hH] at Hm2 e1 e2 t2;have hp2':(p==2)=false:=by rw[beq_eq_false_iff_ne];exact hp2
   clear hH;rcases hw2 with⟨hs,hk⟩|⟨hs1,hs2,hk⟩
   ·rw[if_pos hk] at e1 e2;rw[hs] at Hsg;clear hs;have Ha1:Hid (∀ W,Below w.heap.size w W→Kc Tryz.prog 20 #[.string (itx (LN.eLo (lf n) (pre.map Subtype.val))),.string (itx (((lf n p+1:Nat):Int)*k))] W (.string (itx ((LN.eLo (lf n) (pre.map Subtype.val))+((lf n p+1:Nat):Int)*k)))):=fun W hW=>Zwy W _ _ F hF s1 t2 (HLL.out W hW)
    have Ha2:Hid (∀ W,Below w.heap.size w W→Kc Tryz.prog 20 #[.string (itx (LN.eHi (lf n) (pre.map Subtype.val))),.string (itx ((lf n p:Int)*k))] W (.string (itx ((LN.eHi (lf n) (pre.map Subtype.val))+(lf n p:Int)*k)))):=fun W hW=>Zwy W _ _ F hF s2 t1 (HLL.out W hW)
    rw[← e1] at Ha1;rw[← e2] at Ha2;clear e1 e2 s1 s2 t1 t2 HLL hlen hpl hF;obtain⟨slo2,hq1⟩:∃ s,itx (LN.eLo (lf n) ((pre++[(⟨(p,k),hmem⟩:{x // x∈tl})]).map Subtype.val))=s:=⟨_,rfl⟩;obtain⟨shi2,hq2⟩:∃ s,itx (LN.eHi (lf n) ((pre++[(⟨(p,k),hmem⟩:{x // x∈tl})]).map Subtype.val))=s:=⟨_,rfl⟩;rw[hq1] at Ha1;rw[hq2] at Ha2;have Hf1:=hd_ hq1;have Hf2:=hd_ hq2;clear hq1 hq2;generalize itx (LN.eLo (lf n) (pre.map Subtype.val))=slo at *
    generalize itx (LN.eHi (lf n) (pre.map Subtype.val))=shi at *
    generalize itx k=sk at *
    generalize itx ((lf n p:Int)*k)=sa at *
    generalize itx (((lf n p+1:Nat):Int)*k)=sb at *
    generalize dec (lf n p+1)=sH at *
    generalize dec (lf n p)=sL at *
    gi_wp2_with fail
    refine⟨trivial,?_⟩;refine(CallsIn.inRound l (callsIn_wide.2 (Hlog.out W0 HB0.out))).mono ?_;rintro e W1 ⟨rfl,hb⟩;have HI1:=hd_ (HI0.out.below hb);have HB1:=hd_ (HB0.out.trans (hb.mono HB0.out.size));have Hk1:=hd_ (Hk0.out.trans (hb.mono Hk0.out.size));clear hb hc3 hc4 hc5 hf4 hf5 Hlog HI0 HB0 Hk0;have hc3:=HI1.out.c3;have hc4:=HI1.out.c4;have hc5:=HI1.out.c5;have hf4:=HI1.out.f4;have hf5:=HI1.out.f5
    gi_wp2_with fail
    refine⟨trivial,?_⟩;refine(CallsIn.inRound l (callsIn_wide.2 (Had.out W1 HB1.out))).mono ?_;rintro e W2 ⟨rfl,hb⟩;have HI2:=hd_ (HI1.out.below hb);have HB2:=hd_ (HB1.out.trans (hb.mono HB1.out.size));have Hk2:=hd_ (Hk1.out.trans (hb.mono Hk1.out.size));clear hb hc3 hc4 hc5 hf4 hf5 Had HI1 HB1 Hk1;have hc3:=HI2.out.c3;have hc4:=HI2.out.c4;have hc5:=HI2.out.c5;have hf4:=HI2.out.f4;have hf5:=HI2.out.f5
    gi_wp2_with fail
    refine⟨trivial,?_⟩;refine(CallsIn.inRound l (callsIn_wide.2 (Hm1.out W2 HB2.out))).mono ?_;rintro e W3 ⟨rfl,hb⟩;have HI3:=hd_ (HI2.out.below hb);have HB3:=hd_ (HB2.out.trans (hb.mono HB2.out.size));have Hk3:=hd_ (Hk2.out.trans (hb.mono Hk2.out.size));clear hb hc3 hc4 hc5 hf4 hf5 Hm1 HI2 HB2 Hk2;have hc3:=HI3.out.c3;have hc4:=HI3.out.c4;have hc5:=HI3.out.c5;have hf4:=HI3.out.f4;have hf5:=HI3.out.f5
    gi_wp2_with fail
    refine⟨trivial,?_⟩;refine(CallsIn.inRound l (callsIn_wide.2 (Hm2.out W3 HB3.out))).mono ?_;rintro e W4 ⟨rfl,hb⟩;have HI4:=hd_ (HI3.out.below hb);have HB4:=hd_ (HB3.out.trans (hb.mono HB3.out.size));have Hk4:=hd_ (Hk3.out.trans (hb.mono Hk3.out.size));clear hb hc3 hc4 hc5 hf4 hf5 Hm2 HI3 HB3 Hk3;have hc3:=HI4.out.c3;have hc4:=HI4.out.c4;have hc5:=HI4.out.c5;have hf4:=HI4.out.f4;have hf5:=HI4.out.f5
    gi_wp2_with fail
    refine⟨trivial,?_⟩;refine(CallsIn.inRound l (callsIn_wide.2 (Hsg.out W4 HB4.out))).mono ?_;rintro e W5 ⟨rfl,hb⟩;have HI5:=hd_ (HI4.out.below hb);have HB5:=hd_ (HB4.out.trans (hb.mono HB4.out.size));have Hk5:=hd_ (Hk4.out.trans (hb.mono Hk4.out.size));clear hb hc3 hc4 hc5 hf4 hf5 Hsg HI4 HB4 Hk4;have hc3:=HI5.out.c3;have hc4:=HI5.out.c4;have hc5:=HI5.out.c5;have hf4:=HI5.out.f4;have hf5:=HI5.out.f5
    gi_wp2_with fail
    have q0:=@Zl.h;have q9:Nonempty (Zl ⟨w.heap.size+1+1,0,none⟩ (.string slo)):=⟨⟨W5,HI5.out.c4⟩⟩;have q8:Nonempty (Zl ⟨w.heap.size+1+1+1,0,none⟩ (.string shi)):=⟨⟨W5,HI5.out.c5⟩⟩;refine Qn [(8,0),(1,1),(9,3),(1,4),(0,2),(0,5),(0,6),(0,7)]
     [(6,fun w'=>∃ p:Zl ⟨w.heap.size+1+1,0,none⟩ (.string slo),w'=p.w),(7,fun w'=>∃ p:Zl ⟨w.heap.size+1+1+1,0,none⟩ (.string shi),w'=p.w)]
     (by kernel_rfl) (by kernel_rfl) ⟨.inr ⟨⟨{ W5 with drawn:=W5.drawn+1 },HI5.out.c4⟩,rfl⟩,.inr ⟨⟨{ W5 with drawn:=W5.drawn+1 },HI5.out.c5⟩,rfl⟩,trivial⟩ ?_
    refine Qw (s:=6) _ (List.mem_cons_self ..) rfl ?_;simp only[dz_,Kg,tz_]
    go_big_quiet_step (fail)
    refine wpQuiet_nil ?_;refine Vh ?_;simp only[Kh,dz_,Kg,tz_]
    go_big_quiet_step (fail)
    refine wpQuiet_nil ?_;refine Qw (s:=7) _ (List.mem_cons_of_mem _ (List.mem_cons_self ..)) rfl ?_;simp only[Kh,dz_,Kg,tz_]
    go_big_quiet_step (fail)
    refine wpQuiet_nil ?_;refine Vh ?_;simp only[Kh,dz_,Kg,tz_]
    go_big_quiet_step (fail)
    refine wpQuiet_nil ?_;clear q0 q8 q9 hc3 hc4 hc5 hf4 hf5;obtain⟨V0,hV0⟩:∃ V0:World,{ heap:=W5.heap,tape:=W5.tape,drawn:=W5.drawn+1,os:=W5.os,output:=W5.output }=V0:=⟨_,rfl⟩;rw[hV0];have hdr:Below W5.heap.size W5 V0:=by rw[← hV0];exact⟨rfl,rfl,rfl,Nat.le_refl _,fun _ _=>rfl⟩
    have HJ0:=hd_ (HI5.out.below hdr);have HC0:=hd_ (HB5.out.trans (hdr.mono HB5.out.size));have Hl0:=hd_ (Hk5.out.trans (hdr.mono Hk5.out.size));clear hV0 hdr HI5 HB5 Hk5;refine Kz ?_;simp only[Kh,dz_,Kg,tz_]
    go_wp2_with fail
    refine cm_ (Ha1.out V0 HC0.out) ?_;rintro e V1 ⟨rfl,hb⟩;have HJ1:=hd_ (HJ0.out.below hb);have HC1:=hd_ (HC0.out.trans (hb.mono HC0.out.size));have Hl1:=hd_ (Hl0.out.trans (hb.mono Hl0.out.size));clear hb HJ0 HC0 Hl0 Ha1
    go_wp2_with fail
    refine⟨⟨.inr ⟨⟨V1,HJ1.out.c4⟩,rfl⟩,.inr ⟨⟨V1,HJ1.out.c5⟩,rfl⟩,trivial⟩,?_⟩;refine Kz ?_;simp only[Kh,dz_,Kg,tz_]
    go_wp2_with fail
    refine cm_ (Ha2.out V1 HC1.out) ?_;rintro e V2 ⟨rfl,hb⟩;have HJ2:=hd_ (HJ1.out.below hb);have HC2:=hd_ (HC1.out.trans (hb.mono HC1.out.size));have Hl2:=hd_ (Hl1.out.trans (hb.mono Hl1.out.size));clear hb HJ1 HC1 Hl1 Ha2
    go_wp2_with fail
    refine⟨⟨.inr ⟨⟨V2,HJ2.out.c4⟩,rfl⟩,.inr ⟨⟨V2,HJ2.out.c5⟩,rfl⟩,trivial⟩,?_⟩;have hc4:=HJ2.out.c4;have hc5:=HJ2.out.c5;have hf4:=HJ2.out.f4;have hf5:=HJ2.out.f5;refine Kz ?_;simp only[Kh,dz_,Kg,tz_]
    go_wp2_with fail
    have hc52:(V2.setCell ⟨w.heap.size+1+1,0,none⟩ (.string slo2)).cell? ⟨w.heap.size+1+1+1,0,none⟩=some (.string shi):=by
     rw[World.cell?_setCell_other _ _ _ _ (by simp)];exact HJ2.out.c5
    have hf52:(V2.setCell ⟨w.heap.size+1+1,0,none⟩ (.string slo2)).frozen? ⟨w.heap.size+1+1+1,0,none⟩=false:=by rw[World.frozen?_setCell];exact HJ2.out.f5
    refine⟨⟨.inl rfl,.inr ⟨⟨V2.setCell ⟨w.heap.size+1+1,0,none⟩ (.string slo2),hc52⟩,rfl⟩,trivial⟩,?_⟩;clear hc4 hc5 hf4 hf5;refine Kz ?_;simp only[Kh,dz_,Kg,tz_]
    go_wp2_with fail
    refine⟨⟨.inl rfl,.inl rfl,trivial⟩,?_⟩;simp only[Vq];exact⟨(Qh Hl2.out).trans ((KeepsOthers.setCell _ _ _).trans (KeepsOthers.setCell _ _ _)),Zja rfl HB.out HI.out.sz Hl2.out _ _,(HJ2.out.stored _ _).cast Hf1.out Hf2.out,Zak HC2.out _ _⟩
   ·rw[if_neg hk] at e1 e2;have hs':¬ k.sign<0:=by omega
    have Ha1:Hid (∀ W,Below w.heap.size w W→Kc Tryz.prog 20 #[.string (itx (LN.eLo (lf n) (pre.map Subtype.val))),.string (itx ((lf n p:Int)*k))] W (.string (itx ((LN.eLo (lf n) (pre.map Subtype.val))+(lf n p:Int)*k)))):=fun W hW=>Zwy W _ _ F hF s1 t1 (HLL.out W hW)
    have Ha2:Hid (∀ W,Below w.heap.size w W→Kc Tryz.prog 20 #[.string (itx (LN.eHi (lf n) (pre.map Subtype.val))),.string (itx (((lf n p+1:Nat):Int)*k))] W (.string (itx ((LN.eHi (lf n) (pre.map Subtype.val))+((lf n p+1:Nat):Int)*k)))):=fun W hW=>Zwy W _ _ F hF s2 t2 (HLL.out W hW)
    generalize k.sign=sg at *
    rw[← e1] at Ha1;rw[← e2] at Ha2;clear e1 e2 s1 s2 t1 t2 HLL hlen hpl hF;obtain⟨slo2,hq1⟩:∃ s,itx (LN.eLo (lf n) ((pre++[(⟨(p,k),hmem⟩:{x // x∈tl})]).map Subtype.val))=s:=⟨_,rfl⟩;obtain⟨shi2,hq2⟩:∃ s,itx (LN.eHi (lf n) ((pre++[(⟨(p,k),hmem⟩:{x // x∈tl})]).map Subtype.val))=s:=⟨_,rfl⟩;rw[hq1] at Ha1;rw[hq2] at Ha2;have Hf1:=hd_ hq1;have Hf2:=hd_ hq2;clear hq1 hq2;generalize itx (LN.eLo (lf n) (pre.map Subtype.val))=slo at *
    generalize itx (LN.eHi (lf n) (pre.map Subtype.val))=shi at *
    generalize itx k=sk at *
    generalize itx ((lf n p:Int)*k)=sa at *
    generalize itx (((lf n p+1:Nat):Int)*k)=sb at *
    generalize dec (lf n p+1)=sH at *
    generalize dec (lf n p)=sL at *
    gi_wp2_with fail
    refine⟨trivial,?_⟩;refine(CallsIn.inRound l (callsIn_wide.2 (Hlog.out W0 HB0.out))).mono ?_;rintro e W1 ⟨rfl,hb⟩;have HI1:=hd_ (HI0.out.below hb);have HB1:=hd_ (HB0.out.trans (hb.mono HB0.out.size));have Hk1:=hd_ (Hk0.out.trans (hb.mono Hk0.out.size));clear hb hc3 hc4 hc5 hf4 hf5 Hlog HI0 HB0 Hk0;have hc3:=HI1.out.c3;have hc4:=HI1.out.c4;have hc5:=HI1.out.c5;have hf4:=HI1.out.f4;have hf5:=HI1.out.f5
    gi_wp2_with fail
    refine⟨trivial,?_⟩;refine(CallsIn.inRound l (callsIn_wide.2 (Had.out W1 HB1.out))).mono ?_;rintro e W2 ⟨rfl,hb⟩;have HI2:=hd_ (HI1.out.below hb);have HB2:=hd_ (HB1.out.trans (hb.mono HB1.out.size));have Hk2:=hd_ (Hk1.out.trans (hb.mono Hk1.out.size));clear hb hc3 hc4 hc5 hf4 hf5 Had HI1 HB1 Hk1;have hc3:=HI2.out.c3;have hc4:=HI2.out.c4;have hc5:=HI2.out.c5;have hf4:=HI2.out.f4;have hf5:=HI2.out.f5
    gi_wp2_with fail
    refine⟨trivial,?_⟩;refine(CallsIn.inRound l (callsIn_wide.2 (Hm1.out W2 HB2.out))).mono ?_;rintro e W3 ⟨rfl,hb⟩;have HI3:=hd_ (HI2.out.below hb);have HB3:=hd_ (HB2.out.trans (hb.mono HB2.out.size));have Hk3:=hd_ (Hk2.out.trans (hb.mono Hk2.out.size));clear hb hc3 hc4 hc5 hf4 hf5 Hm1 HI2 HB2 Hk2;have hc3:=HI3.out.c3;have hc4:=HI3.out.c4;have hc5:=HI3.out.c5;have hf4:=HI3.out.f4;have hf5:=HI3.out.f5
    gi_wp2_with fail
    refine⟨trivial,?_⟩;refine(CallsIn.inRound l (callsIn_wide.2 (Hm2.out W3 HB3.out))).mono ?_;rintro e W4 ⟨rfl,hb⟩;have HI4:=hd_ (HI3.out.below hb);have HB4:=hd_ (HB3.out.trans (hb.mono HB3.out.size));have Hk4:=hd_ (Hk3.out.trans (hb.mono Hk3.out.size));clear hb hc3 hc4 hc5 hf4 hf5 Hm2 HI3 HB3 Hk3;have hc3:=HI4.out.c3;have hc4:=HI4.out.c4;have hc5:=HI4.out.c5;have hf4:=HI4.out.f4;have hf5:=HI4.out.f5
    gi_wp2_with fail
    refine⟨trivial,?_⟩;refine(CallsIn.inRound l (callsIn_wide.2 (Hsg.out W4 HB4.out))).mono ?_;rintro e W5 ⟨rfl,hb⟩;have HI5:=hd_ (HI4.out.below hb);have HB5:=hd_ (HB4.out.trans (hb.mono HB4.out.size));have Hk5:=hd_ (Hk4.out.trans (hb.mono Hk4.out.size));clear hb hc3 hc4 hc5 hf4 hf5 Hsg HI4 HB4 Hk4;have hc3:=HI5.out.c3;have hc4:=HI5.out.c4;have hc5:=HI5.out.c5;have hf4:=HI5.out.f4;have hf5:=HI5.out.f5
    gi_wp2_with fail
    have q0:=@Zl.h;have q9:Nonempty (Zl ⟨w.heap.size+1+1,0,none⟩ (.string slo)):=⟨⟨W5,HI5.out.c4⟩⟩;have q8:Nonempty (Zl ⟨w.heap.size+1+1+1,0,none⟩ (.string shi)):=⟨⟨W5,HI5.out.c5⟩⟩;refine Qn [(8,0),(1,1),(9,3),(1,4),(0,2),(0,5),(0,6),(0,7)]
     [(6,fun w'=>∃ p:Zl ⟨w.heap.size+1+1,0,none⟩ (.string slo),w'=p.w),(7,fun w'=>∃ p:Zl ⟨w.heap.size+1+1+1,0,none⟩ (.string shi),w'=p.w)]
     (by kernel_rfl) (by kernel_rfl) ⟨.inr ⟨⟨{ W5 with drawn:=W5.drawn+1 },HI5.out.c4⟩,rfl⟩,.inr ⟨⟨{ W5 with drawn:=W5.drawn+1 },HI5.out.c5⟩,rfl⟩,trivial⟩ ?_
    refine Qw (s:=6) _ (List.mem_cons_self ..) rfl ?_;simp only[dz_,Kg,tz_]
    go_big_quiet_step (fail)
    refine wpQuiet_nil ?_;refine Vh ?_;simp only[Kh,dz_,Kg,tz_]
    go_big_quiet_step (fail)
    refine wpQuiet_nil ?_;refine Qw (s:=7) _ (List.mem_cons_of_mem _ (List.mem_cons_self ..)) rfl ?_;simp only[Kh,dz_,Kg,tz_]
    go_big_quiet_step (fail)
    refine wpQuiet_nil ?_;refine Vh ?_;simp only[Kh,dz_,Kg,tz_]
    go_big_quiet_step (fail)
    refine wpQuiet_nil ?_;clear q0 q8 q9 hc3 hc4 hc5 hf4 hf5;obtain⟨V0,hV0⟩:∃ V0:World,{ heap:=W5.heap,tape:=W5.tape,drawn:=W5.drawn+1,os:=W5.os,output:=W5.output }=V0:=⟨_,rfl⟩;rw[hV0];have hdr:Below W5.heap.size W5 V0:=by rw[← hV0];exact⟨rfl,rfl,rfl,Nat.le_refl _,fun _ _=>rfl⟩
    have HJ0:=hd_ (HI5.out.below hdr);have HC0:=hd_ (HB5.out.trans (hdr.mono HB5.out.size));have Hl0:=hd_ (Hk5.out.trans (hdr.mono Hk5.out.size));clear hV0 hdr HI5 HB5 Hk5;refine Kz ?_;simp only[Kh,dz_,Kg,tz_]
    go_wp2_with fail
    refine cm_ (Ha1.out V0 HC0.out) ?_;rintro e V1 ⟨rfl,hb⟩;have HJ1:=hd_ (HJ0.out.below hb);have HC1:=hd_ (HC0.out.trans (hb.mono HC0.out.size));have Hl1:=hd_ (Hl0.out.trans (hb.mono Hl0.out.size));clear hb HJ0 HC0 Hl0 Ha1
    go_wp2_with fail
    refine⟨⟨.inr ⟨⟨V1,HJ1.out.c4⟩,rfl⟩,.inr ⟨⟨V1,HJ1.out.c5⟩,rfl⟩,trivial⟩,?_⟩;refine Kz ?_;simp only[Kh,dz_,Kg,tz_]
    go_wp2_with fail
    refine cm_ (Ha2.out V1 HC1.out) ?_;rintro e V2 ⟨rfl,hb⟩;have HJ2:=hd_ (HJ1.out.below hb);have HC2:=hd_ (HC1.out.trans (hb.mono HC1.out.size));have Hl2:=hd_ (Hl1.out.trans (hb.mono Hl1.out.size));clear hb HJ1 HC1 Hl1 Ha2
    go_wp2_with fail
    refine⟨⟨.inr ⟨⟨V2,HJ2.out.c4⟩,rfl⟩,.inr ⟨⟨V2,HJ2.out.c5⟩,rfl⟩,trivial⟩,?_⟩;have hc4:=HJ2.out.c4;have hc5:=HJ2.out.c5;have hf4:=HJ2.out.f4;have hf5:=HJ2.out.f5;refine Kz ?_;simp only[Kh,dz_,Kg,tz_]
    go_wp2_with fail
    have hc52:(V2.setCell ⟨w.heap.size+1+1,0,none⟩ (.string slo2)).cell? ⟨w.heap.size+1+1+1,0,none⟩=some (.string shi):=by
     rw[World.cell?_setCell_other _ _ _ _ (by simp)];exact HJ2.out.c5
    have hf52:(V2.setCell ⟨w.heap.size+1+1,0,none⟩ (.string slo2)).frozen? ⟨w.heap.size+1+1+1,0,none⟩=false:=by rw[World.frozen?_setCell];exact HJ2.out.f5
    refine⟨⟨.inl rfl,.inr ⟨⟨V2.setCell ⟨w.heap.size+1+1,0,none⟩ (.string slo2),hc52⟩,rfl⟩,trivial⟩,?_⟩;clear hc4 hc5 hf4 hf5;refine Kz ?_;simp only[Kh,dz_,Kg,tz_]
    go_wp2_with fail
    refine⟨⟨.inl rfl,.inl rfl,trivial⟩,?_⟩;simp only[Vq];exact⟨(Qh Hl2.out).trans ((KeepsOthers.setCell _ _ _).trans (KeepsOthers.setCell _ _ _)),Zja rfl HB.out HI.out.sz Hl2.out _ _,(HJ2.out.stored _ _).cast Hf1.out Hf2.out,Zak HC2.out _ _⟩
 case done =>
  rintro D' ys W hD rfl ⟨hI,hB⟩ hK;rw[List.attach_map_subtype_val] at hI;have HI:=hd_ hI;have HB:=hd_ hB;have HK:=hd_ hK;clear hI hB hK hr1 hr2 hI1 hB1 hB5;have Hv:Hid (∀ s t,itx (LN.eLo (lf n) tl)=s→itx (LN.eHi (lf n) tl)=t→Ending.returned (.tuple #[.string s,.string t])=Ending.returned (.tuple #[.string (itx (LN.eLo (lf n) tl)),.string (itx (LN.eHi (lf n) tl))])):=by
   intro s t h1 h2;rw[h1,h2]
  obtain⟨lo,hlo⟩:∃ s,itx (LN.eLo (lf n) tl)=s:=⟨_,rfl⟩;obtain⟨hi,hhi⟩:∃ s,itx (LN.eHi (lf n) tl)=s:=⟨_,rfl⟩;have Hr:=hd_ (Hv.out lo hi hlo hhi);rw[hlo,hhi] at HI;clear Hv hlo hhi;have hc4:=HI.out.c4;have hc5:=HI.out.c5;have hf4:=HI.out.f4;have hf5:=HI.out.f5
  gi_wp2_with fail
  gi_region
  gi_wp2
  clear hc4 hc5 hf4 hf5;have e4:((W.setCell { block:=w.heap.size+1+1,off:=0 } (Value.string lo)).setCell { block:=w.heap.size+1+1+1,off:=0 } (Value.string hi)).drew.cell? ⟨w.heap.size+1+1,0,none⟩=some (.string lo):=by
   show World.cell? ((W.setCell { block:=w.heap.size+1+1,off:=0 } (Value.string lo)).setCell { block:=w.heap.size+1+1+1,off:=0 } (Value.string hi)) _=_
   rw[World.cell?_setCell_other _ _ _ _ (by simp),World.cell?_setCell_same _ _ _ HI.out.c4]
  have e5:((W.setCell { block:=w.heap.size+1+1,off:=0 } (Value.string lo)).setCell { block:=w.heap.size+1+1+1,off:=0 } (Value.string hi)).drew.cell? ⟨w.heap.size+1+1+1,0,none⟩=some (.string hi):=by
   show World.cell? ((W.setCell { block:=w.heap.size+1+1,off:=0 } (Value.string lo)).setCell { block:=w.heap.size+1+1+1,off:=0 } (Value.string hi)) _=_
   rw[World.cell?_setCell_same _ _ _ (by rw[World.cell?_setCell_other _ _ _ _ (by simp)];exact HI.out.c5)]
  have hk9:=((KeepsOthers.setCell W ⟨w.heap.size+1+1,0,none⟩ (.string lo)).trans (KeepsOthers.setCell _ ⟨w.heap.size+1+1+1,0,none⟩ (.string hi))).trans (KeepsOthers.drew _);have hK9:=hk9.same D' _ HK.out rfl;have hb9:=((HB.out.setCell (p:=⟨w.heap.size+1+1,0,none⟩) (by show _≤w.heap.size+1+1;omega) (.string lo)).setCell (p:=⟨w.heap.size+1+1+1,0,none⟩) (by show _≤w.heap.size+1+1+1;omega) (.string hi)).drew
  generalize ((W.setCell { block:=w.heap.size+1+1,off:=0 } (Value.string lo)).setCell { block:=w.heap.size+1+1+1,off:=0 } (Value.string hi)).drew=w9 at *
  have g4:=cell_kept e4 (grownBy_putObj' _ D' (.deferred none)) (fun r e=>by cases e;exact⟨_,hK9,rfl⟩)
  have g5:=cell_kept e5 (grownBy_putObj' _ D' (.deferred none)) (fun r e=>by cases e;exact⟨_,hK9,rfl⟩)
  refine⟨by simp,.inl ⟨_,_,rfl,run_takeDeferred hK9,?_⟩⟩
  refine⟨.tuple #[.string lo,.string hi],?_,Hr.out,hb9.trans (belowK_b (w:=w) nr_ w9 D' _ _ (by rw[hsz1] at hD;omega) hK9 rfl rfl)⟩
  simp[results,Tryz.results172,go_sem,g4,g5]
 case stop =>
  rintro D' c pre W hD hSp ⟨hf,_⟩ hK;exact hf.elim
end Go.Proofs.YtnjedhgcfeoemaaGreatDoor

namespace Go.Proofs.YtnjedhgcfeoemaaGreatDoor.LN
end Go.Proofs.YtnjedhgcfeoemaaGreatDoor.LN

namespace Go.Proofs.YtnjedhgcfeoemaaGreatDoor
open Go.RowKit
structure TrT (tl:List (Int×Int)):Prop where
 p:PrT tl
 nz:∀ x∈tl,x.2≠0
 nd:(tl.map Prod.fst).Nodup
theorem Zu4(N:Nat):Zyj 2 N N:=⟨Nat.le_refl _,Nat.pow_lt_pow_right (by decide) (by omega)⟩
theorem Zvl(more n:Nat)(hm:1≤more){s:Nat×Nat×Nat}(h:Vm 2 more n=some s):s.2.2=2^n :=
 Zn4 (Zdt 2 more (by decide) hm n s h).lg (Zu4 _)
theorem Zzc{p:Int}(hp:∃ q:Nat,p=q∧(q=2∨q∈Yt))(h:(Vm p.toNat 62 26).isSome=true):lgA p=(lf 26 p:Int)∧lgB p=(LN.hiL (lf 26) p:Int):=by
 obtain⟨q,rfl,hq⟩:=hp;obtain⟨s,hs⟩:=Option.isSome_iff_exists.1 h;rw[Int.toNat_natCast] at hs;have e:lgA q=(lf 26 q:Int):=by
  unfold lgA;rw[Int.toNat_natCast,hs]
  show ((s.2.2:Nat):Int)=((lgN q 26:Nat):Int)
  rcases hq with rfl|hq
  ·rw[Zvl 62 26 (by decide) hs]
   rw[show ((2:Nat):Int)=2 from rfl,Yl]
  ·rw[Zds hq (by decide) (by decide) hs]
 refine⟨e,?_⟩;unfold lgB LN.hiL;rw[e];split
 ·rfl
 ·rfl
def Dec (tl:List (Int×Int)):Prop:=0≤LN.eLo (lf 1024) tl∨LN.eHi (lf 1024) tl≤0
def Zhl:List Int:=[2,3,5,7,11,13]
theorem Zwp{p n L:Nat}(hp:p∈Yt)(hn:n≤1056)(h:LN.lg p p.log2 n 1120=some L):lgN p n=L:=by
 rw[Zsc] at h;obtain⟨s,hs,e⟩:=Option.map_eq_some_iff.1 h;rw[← Zds hp hn (by decide) hs,e]
theorem Zxp:([3,5,7,11,13]:List Nat).map (fun p=>LN.lg p p.log2 1024 1120)=LN.certL.tail.map fun x=>some x.toNat:=by decide +kernel
theorem Zqa:LN.certL.head?=some (2^1024):=by decide +kernel
theorem Zta:∀ x∈LN.certL,(0:Int)≤x:=by decide +kernel
theorem Zwr(n:Nat):((lf n 2:Nat):Int)=2^n:=by
 show ((lgN 2 n:Nat):Int)=_
 rw[Yl,Int.natCast_pow];rfl
theorem Zht{a k m:Nat}(ha:a≤100)(h:7+k≤m):a*2^k≤2^m:=by
 have:a*2^k≤2^7*2^k:=Nat.mul_le_mul_right _ (by omega)
 rw[← Nat.pow_add] at this;exact Nat.le_trans this (Nat.pow_le_pow_right (by decide) h)
theorem Zvt:Zhl.map (fun p=>((lf 1024 p:Nat):Int))=LN.certL:=by
 have h:=Zxp;have h0:=Zqa;have hp:=Zta;obtain⟨c0,c1,c2,c3,c4,c5,e⟩:∃ c0 c1 c2 c3 c4 c5,LN.certL=[c0,c1,c2,c3,c4,c5]:=⟨_,_,_,_,_,_,rfl⟩;rw[e] at h h0 hp ⊢;have key:∀ (p:Nat) (c:Int),p∈Yt→0≤c→LN.lg p p.log2 1024 1120=some c.toNat→((lf 1024 (p:Int):Nat):Int)=c:=fun p c hp h0 h=>by
  have:=Zwp hp (by decide) h
  show ((lgN p 1024:Nat):Int)=c
  rw[this];omega
 simp only[List.map_cons,List.map_nil,List.tail_cons,List.cons.injEq,and_true] at h;obtain⟨h1,h2,h3,h4,h5⟩:=h;simp only[List.head?_cons,Option.some.injEq] at h0;have p1:=hp c1 (by simp)
 have p2:=hp c2 (by simp)
 have p3:=hp c3 (by simp)
 have p4:=hp c4 (by simp)
 have p5:=hp c5 (by simp)
 have k1:=key 3 c1 (by decide) p1 h1
 have k2:=key 5 c2 (by decide) p2 h2
 have k3:=key 7 c3 (by decide) p3 h3
 have k4:=key 11 c4 (by decide) p4 h4
 have k5:=key 13 c5 (by decide) p5 h5
 have k0:((lf 1024 2:Nat):Int)=c0:=by
  rw[h0];exact Zwr 1024
 show [((lf 1024 2:Nat):Int),((lf 1024 3:Nat):Int),((lf 1024 5:Nat):Int),((lf 1024 7:Nat):Int),((lf 1024 11:Nat):Int),((lf 1024 13:Nat):Int)]=_
 rw[k0];rw[show ((lf 1024 3:Nat):Int)=c1 from k1,show ((lf 1024 5:Nat):Int)=c2 from k2,show ((lf 1024 7:Nat):Int)=c3 from k3,show ((lf 1024 11:Nat):Int)=c4 from k4,show ((lf 1024 13:Nat):Int)=c5 from k5]
def Kb:Nat:=2^100
theorem Zm3{tl:List (Int×Int)}(h1:∀ x∈tl,x.1∈Zhl)(h0:∀ x∈tl,x.2≠0)(hd:(tl.map Prod.fst).Nodup)(hk:∀ x∈tl,x.2.natAbs≤Kb)(hl:tl.length≤100)(hne:tl≠[]):Dec tl:=by
 have hc:=LN.cert_ok;rw[← Zvt] at hc;have hS:=@Zht tl.length 100 503 hl (by decide)
 have:=LN.ends_decide hc (by decide) tl hS hne (fun x hx=>⟨h1 x hx,h0 x hx,hk x hx⟩) hd
 unfold Dec;rw[LN.eLo_eq,LN.eHi_eq];omega
def Zjn:List Int:=[2,3,5,7,11,13,17,19,23,29,31,37,41,43,47,53,59,61,67,71,73,79,83,89,97]
structure Zw1 (ps:List Int) (l:List Rat):Prop where
 pr:∀ p∈ps,p∈Zjn
 nd:ps.Nodup
 kb:∀ x∈tlQ ps l,x.2.natAbs≤Kb
 dc:ps.length≤100→tlQ ps l≠[]→Dec (tlQ ps l)
theorem Zcj(D:Nat):∀ (ps:List Int) (l:List Rat),((Vo D ps l).map Prod.fst).Sublist ps
 | [],_=>by simp[Vo]
 | _::_,[]=>by simp[Vo]
 | p::ps,q::l=>by
  have ih:=Zcj D ps l;unfold Vo at ih ⊢;rw[List.zip_cons_cons,List.filterMap_cons]
  by_cases h:q.num=0
  ·simp only[h,if_true];exact ih.cons _
  ·simp only[h,if_false];exact ih.cons_cons _
theorem Zyw{ps:List Int}{l:List Rat}{x:Int×Int}(h:x∈tlQ ps l):x.2≠0:=by
 obtain⟨_,q,hq,hn,he⟩:=Zn h;rw[he];refine Int.mul_ne_zero hn ?_;have h1:=LN.tden_dvd hq;have h2:=LN.tden_pos' l;have h3:0<Qc l/q.den:=Nat.div_pos (Nat.le_of_dvd h2 h1) q.den_pos;omega
theorem Zos:Zjn=2::Yt.map (fun p=>((p:Nat):Int)):=by decide +kernel
theorem Zjm{p:Int}(h:p∈Zjn):∃ q:Nat,p=q∧(q=2∨q∈Yt):=by
 rw[Zos] at h;rcases List.mem_cons.1 h with rfl|h
 ·exact⟨2,rfl,.inl rfl⟩
 ·obtain⟨q,hq,rfl⟩:=List.mem_map.1 h;exact⟨q,rfl,.inr hq⟩
theorem Zfz{p:Int}(h:p∈Zhl):p∈Zjn:=by
 have:∀ p∈Zhl,p∈Zjn:=by decide
 exact this p h
theorem Znj{ps:List Int}{l:List Rat}(h1:∀ p∈ps,p∈Zjn)(h2:ps.Nodup):TrT (tlQ ps l) :=
 ⟨fun _ hx=>Zjm (h1 _ (Zn hx).1),fun _ hx=>Zyw hx,(Zcj _ ps l).nodup h2⟩
theorem Zw1.lt{ps:List Int}{l:List Rat}(h:Zw1 ps l):∀ x∈tlQ ps l,x.2.natAbs<2^101:=fun x hx=>Nat.lt_of_le_of_lt (h.kb x hx) (by decide)
theorem Zw1.dec{ps:List Int}{l:List Rat}(h:Zw1 ps l)(hn:ps.length≤100)(hne:tlQ ps l≠[]):Dec (tlQ ps l):=h.dc hn hne
theorem Zhg{ps:List Int}{l:List Rat}(hn:ps.length≤100):(tlQ ps l).length≤100 :=
 Nat.le_trans (by have:=(Zcj (Qc l) ps l).length_le;rw[List.length_map] at this;exact this) hn
theorem Zw1.small{ps:List Int}{l:List Rat}(h1:∀ p∈ps,p∈Zhl)(h2:ps.Nodup)(hk:∀ x∈tlQ ps l,x.2.natAbs≤Kb):Zw1 ps l :=
 ⟨fun p hp=>Zfz (h1 p hp),h2,hk,fun hn hne=>Zm3 (fun _ hx=>h1 _ (Zn hx).1) (Znj (fun p hp=>Zfz (h1 p hp)) h2).nz (Znj (fun p hp=>Zfz (h1 p hp)) h2).nd hk (Zhg hn) hne⟩
end Go.Proofs.YtnjedhgcfeoemaaGreatDoor

namespace Go.Proofs.YtnjedhgcfeoemaaGreatDoor.LN
theorem Zh0(P:Int):∀ l k:List Int,dotI l k=dotI (l.map fun x=>x%P) k+P*dotI (l.map fun x=>x/P) k
 | [],_=>by simp[dotI]
 | _::_,[]=>by simp[dotI]
 | x::l,y::k=>by
  have ih:=Zh0 P l k;simp only[List.map_cons,dotI];rw[ih];have hx:=Int.emod_add_mul_ediv x P;generalize x%P=r at *
  generalize x/P=q at *
  subst hx
  grind
def Zdz (a q:Int) (L:List Int):List Int:=L.map fun l=>(2*q*l+a)/(2*a)
theorem Zdy(a q:Int)(L:List Int):(Zdz a q L).length=L.length:=by simp[Zdz]
def Qa7 (a q:Int) (L:List Int):Nat:=Zc7 (comb a (Zdz a q L) q L)
def Zxl (a:Int) (L Q:List Int) (K S:Nat):Bool:=decide (0<a)&&Q.all fun q=>decide (Qa7 a q L*K+q.natAbs*S<a.natAbs)
def Qav (a:Int) (L Q:List Int) (V:List (List Int)) (P:Int):Bool :=
 decide (1<P)&&decide (V.length=L.length) &&
 (List.range L.length).all fun i=>decide ((Zdw L.length (V.getD i []) (Q.map fun q=>Zdz a q L)).map (fun x=>x%P)=Zd2 L.length i 1)
theorem Zod(P:Int):∀ u k:List Int,dotI u (k.map fun x=>P*x)=P*dotI u k
 | [],_=>by simp[dotI]
 | _::_,[]=>by simp[dotI]
 | a::u,b::k=>by
  simp only[List.map_cons,dotI];rw[Zod P u k]
  grind
theorem Zxy{P:Int}{m:Nat}{U V:List (List Int)}(hU:∀ u∈U,u.length=m)(hI:∀ i,i<m→(Zdw m (V.getD i []) U).map (fun x=>x%P)=Zd2 m i 1)(k:List Int)(hk:k.length=m)(h0:∀ u∈U,dotI u k=0):
  ∀ x∈k,∃ y,x=P*y:=by
 intro x hx;obtain⟨i,hi,rfl⟩:=List.mem_iff_getElem.1 hx;have h1:=hI i (by omega)
 have h2:=Zeh m k (V.getD i []) U hU h0;rw[Zh0 P,h1,Zd2,List.range_eq_range',Zgl 1 _ i 0 k,if_pos (by omega)] at h2
 rw[Nat.sub_zero,List.getD_eq_getElem?_getD,List.getElem?_eq_getElem hi,Option.getD_some,Int.one_mul] at h2;generalize k[i]=y at *
 generalize dotI ((Zdw m (V.getD i []) U).map fun x=>x/P) k=q at *
 exact⟨-q,by rw[Int.mul_neg];omega⟩
theorem Zu6{P:Int}(hP:1<P){m:Nat}{U V:List (List Int)}(hU:∀ u∈U,u.length=m)(hI:∀ i,i<m→(Zdw m (V.getD i []) U).map (fun x=>x%P)=Zd2 m i 1):
  ∀ (n:Nat) (k:List Int),(∀ x∈k,x.natAbs≤n)→k.length=m→(∀ u∈U,dotI u k=0)→∀ x∈k,x=0:=by
 intro n
 induction n using Nat.strongRecOn with
 | ind n ih =>
  intro k hn hk h0
  by_cases hz:n=0
  ·subst hz;intro x hx;have:=hn x hx
   omega
  have hd:=Zxy hU hI k hk h0;have e:k=(k.map fun x=>x/P).map fun x=>P*x:=by
   rw[List.map_map];refine List.ext_getElem (by simp) fun i h1 h2=>?_
   obtain⟨y,hy⟩:=hd k[i] (List.getElem_mem h1);rw[List.getElem_map,Function.comp_apply,hy,Int.mul_ediv_cancel_left _ (by omega)]
  have h2:∀ u∈U,dotI u (k.map fun x=>x/P)=0:=fun u hu=>by
   have h:=h0 u hu;rw[e,Zod] at h;rcases Int.mul_eq_zero.1 h with h|h
   ·omega
   ·exact h
  have h3:∀ x∈k.map (fun x=>x/P),x.natAbs≤n/2:=fun x hx=>by
   obtain⟨z,hz1,rfl⟩:=List.mem_map.1 hx;obtain⟨y,hy⟩:=hd z hz1;have h4:=hn z hz1;rw[hy,Int.mul_ediv_cancel_left _ (by omega)]
   rw[hy,Int.natAbs_mul] at h4;have h5:2*y.natAbs≤P.natAbs*y.natAbs:=Nat.mul_le_mul_right _ (by omega)
   omega
  have h4:=ih (n/2) (by omega) _ h3 (by rw[List.length_map];exact hk) h2
  intro x hx;obtain⟨y,hy⟩:=hd x hx;have h5:=h4 (x/P) (List.mem_map_of_mem hx);rw[hy,Int.mul_ediv_cancel_left _ (by omega)] at h5
  rw[hy,h5,Int.mul_zero]
theorem Znc{a:Int}{L Q:List Int}{V:List (List Int)}{P:Int}{K S:Nat}(hn:Zxl a L Q K S=true)(hi:Qav a L Q V P=true)(k:List Int)(hk:k.length=L.length)(hK:∀ x∈k,x.natAbs≤K)(hS:(dotI L k).natAbs<S):
  ∀ x∈k,x=0:=by
 unfold Zxl at hn;unfold Qav at hi;simp only[Bool.and_eq_true,decide_eq_true_eq,List.all_eq_true,List.mem_range] at hn hi;obtain⟨ha,hQ⟩:=hn;obtain⟨⟨hP,hV⟩,hI⟩:=hi;refine Zu6 hP (m:=L.length) (U:=Q.map fun q=>Zdz a q L) (V:=V) (fun u hu=>?_) hI (Zc7 k) k (fun x hx=>?_) hk fun u hu=>?_
 ·obtain⟨q,_,rfl⟩:=List.mem_map.1 hu;exact Zdy a q L
 ·clear hS hK hk hI hV;unfold Zc7
  induction k with
  | nil=>cases hx
  | cons y l ih =>
   rw[List.map_cons,List.sum_cons];rcases List.mem_cons.1 hx with rfl|hx
   ·omega
   ·have:=ih hx;omega
 ·obtain⟨q,hq,rfl⟩:=List.mem_map.1 hu;have h1:=hQ q hq;have e:=Zdr a q (Zdz a q L) L k (Zdy a q L);have b:=Zmx K (comb a (Zdz a q L) q L) k hK;unfold Qa7 at h1;generalize dotI (Zdz a q L) k=f at *
  generalize dotI L k=T at *
  generalize Zc7 (comb a (Zdz a q L) q L)*K=A at *
  rw[e] at b;have h3:(a*f).natAbs≤(a*f-q*T).natAbs+(q*T).natAbs:=by omega
  rw[Int.natAbs_mul,Int.natAbs_mul q T] at h3;have h5:q.natAbs*T.natAbs≤q.natAbs*S:=Nat.mul_le_mul_left _ (by omega)
  have h6:a.natAbs*f.natAbs<a.natAbs*1:=by omega
  have h7:f.natAbs<1:=Nat.lt_of_mul_lt_mul_left h6;omega
def Zx6:List Nat:=[2,3,5,7,11,13,17,19,23,29,31,37,41,43,47,53,59,61,67,71,73,79,83,89,97]
def certL25:List Int:=Zx6.map fun p=>if p=2 then 2^1024 else (((lg p p.log2 1024 1120).getD 0:Nat):Int)
def Zs9:List Int:=[-0x390cc4547b4cd34f887aebaadaaef6c9e2c25ec48d8f23b26f2a85d828ff28e8bf9ca1f7cfab0d284288c4b575780f820db978a62a9677ad80c583c592139,-0x260814ef7f5ac50a6006d98cfd70b43cacbe2b44c5a6acba00c9e36e133dfaec54ded4a6dbf2b1ee3d9f0170e9040519515ec50467e78cea24b2a987b6ebe,0xc1fe29faf3a552cd8de28a12e2da45a09a6f6ddd51c9fdf123231365c26467b7f0adb74fd1629cde5109fd2ce82ac31cf6a7159b88cbc009f06beb2efe7f1,0xc4d95d3690e9b65f02a176c883e8ec48cac8f51c6e6ac88155fbb552a8d107e0735dfadeafbd00dc15d7affcd74d1aedcc8b5819242d9f5374d744f37864b,0x2fbe3f25a3a7de9b5b481954d1f6339b2cd20553ab9d3ebec152b19718dccca849fa91bd57f1ef5cf6b3fd1de44fed74095a607713b59e5dab526a5bf2d1a,0xb1d4a89456513f0be0db174271d748684707ab7c465b9b152f9cfd46885d014b0b6313fdb7fb0ac0f8c0cbb84fa1114a2fc1ad81d7b46dc68888c7e484443,0xd4fb67b9eee711061c2f484eaeb6714b80931bf0be34de2758afdcfc8ab8d81f286fc368a34abbdee16567d53c8e00633cd4e3c89dc0919dbd4e6776a43bb,0xc899fb23e590a24b56a2adcd8da665a66ae2ec7e27986cc365cb27f6d6036be68c300e821eb425ea7f34efe116edeeffcaca2af99a0269f5b4261db47c314,-0x11d12dd471b033d8f64d3dd96ce360413127b1e913f3ae0a69f58fd7c784be2b7f4730a1aa0e86d39e38d5da6e24bfecc0540ab55bd835eba83548458d713,0xb926771e4e6fa1b1d854b5141a33d1ea69f18e9493e4bd4e7fc79ec59c41a85d36321c75af04f2583ea8a5d6ed566b5e9fa774026a91431b6a7df578e7459,-0x3c28cc5f354ba5a9fc8d241587fa21af31c3e6e94de0dd06347765459067893f4625b14ba63b900137e634223d3e51fc18e23feb9d937a72459c82f489561,-0xd89ae46dcc2d34099da88c0eeebe45a7fd8e4a5b978d5a347365896f552ec37edac4d764c4c88fe731af3bde3060926f6c408fa08ce000932d017724e19ee,-0x8a91da38a2dcab2db4bf4a851cf4bbad9dd11812fb953cccc63d0e4b2da4b049c2e28f859aff65c2f55d66641eec3465bf2cc38578db652cb80d1be86824c,0x895aa15dcf5659cff1497ef77c5517ab5bc635dc394b344b270487efb0c24dd81130969cbd26c4b2570453e614b36072827d534508273926630d8792f1505,0xec0ed674cca733ecec2ec718589c4165668c921ed200cb18f949421f53adfeaf33ee49b77683fd220fda76c247b919730b89f5c86cc2ae2e7467e6288190d,0x1ad4fa358f8a2b0001052337ff5f965738e9ef08c0ab36887e87053178564d3d4733548ea08b2398fa1c8ef38e9b07acf14183670a7557085e371538399213,-0xcf563fd1ab64de44118f0ef591830a98b4375aefbd7643b50b3a2c7dad2ddda31ea6a961f9ff6856f9af1536f3807caa73d0d8bccd1b1748307caca0b514,0x5076fb700c91eb0ad7590020d977e1805d604885b67160daae909a62406d3f401f66fe04cdb504d8309c6f2062ee41b2c29c45d2c01b4a6959315c698416e,-0xe7e496b0d5dae89fd6671905c3b39792af4f23aa9c33ab499c18e57447823ce03c684e8e0d3686afff015d66b6d57f8e91b97946b1f2fb236c8d62708a18a,-0x1797837a78ad5a7cb425ecd55e66c7f45320c2112aa185855f9ac4fbdd0f1a3f868873233f2a91c500731f84bf864689b9ca4ffc44787f78ed85c25d65bafe,0x1f12b1884e6ed34a5d58fcbbd9b64bb0e3620c645f1107b850710f74df8470506f39df5b2c079d54de688969e9b3be651cc671df4be8b0402deeed04d7136f,0x38773a3f3a38ff2f461cc1a498212e2699f4b44c91c4fc8fe76a273f7433e99ad868606c13df7bb8fbc1a0e307aa2305e1edc5fc67267c33693811a24a115a,-0x468f56cd9688ad4444754dc5516780d8a728601272b981c9e540ae5c7eccc37be9aaea74cc4f68a295024dd153707784d1a0f06af7b3318b43396873b153b9,0x29803f6a11e403f7ab8ab7f301e524fd966b213312929531e43177e8e94c4228b3ff35f744d7a0381b47d50f48de84c56fabfe6825e7c594421d4081a2f909,-0x3ba482035175b55cdd54937fbed1357892e1679104490919122bafa83262d982e03a473fabb598916f8baa291f85413607e809cc262654bd47d7d78594adb]
def Zx5:List (List Int):=[[98,118,202,124,83,146,107,201,172,64,12,55,105,153,239,226,195,7,28,1,187,165,30,221,20],[97,27,31,158,30,77,244,51,44,105,139,212,178,232,112,144,112,50,139,194,131,126,250,243,199],[145,223,213,170,95,13,240,130,153,118,135,223,243,186,171,134,207,140,198,195,116,22,35,91,65],[127,43,6,14,138,151,250,70,62,80,184,44,115,51,176,244,145,131,206,236,45,69,179,200,133],[215,29,202,95,72,74,48,4,10,16,59,3,80,6,27,146,155,64,144,191,207,28,47,186,115],[1,23,188,40,44,144,148,45,179,1,2,131,81,130,190,174,102,201,98,127,88,72,69,149,96],[21,40,35,113,140,63,120,23,173,12,30,112,115,247,188,77,109,86,237,6,190,149,14,217,137],[165,242,4,13,24,68,242,68,11,194,105,217,200,25,217,157,134,179,219,36,80,241,64,196,176],[206,4,124,119,72,189,189,146,49,121,239,155,85,23,138,58,180,221,118,48,106,186,171,238,86],[210,99,247,60,139,154,200,40,223,202,137,227,11,116,74,91,113,69,222,174,223,137,100,238,243],[137,154,125,2,209,203,20,147,218,42,113,181,57,132,187,233,7,180,4,13,134,94,179,172,127],[179,210,49,18,55,213,151,96,5,60,141,57,148,95,99,145,82,178,219,173,202,14,84,100,228],[102,62,217,129,14,127,200,224,35,146,125,220,123,9,18,106,211,148,211,96,123,238,196,223,230],[107,242,170,28,59,5,149,152,27,153,45,77,216,213,205,218,113,101,58,81,174,221,44,184,57],[108,175,78,124,22,49,53,21,88,184,52,93,49,179,193,43,94,166,25,71,133,248,120,207,180],[190,12,33,105,31,211,119,39,220,34,3,27,122,55,99,131,239,148,215,72,248,155,198,222,150],[144,6,56,78,4,2,126,114,216,174,212,176,32,191,21,45,218,115,143,120,153,136,150,24,232],[177,196,131,171,223,9,122,185,198,226,118,98,221,101,109,186,72,130,15,250,167,241,109,149,105],[5,109,58,172,46,17,108,71,152,136,247,173,16,175,59,71,120,96,238,26,93,192,136,39,81],[186,19,103,188,193,244,223,99,12,51,155,33,75,7,116,75,27,25,162,116,163,194,41,249,169],[16,165,61,90,34,101,66,39,9,179,6,2,90,243,140,110,154,165,206,43,233,68,70,8,11],[234,230,151,18,15,70,18,94,170,185,103,207,140,194,73,45,240,94,238,202,45,181,231,74,100],[93,157,117,129,100,102,151,37,142,24,195,236,119,121,156,62,96,20,140,202,137,110,136,203,133],[34,56,244,228,180,109,49,144,4,202,26,66,171,139,244,245,65,98,96,38,169,12,38,158,59],[93,79,212,48,179,15,215,149,126,233,223,17,202,226,95,109,96,28,47,201,229,125,122,118,247]]
theorem certL25_head:certL25.head?=some (2^1024):=by decide +kernel
theorem certL25_len:certL25.length=25:=by unfold certL25;rw[List.length_map];rfl
theorem Zrw:Zxl (2^1024) certL25 Zs9 (2^17) (2^521)=true:=by decide +kernel
theorem Zu7:Qav (2^1024) certL25 Zs9 Zx5 251=true:=by decide +kernel
theorem cert25_zero(k:List Int)(hk:k.length=certL25.length)(hK:∀ x∈k,x.natAbs≤2^17)(hS:(dotI certL25 k).natAbs<2^521):∀ x∈k,x=0:=Znc Zrw Zu7 k hk hK hS
end Go.Proofs.YtnjedhgcfeoemaaGreatDoor.LN

namespace Go.Proofs.YtnjedhgcfeoemaaGreatDoor
open Go.RowKit
theorem LN.ends_decide_of{pr:List Int}{f:Int→Nat}{K S:Nat}(hz:∀ k:List Int,k.length=pr.length→(∀ x∈k,x.natAbs≤K)→(LN.dotI (pr.map fun p=>(f p:Int)) k).natAbs<S→∀ x∈k,x=0)(hp:pr.Nodup)(l:List (Int×Int))(hl:l.length*K≤S)(hne:l≠[])
  (hm:∀ x∈l,x.1∈pr∧x.2≠0∧x.2.natAbs≤K) (hd:(l.map Prod.fst).Nodup):LN.hiS f (LN.negT l)≤LN.loS f l∨LN.hiS f l≤LN.loS f (LN.negT l):=by
 have h1:=LN.hiS_le f K l fun x hx=>(hm x hx).2.2
 have h2:=LN.hiS_le f K (LN.negT l) (by
  intro x hx;obtain⟨y,hy,rfl⟩:=List.mem_map.1 hx;have:=(hm y hy).2.2
  show (-y.2).natAbs≤K
  omega)
 have e:(LN.negT l).length=l.length:=by simp[LN.negT]
 rw[e] at h2;have h3:=LN.sumT_eq f l
 by_cases hT:(LN.sumT f l).natAbs<S
 ·exfalso;rw[← LN.dotI_coef f pr hp l fun x hx=>(hm x hx).1] at hT
  have h4:=hz (pr.map fun p=>LN.coefP p l) (by simp) (by
   intro x hx;obtain⟨p,_,rfl⟩:=List.mem_map.1 hx;exact LN.coefP_le K l hd (fun y hy=>(hm y hy).2.2) p) hT
  match l,hne with
  | x::r,_ =>
   have h5:=h4 _ (List.mem_map.2 ⟨x.1,(hm x List.mem_cons_self).1,rfl⟩);rw[LN.coefP_mem _ hd x List.mem_cons_self] at h5;exact(hm x List.mem_cons_self).2.1 h5
 ·omega
theorem Zm9:∀ x∈LN.certL25,(0:Int)≤x:=by decide +kernel
theorem Zpt:Yt.map (fun p=>LN.lg p p.log2 1024 1120)=LN.certL25.tail.map fun x=>some x.toNat:=by decide +kernel
theorem Zqb:Zjn.map (fun p=>((lf 1024 p:Nat):Int))=LN.certL25:=by
 have h:=Zpt;have h0:=LN.certL25_head;have hp:=Zm9;obtain⟨c0,ct,e⟩:∃ c0 ct,LN.certL25=c0::ct:=⟨_,_,rfl⟩;rw[e] at h h0 hp ⊢;rw[Zos,List.map_cons];simp only[List.head?_cons,Option.some.injEq] at h0;rw[Zwr,h0];congr 1;rw[List.tail_cons] at h;rw[List.map_map];have hp':∀ x∈ct,(0:Int)≤x:=fun x hx=>hp x (List.mem_cons_of_mem _ hx)
 clear hp h0 e;have key:∀ (l:List Nat) (ct:List Int),(∀ p∈l,p∈Yt)→(∀ x∈ct,(0:Int)≤x)→l.map (fun p=>LN.lg p p.log2 1024 1120)=ct.map (fun x=>some x.toNat)→l.map ((fun p=>((lf 1024 p:Nat):Int)) ∘ fun p=>((p:Nat):Int))=ct:=by
  intro l
  induction l with
  | nil =>
   intro ct _ _ h;cases ct with
   | nil=>rfl
   | cons x r=>simp at h
  | cons p l ih =>
   intro ct hl hc h;cases ct with
   | nil=>simp at h
   | cons x r =>
    simp only[List.map_cons,List.cons.injEq] at h;rw[List.map_cons,ih r (fun q hq=>hl q (List.mem_cons_of_mem _ hq)) (fun y hy=>hc y (List.mem_cons_of_mem _ hy)) h.2]
    congr 1;have:=Zwp (hl p (List.mem_cons_self ..)) (by decide) h.1
    have hx:=hc x (List.mem_cons_self ..)
    show ((lgN p 1024:Nat):Int)=x
    rw[this];omega
 exact key Yt ct (fun _ h=>h) hp' h
def Ke:Nat:=2^17
theorem Zjf{tl:List (Int×Int)}(h1:∀ x∈tl,x.1∈Zjn)(h0:∀ x∈tl,x.2≠0)(hd:(tl.map Prod.fst).Nodup)(hk:∀ x∈tl,x.2.natAbs≤Ke)(hl:tl.length≤100)(hne:tl≠[]):Dec tl:=by
 have hS:=@Zht tl.length 17 521 hl (by decide)
 have hz:∀ k:List Int,k.length=Zjn.length→(∀ x∈k,x.natAbs≤Ke)→(LN.dotI (Zjn.map fun p=>((lf 1024 p:Nat):Int)) k).natAbs<2^521→∀ x∈k,x=0:=by
  intro k hk hK hT;rw[Zqb] at hT;exact LN.cert25_zero k (by rw[hk,LN.certL25_len];rfl) hK hT
 have:=LN.ends_decide_of hz (by decide) tl hS hne (fun x hx=>⟨h1 x hx,h0 x hx,hk x hx⟩) hd
 unfold Dec;rw[LN.eLo_eq,LN.eHi_eq];omega
theorem Zw1.all{ps:List Int}{l:List Rat}(h1:∀ p∈ps,p∈Zjn)(h2:ps.Nodup)(hk:∀ x∈tlQ ps l,x.2.natAbs≤Ke):Zw1 ps l :=
 ⟨h1,h2,fun x hx=>Nat.le_trans (hk x hx) (by decide),fun hn hne=>Zjf (fun _ hx=>h1 _ (Zn hx).1) (Znj h1 h2).nz (Znj h1 h2).nd hk (Zhg hn) hne⟩
end Go.Proofs.YtnjedhgcfeoemaaGreatDoor

namespace Go.Proofs.YtnjedhgcfeoemaaGreatDoor.LN
end Go.Proofs.YtnjedhgcfeoemaaGreatDoor.LN

namespace Go.Proofs.YtnjedhgcfeoemaaGreatDoor.LN
end Go.Proofs.YtnjedhgcfeoemaaGreatDoor.LN

namespace Go.Proofs.YtnjedhgcfeoemaaGreatDoor
open Go.RowKit
end Go.Proofs.YtnjedhgcfeoemaaGreatDoor

namespace Go.Proofs.YtnjedhgcfeoemaaGreatDoor
open Go.RowKit
def flE (xl xh yl yh g d:Int):Option Int:=if yl≤0 then none else if LN.quoL xl yl yh g d=LN.quoH xh yl yh g d then some (LN.quoL xl yl yh g d) else none
def flS (xl xh yl yh g d:Int):Option Int:=if yh≤0 then flE (-xh) (-xl) (-yh) (-yl) g d else flE xl xh yl yh g d
def Zso (n:Nat) (tx ty:List (Int×Int)) (d g:Nat):Option Int:=flS (LN.eLo (lf n) tx) (LN.eHi (lf n) tx) (LN.eLo (lf n) ty) (LN.eHi (lf n) ty) g d
theorem Zsw(f:Int→Nat):∀ l:List (Int×Int),LN.eLo f l≤LN.eHi f l
 | []=>Int.le_refl _
 | x::l=>by
  have ih:=Zsw f l;have e1:LN.eLo f (x::l)=(if x.2<0 then x.2*(LN.hiL f x.1:Int) else x.2*(f x.1:Int))+LN.eLo f l:=by simp[LN.eLo]
  have e2:LN.eHi f (x::l)=(if x.2<0 then x.2*(f x.1:Int) else x.2*(LN.hiL f x.1:Int))+LN.eHi f l:=by simp[LN.eHi]
  have hle:f x.1≤LN.hiL f x.1:=by unfold LN.hiL;split<;>omega
  rw[e1,e2]
  by_cases hk:x.2<0
  ·have h1:x.2*(LN.hiL f x.1:Int)≤x.2*(f x.1:Int):=Int.mul_le_mul_of_nonpos_left (by omega) (by omega)
   rw[if_pos hk,if_pos hk];omega
  ·have h1:x.2*(f x.1:Int)≤x.2*(LN.hiL f x.1:Int):=Int.mul_le_mul_of_nonneg_left (by omega) (by omega)
   rw[if_neg hk,if_neg hk];omega
theorem Zve{xl xh yl yh g d q:Int}(h:flE xl xh yl yh g d=some q):0<yl∧LN.quoL xl yl yh g d=q∧LN.quoH xh yl yh g d=q:=by
 unfold flE at h;split at h
 ·cases h
 ·rename_i h1
  split at h
  ·rename_i h2
   have h3:LN.quoL xl yl yh g d=q:=by simpa using h
   exact⟨by omega,h3,by rw[← h2];exact h3⟩
  ·cases h
theorem Qbi(w:World)(a b:Int)(K:Nat)(hK:K<90000)(ha:a.natAbs<2^K)(hb:b.natAbs<2^K)(h0:0<b)(L:Qb w):Kc Tryz.prog 163 #[.string (itx a),.string (itx b)] w (.tuple #[.string (itx (a/b)),.string (itx (a%b)),.int .i64 0]):=by
 obtain⟨n,rfl⟩:=Int.eq_ofNat_of_zero_le (Int.le_of_lt h0);have hs:Num (a.natAbs+1):=Ve (K:=K+1) (by rw[Nat.pow_succ];omega) (by omega)
 have:=Yc w a n (Ve ha (by omega)) (Ve hb (by omega)) (by omega) hs L
 rw[Kj];exact this
theorem Zub(a b:Int):((itx a).toList==(itx b).toList)=decide (a=b):=by
 by_cases h:a=b
 ·subst h;simp
 ·rw[decide_eq_false h,beq_eq_false_iff_ne];intro e;rw[Vj,Vj] at e;exact h (Zi3 (by
   have h1:(itx a).data.toList=(itx b).data.toList:=e;exact ByteArray.ext (Array.toList_inj.1 h1)))
theorem Zir:∀ k,k<10→(∀ p∈Zas k,p∈Zhl)∧(Zas k).Nodup:=by decide +kernel
def Sml (N M:Nat) (l:List Rat):Prop:=∀ q∈l,q.den ∣ M∧(LN.ex M q).natAbs≤N
theorem Sml.le{N K M:Nat}{l:List Rat}(h:Sml N M l)(hK:N≤K):Sml K M l:=fun q hq=>⟨(h q hq).1,Nat.le_trans (h q hq).2 hK⟩
theorem Zzv{M:Nat}{q:Rat}(z:Int)(hM:0<M)(h:q*(M:Rat)=(z:Rat)):q.den ∣ M∧LN.ex M q=z:=by
 have hM':(M:Rat)≠0:=by have:=Rat.natCast_pos.2 hM;grind
 have e:q=mkRat z M:=by
  rw[Rat.mkRat_eq_div];have:=Rat.mul_div_cancel (a:=q) hM'
  rw[← h];exact this.symm
 have hd:q.den ∣ M:=by
  rw[e,LN.mkRat_den' _ _ (by omega)]
  exact Nat.div_dvd_of_dvd (Nat.gcd_dvd_right _ _)
 refine⟨hd,?_⟩;rw[← Rat.intCast_inj,LN.ex_eq hd,h]
theorem Sml.comb{N K M:Nat}{la lb:List Rat}(hM:0<M)(ha:Sml N M la)(hb:Sml K M lb)(f g:Int):Sml (N*f.natAbs+K*g.natAbs) M (Yk la lb (f:Rat) (g:Rat)):=by
 intro q hq;obtain⟨i,hi,rfl⟩:=List.mem_iff_getElem.1 hq;have hi':i<la.length∧i<lb.length:=by simp[Yk] at hi;omega
 simp only[Yk,List.getElem_zipWith];obtain⟨d1,n1⟩:=ha _ (List.getElem_mem hi'.1);obtain⟨d2,n2⟩:=hb _ (List.getElem_mem hi'.2);have h:(la[i]'hi'.1*(f:Rat)+lb[i]'hi'.2*(g:Rat))*(M:Rat)=((LN.ex M (la[i]'hi'.1)*f+LN.ex M (lb[i]'hi'.2)*g:Int):Rat):=by
  rw[Rat.intCast_add,Rat.intCast_mul,Rat.intCast_mul,LN.ex_eq d1,LN.ex_eq d2]
  grind
 obtain⟨r1,r2⟩:=Zzv _ hM h;refine⟨r1,?_⟩;rw[r2];refine Nat.le_trans (Int.natAbs_add_le _ _) ?_;rw[Int.natAbs_mul,Int.natAbs_mul];exact Nat.add_le_add (Nat.mul_le_mul_right _ n1) (Nat.mul_le_mul_right _ n2)
theorem Sml.kb{N M:Nat}{ps:List Int}{l:List Rat}(hM:0<M)(h:Sml N M l):∀ x∈tlQ ps l,x.2.natAbs≤N:=by
 intro x hx;obtain⟨_,q,hq,_,he⟩:=Zn hx;have e:x.2=LN.ex (Qc l) q:=he;obtain⟨m,hm⟩:=LN.tden_min (fun q hq=>(h q hq).1)
 have h3:=(h q hq).2;rw[hm,Nat.mul_comm,LN.ex_mul (LN.tden_dvd hq),Int.natAbs_mul,Int.natAbs_natCast] at h3;have hm0:0<m:=by
  rcases Nat.eq_zero_or_pos m with h0|h0
  ·rw[h0,Nat.mul_zero] at hm;omega
  ·exact h0
 rw[e];have h4:1*(LN.ex (Qc l) q).natAbs≤m*(LN.ex (Qc l) q).natAbs:=Nat.mul_le_mul_right _ hm0;omega
theorem Sml.den{N:Nat}{l:List Rat}(h:Sml N 12 l):Qc l≤12:=Nat.le_of_dvd (by decide) (LN.tden_min (fun q hq=>(h q hq).1))
/-! The numbers of the law. -/
def Zes (w:World) (B:Nat) (a:Option Addr) (c:Nat) (l:List Int):Prop:=w.ownsRow B 3 1 (.slice a l.length c) l.length (Vc l)
theorem Zes.rd{w:World}{B c:Nat}{a:Option Addr}{l:List Int}(h:Zes w B a c l):Rd w a (Vc l):=Zrn h
theorem Zes.below{w w':World}{B c:Nat}{a:Option Addr}{l:List Int}(h:Zes w B a c l){D:Nat}(hb:Below D w w')(hD:w.heap.size≤D):Zes w' B a c l:=Vu h hb hD
theorem Zes.nil(w:World)(B:Nat):Zes w B none 0 []:=World.ownsRow_nil w B _ 1
theorem Zyg{p:Int}(h:p∈Zjn):2≤p∧p≤97:=by
 have key:∀ q∈Zjn,2≤q∧q≤97:=by decide
 exact key p h
structure Zyn (ps:List Int):Prop where
 p0:Vp ps=0
 all:∀ p∈ps,p∈Zjn
 nd:ps.Nodup
 n0:0<ps.length
 n6:ps.length≤6
theorem Zyn.pr{ps:List Int}(P:Zyn ps):∀ p∈ps,2≤p∧p≤97:=fun p hp=>Zyg (P.all p hp)
theorem Zyn.pos{ps:List Int}(P:Zyn ps):∀ p∈ps,0<p:=fun p hp=>by have:=P.pr p hp;omega
theorem Zyn.i64{ps:List Int}(P:Zyn ps):Zjq ps:=fun p hp=>by have:=P.pr p hp;omega
def rq (x:List Int):List Rat:=x.map fun x:Int=>(x:Rat)
def Bd (N:Nat) (x:List Int):Prop:=∀ a∈x,a.natAbs≤N
theorem Bd.le{N K:Nat}{x:List Int}(h:Bd N x)(hK:N≤K):Bd K x:=fun a ha=>Nat.le_trans (h a ha) hK
theorem Bd.sm{N D:Nat}{x:List Int}(h:Bd N x)(hD:N<10^D)(h1:1<10^D):∀ q∈rq x,Sm D q:=fun q hq=>by
 obtain⟨a,ha,rfl⟩:=List.mem_map.1 hq;exact⟨by rw[Rat.num_intCast];exact Nat.lt_of_le_of_lt (h a ha) hD,by rw[Rat.den_intCast];exact h1⟩
def Zjj (p n:Int):Int:=if Zqk p then (if n<0∨1000<n then 3 else 0) else 25
theorem Zzn{p:Int}(h:Zqk p):2≤p∧p≤97:=by
 obtain⟨h0,h1,h2,-⟩:=h;omega
theorem Zgv(w:World)(p n:Int)(p0 : -9223372036854775808≤p)(p1:p≤9223372036854775807)(n0 : -9223372036854775808≤n)(n1:n≤9223372036854775807):
  Kc Tryz.prog 66 #[.int .i64 p,.int .i64 n] w (.int .i64 (Zjj p n)):=by
 unfold Kc;have HP:=hd_ (Zez w p p0 p1)
 by_cases h:Zqk p
 ·rw[decide_eq_true h] at HP;have Hv:Hid (Zjj p n=if n<0∨1000<n then 3 else 0):=by show _=_;unfold Zjj;rw[if_pos h]
  generalize Zjj p n=v at *
  clear h
  by_cases h1:n<0
  ·have Hv2:Hid (v=3):=by show _=_;rw[Hv.out,if_pos (.inl h1)]
   clear Hv;go_enter Tryz.func66,Tryz.ntmps66
   go_wp2_with fail
   refine cm_ HP.out ?_;rintro e w1 ⟨rfl,hb⟩;have B1:=hd_ hb;clear hb HP
   go_wp2_with fail
   go_ret;exact⟨by rw[Hv2.out];rfl,B1.out⟩
  ·by_cases h2:1000<n
   ·have Hv2:Hid (v=3):=by show _=_;rw[Hv.out,if_pos (.inr h2)]
    clear Hv;go_enter Tryz.func66,Tryz.ntmps66
    go_wp2_with fail
    refine cm_ HP.out ?_;rintro e w1 ⟨rfl,hb⟩;have B1:=hd_ hb;clear hb HP
    go_wp2_with fail
    go_ret;exact⟨by rw[Hv2.out];rfl,B1.out⟩
   ·have Hv2:Hid (v=0):=by show _=_;rw[Hv.out,if_neg (by omega)]
    clear Hv;go_enter Tryz.func66,Tryz.ntmps66
    go_wp2_with fail
    refine cm_ HP.out ?_;rintro e w1 ⟨rfl,hb⟩;have B1:=hd_ hb;clear hb HP
    go_wp2_with fail
    go_ret;exact⟨by rw[Hv2.out];rfl,B1.out⟩
 ·rw[decide_eq_false h] at HP;have Hv2:Hid (Zjj p n=25):=by show _=_;unfold Zjj;rw[if_neg h]
  generalize Zjj p n=v at *
  clear h;go_enter Tryz.func66,Tryz.ntmps66
  go_wp2_with fail
  refine cm_ HP.out ?_;rintro e w1 ⟨rfl,hb⟩;have B1:=hd_ hb;clear hb HP
  go_wp2_with fail
  go_ret;exact⟨by rw[Hv2.out];rfl,B1.out⟩
def Qa0 (p n:Int) (s:ByteArray):Value := .agg #[.int .i64 p,.int .i64 n,.string s]
theorem Znr(w:World)(n:Nat)(hn:n≤4000)(L:Qb w):Kc Tryz.prog 152 #[.int .i64 n] w (.string (dec (2^n))):=by
 unfold Kc;have HP:=hd_ (Ztz w n hn L);generalize dec (2^n)=s at *
 go_enter Tryz.func152,Tryz.ntmps152
 go_wp2_with fail
 refine cm_ HP.out ?_;rintro e w1 ⟨rfl,hb⟩;have B1:=hd_ hb;clear hb HP
 go_wp2_with fail
 go_ret;exact⟨rfl,B1.out⟩
theorem Zev{w0 w:World}{B g:Nat}{a b c:Value}(x y z:Value)(k0:w.cell? ⟨g,0,none⟩=some a)(k1:w.cell? ⟨g,1,none⟩=some b)(k2:w.cell? ⟨g,2,none⟩=some c)(hB:B≤g)(hb:Below B w0 w):
  (((w.setCell ⟨g,0,none⟩ x).setCell ⟨g,1,none⟩ y).setCell ⟨g,2,none⟩ z).cell? ⟨g,0,none⟩=some x∧(((w.setCell ⟨g,0,none⟩ x).setCell ⟨g,1,none⟩ y).setCell ⟨g,2,none⟩ z).cell? ⟨g,1,none⟩=some y∧(((w.setCell ⟨g,0,none⟩ x).setCell ⟨g,1,none⟩ y).setCell ⟨g,2,none⟩ z).cell? ⟨g,2,none⟩=some z ∧
  Below B w0 (((w.setCell ⟨g,0,none⟩ x).setCell ⟨g,1,none⟩ y).setCell ⟨g,2,none⟩ z):=by
 refine⟨?_,?_,?_,?_⟩
 ·rw[World.cell?_setCell_other _ _ _ _ (by simp),World.cell?_setCell_other _ _ _ _ (by simp),World.cell?_setCell_same _ _ _ k0]
 ·rw[World.cell?_setCell_other _ _ _ _ (by simp),World.cell?_setCell_same _ _ _ (by rw[World.cell?_setCell_other _ _ _ _ (by simp)];exact k1)]
 ·rw[World.cell?_setCell_same _ _ _ (by rw[World.cell?_setCell_other _ _ _ _ (by simp),World.cell?_setCell_other _ _ _ _ (by simp)];exact k2)]
 ·exact((hb.setCell (p:=⟨g,0,none⟩) hB x).setCell (p:=⟨g,1,none⟩) hB y).setCell (p:=⟨g,2,none⟩) hB z
theorem Zzw(w:World)(p n:Nat)(hp:p=2∨p∈Yt)(hpz:Zqk p)(hn:n≤1000)(L:Qb w):
  Kc Tryz.prog 17 #[.int .i64 p,.int .i64 n] w (.tuple #[Qa0 p n (dec (lgN p n)),.int .i64 0]):=by
 unfold Kc Qa0;have Hb0:=hd_ ((Below.refl w.heap.size w).alloc nr_ (.cells #[.int .i64 0,.int .i64 0,.string ⟨#[]⟩] 27));have Hnew:Hid ((w.alloc (.cells #[.int .i64 0,.int .i64 0,.string ⟨#[]⟩] 27)).heap[w.heap.size]?=some (.cells #[.int .i64 0,.int .i64 0,.string ⟨#[]⟩] 27 (0,0))):=heap_alloc_new w _;have h97:=Zzn hpz;have HC:=hd_ (fun W=>Zgv W p n (by omega) (by omega) (by omega) (by omega))
 have hb0:Zjj p n=0:=by unfold Zjj;rw[if_pos hpz,if_neg (by omega)]
 rw[hb0] at HC;have HLo:=hd_ (fun W (hW:Below w.heap.size w W)=>Zoc W p n hp hn (L.below hW))
 clear hb0 hp hpz L h97 hn;generalize dec (lgN p n)=s at *
 go_enter Tryz.func17,Tryz.ntmps17
 go_wp2_with fail
 generalize w.alloc (.cells #[.int .i64 0,.int .i64 0,.string ⟨#[]⟩] 27)=W0 at *
 refine cm_ (HC.out _) ?_;rintro e w1 ⟨rfl,hb⟩;have B1:=hd_ hb;have Hbw1:=hd_ (Hb0.out.trans (hb.mono Hb0.out.size));clear hb HC
 go_wp2_with fail
 refine cm_ (HLo.out _ Hbw1.out) ?_;rintro e w2 ⟨rfl,hb⟩;have B2:=hd_ (B1.out.trans (hb.mono B1.out.size));have Hcell:Hid (w2.heap[w.heap.size]?=some (.cells #[.int .i64 0,.int .i64 0,.string ⟨#[]⟩] 27 (0,0))):=by
  show _=_
  rw[B2.out.block _ (Array.getElem?_eq_some_iff.1 Hnew.out).1];exact Hnew.out
 have Hbw:=hd_ (Hbw1.out.trans (hb.mono Hbw1.out.size));obtain⟨k0,k1,k2,kf⟩:=Ki Hcell.out;have f0:=kf 0;have f1:=kf 1;have f2:=kf 2;clear hb HLo kf Hcell Hnew Hb0 B1 B2 Hbw1;go_wp2;obtain⟨c0,c1,c2,hb3⟩:=Zev (.int .i64 p) (.int .i64 n) (.string s) k0 k1 k2 nr_ Hbw.out;generalize ((w2.setCell ⟨w.heap.size,0,none⟩ (.int .i64 p)).setCell ⟨w.heap.size,1,none⟩ (.int .i64 n)).setCell ⟨w.heap.size,2,none⟩ (.string s)=w9 at *
 exact bodyPost_ret (v := .tuple #[.agg #[.int .i64 p,.int .i64 n,.string s],.int .i64 0]) (by simp[results,Tryz.results17,go_sem,c0,c1,c2]) rfl ⟨rfl,hb3⟩
theorem Zby(z:Int)(d:Nat)(hd:0<d):mkRat z d*(d:Rat)=(z:Rat):=by
 rw[Rat.mkRat_eq_div];exact Rat.div_mul_cancel (by have:=Rat.natCast_pos.2 hd;grind)
structure Ztw (w:World) (s t s' t':ByteArray) (W0:World):Prop where
 fa:W0.heap[w.heap.size]?=some (.cells #[.string s,.string t] 42 (0,0))
 fb:W0.heap[w.heap.size+1]?=some (.cells #[.string s',.string t'] 42 (0,0))
 bel:Below w.heap.size w W0
theorem Ztw.mk'(w:World)(s t s' t':ByteArray):Ztw w s t s' t' ((w.alloc (.cells #[.string s,.string t] 42)).alloc (.cells #[.string s',.string t'] 42)):=by
 have hA:=heap_alloc_new w (.cells #[.string s,.string t] 42);have hB:=heap_alloc_new (w.alloc (.cells #[.string s,.string t] 42)) (.cells #[.string s',.string t'] 42);have e1:(w.alloc (.cells #[.string s,.string t] 42)).heap.size=w.heap.size+1:=by simp
 refine⟨?_,?_,?_⟩
 ·exact Kk hA ((Below.refl _ _).alloc nr_ _)
 ·rw[e1] at hB;exact hB
 ·exact((Below.refl _ _).alloc nr_ _).alloc (by simp) _
theorem Ztw.next{w W0 W:World}{s t s' t':ByteArray}(h:Ztw w s t s' t' W0)(hb:Below W0.heap.size W0 W):Ztw w s t s' t' W :=
 ⟨Kk h.fa hb,Kk h.fb hb,h.bel.trans (hb.mono h.bel.size)⟩
theorem Zvs{n m:Int}{d:Nat}(h:0<d):Zd1 (n*d) (m*d)=Zd1 n m:=by
 have h':(0:Int)<d:=by omega
 unfold Zd1;have e1:n*(d:Int)<m*d↔n<m:=Int.mul_lt_mul_right h';have e2:n*(d:Int)=m*d↔n=m:=⟨fun h1=>Int.eq_of_mul_eq_mul_right (by omega) h1,fun h1=>by rw[h1]⟩
 by_cases h1:n<m
 ·rw[if_pos h1,if_pos (e1.2 h1)]
 ·rw[if_neg h1,if_neg (fun h=>h1 (e1.1 h))]
  by_cases h2:n=m
  ·rw[if_pos h2,if_pos (e2.2 h2)]
  ·rw[if_neg h2,if_neg (fun h=>h2 (e2.1 h))]
theorem Zww{d e:Nat}(h:d≠e):((dec d).toList==(dec e).toList)=false:=by
 rw[beq_eq_false_iff_ne];intro h1;refine h (Zm4 ?_);rw[← Vw,← Vw];rw[← Vj,← Vj];exact h1
theorem Zk2(w:World)(n m:Int)(d e:Nat)(hn:Za7 n)(hm:Za7 m)(hd:Num d)(he:Num e)(hd0:0<d)
  (hne:Num (n*e).natAbs) (hmd:Num (m*d).natAbs) (L:Qb w) :
  Kc Tryz.prog 43 #[fv n d,fv m e] w (.int .i64 (Zd1 (n*e) (m*d))):=by
 have H3:=hd_ (Ztw.mk' w (itx n) (dec d) (itx m) (dec e));have HL:=hd_ (L.below H3.out.bel);clear L;obtain⟨v,hv⟩:∃ v,Zd1 (n*e) (m*d)=v:=⟨_,rfl⟩;have Hv:=hd_ hv;rw[hv];unfold Kc;have Hm1:Hid (∀ W,Below ((w.alloc (.cells #[.string (itx n),.string (dec d)] 42)).alloc (.cells #[.string (itx m),.string (dec e)] 42)).heap.size ((w.alloc (.cells #[.string (itx n),.string (dec d)] 42)).alloc (.cells #[.string (itx m),.string (dec e)] 42)) W→∀ d' os,Calls Tryz.prog 115 #[.string (itx n),.string (dec e)] (Go.Sort.grow (redrawn W d') os) fun e' w'=>e' = .returned (.string (itx (n*e)))∧∃ p:Regrown,w'=Go.Sort.grow (redrawn W p.d) p.os):=fun W hW d' os=>by
  have:=Yu (Go.Sort.grow (redrawn W d') os) n (e:Int) hn (show Num _ from he) hne ((HL.out.below hW).below (below_regrown W d' os))
  rw[Kj] at this;exact Calls.regrown_of this
 have Hm2:Hid (∀ W,Below ((w.alloc (.cells #[.string (itx n),.string (dec d)] 42)).alloc (.cells #[.string (itx m),.string (dec e)] 42)).heap.size ((w.alloc (.cells #[.string (itx n),.string (dec d)] 42)).alloc (.cells #[.string (itx m),.string (dec e)] 42)) W→∀ d' os,Calls Tryz.prog 115 #[.string (itx m),.string (dec d)] (Go.Sort.grow (redrawn W d') os) fun e' w'=>e' = .returned (.string (itx (m*d)))∧∃ p:Regrown,w'=Go.Sort.grow (redrawn W p.d) p.os):=fun W hW d' os=>by
  have:=Yu (Go.Sort.grow (redrawn W d') os) m (d:Int) hm (show Num _ from hd) hmd ((HL.out.below hW).below (below_regrown W d' os))
  rw[Kj] at this;exact Calls.regrown_of this
 have Hm3:Hid (∀ W d' os,Calls Tryz.prog 114 #[.string (itx (n*e)),.string (itx (m*d))] (Go.Sort.grow (redrawn W d') os) fun e' w'=>e' = .returned (.int .i64 v)∧∃ p:Regrown,w'=Go.Sort.grow (redrawn W p.d) p.os):=fun W d' os=>by
  have:=Zco (Go.Sort.grow (redrawn W d') os) (n*e) (m*d) hne hmd
  rw[hv] at this;exact Calls.regrown_of this
 have Hm4:Hid (d=e→∀ W,Kc Tryz.prog 114 #[.string (itx n),.string (itx m)] W (.int .i64 v)):=fun h W=>by
  have:=Zco W n m hn hm
  rw[← Zvs hd0,show ((d:Nat):Int)=d from rfl] at this
  subst h;rw[hv] at this;exact this
 clear hv
 by_cases h1:(itx n).size≤9∧(dec d).size≤9
 ·have Hc1:=hd_ (Zi n d hn hd h1)
  by_cases h2:(itx m).size≤9∧(dec e).size≤9
  ·have Hc2:=hd_ (Zi m e hm he h2);have q1:=Za n 9 (by decide) h1.1
   have q2:=Za m 9 (by decide) h2.1
   have q3:=(Kr d 9 (by decide)).1 (by rw[← Kw];exact h1.2)
   have q4:=(Kr e 9 (by decide)).1 (by rw[← Kw];exact h2.2)
   have q5:(n*e).natAbs≤1000000000*1000000000:=by rw[Int.natAbs_mul];exact Nat.mul_le_mul (by omega) (by omega)
   have q7:(m*d).natAbs≤1000000000*1000000000:=by rw[Int.natAbs_mul];exact Nat.mul_le_mul (by omega) (by omega)
   have hw1:IntKind.i64.wrap (n*e)=n*e:=iw_ _ (by omega)
   have hw3:IntKind.i64.wrap (m*d)=m*d:=iw_ _ (by omega)
   have hlow:n*e<m*d→v = -1:=fun h=>by rw[← Hv.out];unfold Zd1;rw[if_pos h]
   have hhigh:m*d<n*e→v=1:=fun h=>by rw[← Hv.out];unfold Zd1;rw[if_neg (by omega),if_neg (by omega)]
   have hsame:n*e=m*d→v=0:=fun h=>by rw[← Hv.out];unfold Zd1;rw[if_neg (by omega),if_pos h]
   unfold fv at Hc1 Hc2 ⊢;have Hlow:=hd_ hlow;have Hhigh:=hd_ hhigh;have Hsame:=hd_ hsame;clear Hm1 Hm2 Hm3 Hm4 q1 q2 q3 q4 q5 q7 h1 h2 hne hmd hlow hhigh hsame Hv;go_enter Tryz.func43,Tryz.ntmps43;obtain⟨k0,k1,-,-⟩:=Ka H3.out.fa;obtain⟨k2,k3,-,-⟩:=Ka H3.out.fb
   go_wp2_with fail
   generalize (w.alloc (.cells #[.string (itx n),.string (dec d)] 42)).alloc (.cells #[.string (itx m),.string (dec e)] 42)=W0 at *
   clear k0 k1 k2 k3;refine cm_ (Hc1.out _) ?_;rintro e_ w1 ⟨rfl,hb1⟩;have Hb1:=hd_ hb1;clear hb1 Hc1;obtain⟨k0,k1,-,-⟩:=Ka (H3.out.next Hb1.out).fa;obtain⟨k2,k3,-,-⟩:=Ka (H3.out.next Hb1.out).fb
   go_wp2_with fail
   clear k0 k1 k2 k3;refine cm_ (Hc2.out _) ?_;rintro e_ w2 ⟨rfl,hb2⟩;have Hb2:=hd_ (Hb1.out.trans (hb2.mono Hb1.out.size));clear hb2 Hb1 Hc2;have B5:=hd_ (H3.out.bel.trans (Hb2.out.mono H3.out.bel.size))
   by_cases c1:n*(e:Int)<m*(d:Int)
   ·go_wp2_with fail
    go_ret;exact⟨by rw[Hlow.out c1];rfl,B5.out⟩
   ·by_cases c2:m*(d:Int)<n*(e:Int)
    ·go_wp2_with fail
     go_ret;exact⟨by rw[Hhigh.out c2];rfl,B5.out⟩
    ·go_wp2_with fail
     go_ret;exact⟨by rw[Hsame.out (by omega)];rfl,B5.out⟩
  ·obtain⟨x,y,hc2⟩:=Zj m e hm he h2;have Hc2:=hd_ hc2;unfold fv at Hc1 Hc2 ⊢;clear h1 h2 hc2 hne hmd;go_enter Tryz.func43,Tryz.ntmps43;obtain⟨k0,k1,-,-⟩:=Ka H3.out.fa;obtain⟨k2,k3,-,-⟩:=Ka H3.out.fb
   go_wp2_with fail
   generalize (w.alloc (.cells #[.string (itx n),.string (dec d)] 42)).alloc (.cells #[.string (itx m),.string (dec e)] 42)=W0 at *
   clear k0 k1 k2 k3;refine cm_ (Hc1.out _) ?_;rintro e_ w1 ⟨rfl,hb1⟩;have Hb1:=hd_ hb1;clear hb1 Hc1;obtain⟨k0,k1,-,-⟩:=Ka (H3.out.next Hb1.out).fa;obtain⟨k2,k3,-,-⟩:=Ka (H3.out.next Hb1.out).fb
   go_wp2_with fail
   clear k0 k1 k2 k3;refine cm_ (Hc2.out _) ?_;rintro e_ w2 ⟨rfl,hb2⟩;have Hb2:=hd_ (Hb1.out.trans (hb2.mono Hb1.out.size));clear hb2 Hb1 Hc2
   by_cases hde:d=e
   ·have Hq:=hd_ (Hm4.out hde);obtain⟨k0,k1,-,-⟩:=Ka (H3.out.next Hb2.out).fa;obtain⟨k2,k3,-,-⟩:=Ka (H3.out.next Hb2.out).fb;subst hde;clear Hm1 Hm2 Hm3 Hm4
    go_wp2_with fail
    clear k0 k1 k2 k3;refine cm_ (Hq.out _) ?_;rintro e_ w5 ⟨rfl,hb_⟩;have B5:=hd_ (H3.out.bel.trans ((Hb2.out.trans (hb_.mono Hb2.out.size)).mono H3.out.bel.size));clear hb_ Hq
    go_wp2_with fail
    go_ret;exact⟨rfl,B5.out⟩
   ·have hq:=Zww hde;obtain⟨k0,k1,-,-⟩:=Ka (H3.out.next Hb2.out).fa;obtain⟨k2,k3,-,-⟩:=Ka (H3.out.next Hb2.out).fb;have q0:=cell_regrown k0;have q1:=cell_regrown k1;have q2:=cell_regrown k2;have q3:=cell_regrown k3;have hM1:=Hm1.out w2 Hb2.out;have hM2:=Hm2.out w2 Hb2.out;have hM3:=Hm3.out w2;clear Hm1 Hm2 Hm3 Hm4 hde
    go_wp2_with fail
    clear k0 k1 k2 k3;refine wp_region_quiet_below (by kernel_rfl) (by kernel_rfl) ?_
    repeat (first | go_big_quiet_step (first | with_reducible exact hM1 _ _ | with_reducible exact hM2 _ _ | with_reducible exact hM3 _ _) | quiet_step (first | with_reducible exact hM1 _ _ | with_reducible exact hM2 _ _ | with_reducible exact hM3 _ _))
    refine wpQuiet_nil ?_;intro w8 hw8;obtain⟨⟨dq,osq⟩,rfl⟩:=hw8;have B5:=hd_ (H3.out.bel.trans ((Hb2.out.trans ((below_regrown w2 dq osq).mono Hb2.out.size)).mono H3.out.bel.size));generalize Go.Sort.grow (redrawn w2 dq) osq=w8 at *
    clear hM1 hM2 hM3 q0 q1 q2 q3;go_wp2;go_ret;exact⟨rfl,B5.out⟩
 ·obtain⟨x,y,hc1⟩:=Zj n d hn hd h1;have Hc1:=hd_ hc1;unfold fv at Hc1 ⊢;clear h1 hc1 hne hmd;go_enter Tryz.func43,Tryz.ntmps43;obtain⟨k0,k1,-,-⟩:=Ka H3.out.fa;obtain⟨k2,k3,-,-⟩:=Ka H3.out.fb
  go_wp2_with fail
  generalize (w.alloc (.cells #[.string (itx n),.string (dec d)] 42)).alloc (.cells #[.string (itx m),.string (dec e)] 42)=W0 at *
  clear k0 k1 k2 k3;refine cm_ (Hc1.out _) ?_;rintro e_ w1 ⟨rfl,hb1⟩;have Hb1:=hd_ hb1;clear hb1 Hc1
  by_cases hde:d=e
  ·have Hq:=hd_ (Hm4.out hde);obtain⟨k0,k1,-,-⟩:=Ka (H3.out.next Hb1.out).fa;obtain⟨k2,k3,-,-⟩:=Ka (H3.out.next Hb1.out).fb;subst hde;clear Hm1 Hm2 Hm3 Hm4
   go_wp2_with fail
   clear k0 k1 k2 k3;refine cm_ (Hq.out _) ?_;rintro e_ w5 ⟨rfl,hb_⟩;have B5:=hd_ (H3.out.bel.trans ((Hb1.out.trans (hb_.mono Hb1.out.size)).mono H3.out.bel.size));clear hb_ Hq
   go_wp2_with fail
   go_ret;exact⟨rfl,B5.out⟩
  ·have hq:=Zww hde;obtain⟨k0,k1,-,-⟩:=Ka (H3.out.next Hb1.out).fa;obtain⟨k2,k3,-,-⟩:=Ka (H3.out.next Hb1.out).fb;have q0:=cell_regrown k0;have q1:=cell_regrown k1;have q2:=cell_regrown k2;have q3:=cell_regrown k3;have hM1:=Hm1.out w1 Hb1.out;have hM2:=Hm2.out w1 Hb1.out;have hM3:=Hm3.out w1;clear Hm1 Hm2 Hm3 Hm4 hde
   go_wp2_with fail
   clear k0 k1 k2 k3;refine wp_region_quiet_below (by kernel_rfl) (by kernel_rfl) ?_
   repeat (first | go_big_quiet_step (first | with_reducible exact hM1 _ _ | with_reducible exact hM2 _ _ | with_reducible exact hM3 _ _) | quiet_step (first | with_reducible exact hM1 _ _ | with_reducible exact hM2 _ _ | with_reducible exact hM3 _ _))
   refine wpQuiet_nil ?_;intro w8 hw8;obtain⟨⟨dq,osq⟩,rfl⟩:=hw8;have B5:=hd_ (H3.out.bel.trans ((Hb1.out.trans ((below_regrown w1 dq osq).mono Hb1.out.size)).mono H3.out.bel.size));generalize Go.Sort.grow (redrawn w1 dq) osq=w8 at *
   clear hM1 hM2 hM3 q0 q1 q2 q3;go_wp2;go_ret;exact⟨rfl,B5.out⟩
def Zg8 (a b:Rat):Rat:=if b<a then b else a
def Zg9 (a b:Rat):Rat:=if a<b then b else a
theorem Zoj(w:World)(a b:Rat)(D E:Nat)(ha:Sm D a)(hb:Sm E b)(h6:D+E+2≤1000000)(L:Qb w):
  Kc Tryz.prog 43 #[fr a,fr b] w (.int .i64 (Zd1 (a.num*b.den) (b.num*a.den))):=by
 have p1:=ha.pos;have p2:=hb.pos;have h1:(a.num*(b.den:Int)).natAbs<10^(D+E):=by rw[Int.natAbs_mul,Int.natAbs_natCast];exact Qd ha.1 hb.2
 have h2:(b.num*(a.den:Int)).natAbs<10^(D+E):=by rw[Int.natAbs_mul,Int.natAbs_natCast,Nat.add_comm];exact Qd hb.1 ha.2
 exact Zk2 w a.num b.num a.den b.den (Ku ha.1 p1 (by omega)) (Ku hb.1 p2 (by omega)) (Ku ha.2 p1 (by omega)) (Ku hb.2 p2 (by omega)) a.den_pos
  (Ku h1 (by omega) (by omega)) (Ku h2 (by omega) (by omega)) L
theorem Zwn(a b:Rat):a<b↔a.num*b.den<b.num*a.den:=Rat.lt_iff a b
theorem Zs6(a b:Rat):(Zd1 (a.num*b.den) (b.num*a.den)<0↔a<b)∧(0<Zd1 (a.num*b.den) (b.num*a.den)↔b<a):=by
 rw[Zwn,Zwn];unfold Zd1;split
 ·constructor<;>omega
 ·split
  ·constructor<;>omega
  ·constructor<;>omega
theorem Zf6(w:World)(a b:Rat)(D E:Nat)(ha:Sm D a)(hb:Sm E b)(h6:D+E+2≤1000000)(L:Qb w):
  Kc Tryz.prog 111 #[fr a,fr b] w (fr (Zg8 a b)):=by
 obtain⟨v,hv⟩:∃ v,Zd1 (b.num*a.den) (a.num*b.den)=v:=⟨_,rfl⟩;have H3:=hd_ (Zhd.mk' w (itx a.num) (dec a.den) (itx b.num) (dec b.den));have HC:=hd_ (fun W hW=>Zoj W b a E D hb ha (by omega) (L.below (H3.out.next (W:=W) hW).bel))
 rw[hv] at HC;have hlt:=(Zs6 b a).1;rw[hv] at hlt;have Hmin:Hid (Zg8 a b=if v<0 then b else a):=by
  show _=_
  unfold Zg8
  by_cases h:v<0
  ·rw[if_pos h,if_pos (hlt.1 h)]
  ·rw[if_neg h,if_neg fun hc=>h (hlt.2 hc)]
 clear hv hlt L ha hb h6;unfold Kc;unfold fr fv at HC ⊢;go_enter Tryz.func111,Tryz.ntmps111;obtain⟨k0,k1,-,-⟩:=Ka H3.out.fa;obtain⟨k2,k3,-,-⟩:=Ka H3.out.fb
 go_wp2_with fail
 generalize ((w.alloc (.cells #[.string (itx a.num),.string (dec a.den)] 42)).alloc (.cells #[.string (itx b.num),.string (dec b.den)] 42)).alloc (.cells #[.string ⟨#[]⟩,.string ⟨#[]⟩] 42)=W0 at *
 clear k0 k1 k2 k3;refine cm_ (HC.out _ (Below.refl _ _)) ?_;rintro e w1 ⟨rfl,hb1⟩;have H4:=hd_ (H3.out.next hb1);clear hb1 HC H3;obtain⟨k0,k1,-,-⟩:=Ka H4.out.fa;obtain⟨k2,k3,-,-⟩:=Ka H4.out.fb;obtain⟨k4,k5,f4,f5⟩:=Ka H4.out.fr;have Hbw:=hd_ H4.out.bel;clear H4
 by_cases c1:v<0
 ·have hm:Zg8 a b=b:=by rw[Hmin.out,if_pos c1]
  have Hm:=hd_ hm;clear hm Hmin;go_wp2;obtain⟨c0,c1,hb3⟩:=Kq (B:=w.heap.size) (.string (itx b.num)) (.string (dec b.den)) k4 k5 (by omega) Hbw.out
  generalize (w1.setCell ⟨w.heap.size+1+1,0,none⟩ (.string (itx b.num))).setCell ⟨w.heap.size+1+1,1,none⟩ (.string (dec b.den))=w9 at *
  exact bodyPost_ret (v := .agg #[.string (itx b.num),.string (dec b.den)]) (by simp[results,Tryz.results111,go_sem,c0,c1]) rfl ⟨by rw[Hm.out],hb3⟩
 ·have hm:Zg8 a b=a:=by rw[Hmin.out,if_neg c1]
  have Hm:=hd_ hm;clear hm Hmin;go_wp2;obtain⟨c0,c1,hb3⟩:=Kq (B:=w.heap.size) (.string (itx a.num)) (.string (dec a.den)) k4 k5 (by omega) Hbw.out
  generalize (w1.setCell ⟨w.heap.size+1+1,0,none⟩ (.string (itx a.num))).setCell ⟨w.heap.size+1+1,1,none⟩ (.string (dec a.den))=w9 at *
  exact bodyPost_ret (v := .agg #[.string (itx a.num),.string (dec a.den)]) (by simp[results,Tryz.results111,go_sem,c0,c1]) rfl ⟨by rw[Hm.out],hb3⟩
theorem Zf7(w:World)(a b:Rat)(D E:Nat)(ha:Sm D a)(hb:Sm E b)(h6:D+E+2≤1000000)(L:Qb w):
  Kc Tryz.prog 112 #[fr a,fr b] w (fr (Zg9 a b)):=by
 obtain⟨v,hv⟩:∃ v,Zd1 (b.num*a.den) (a.num*b.den)=v:=⟨_,rfl⟩;have H3:=hd_ (Zhd.mk' w (itx a.num) (dec a.den) (itx b.num) (dec b.den));have HC:=hd_ (fun W hW=>Zoj W b a E D hb ha (by omega) (L.below (H3.out.next (W:=W) hW).bel))
 rw[hv] at HC;have hlt:=(Zs6 b a).2;rw[hv] at hlt;have Hmin:Hid (Zg9 a b=if 0<v then b else a):=by
  show _=_
  unfold Zg9
  by_cases h:0<v
  ·rw[if_pos h,if_pos (hlt.1 h)]
  ·rw[if_neg h,if_neg fun hc=>h (hlt.2 hc)]
 clear hv hlt L ha hb h6;unfold Kc;unfold fr fv at HC ⊢;go_enter Tryz.func112,Tryz.ntmps112;obtain⟨k0,k1,-,-⟩:=Ka H3.out.fa;obtain⟨k2,k3,-,-⟩:=Ka H3.out.fb
 go_wp2_with fail
 generalize ((w.alloc (.cells #[.string (itx a.num),.string (dec a.den)] 42)).alloc (.cells #[.string (itx b.num),.string (dec b.den)] 42)).alloc (.cells #[.string ⟨#[]⟩,.string ⟨#[]⟩] 42)=W0 at *
 clear k0 k1 k2 k3;refine cm_ (HC.out _ (Below.refl _ _)) ?_;rintro e w1 ⟨rfl,hb1⟩;have H4:=hd_ (H3.out.next hb1);clear hb1 HC H3;obtain⟨k0,k1,-,-⟩:=Ka H4.out.fa;obtain⟨k2,k3,-,-⟩:=Ka H4.out.fb;obtain⟨k4,k5,f4,f5⟩:=Ka H4.out.fr;have Hbw:=hd_ H4.out.bel;clear H4
 by_cases c1:0<v
 ·have hm:Zg9 a b=b:=by rw[Hmin.out,if_pos c1]
  have Hm:=hd_ hm;clear hm Hmin;go_wp2;obtain⟨c0,c1,hb3⟩:=Kq (B:=w.heap.size) (.string (itx b.num)) (.string (dec b.den)) k4 k5 (by omega) Hbw.out
  generalize (w1.setCell ⟨w.heap.size+1+1,0,none⟩ (.string (itx b.num))).setCell ⟨w.heap.size+1+1,1,none⟩ (.string (dec b.den))=w9 at *
  exact bodyPost_ret (v := .agg #[.string (itx b.num),.string (dec b.den)]) (by simp[results,Tryz.results112,go_sem,c0,c1]) rfl ⟨by rw[Hm.out],hb3⟩
 ·have hm:Zg9 a b=a:=by rw[Hmin.out,if_neg c1]
  have Hm:=hd_ hm;clear hm Hmin;go_wp2;obtain⟨c0,c1,hb3⟩:=Kq (B:=w.heap.size) (.string (itx a.num)) (.string (dec a.den)) k4 k5 (by omega) Hbw.out
  generalize (w1.setCell ⟨w.heap.size+1+1,0,none⟩ (.string (itx a.num))).setCell ⟨w.heap.size+1+1,1,none⟩ (.string (dec a.den))=w9 at *
  exact bodyPost_ret (v := .agg #[.string (itx a.num),.string (dec a.den)]) (by simp[results,Tryz.results112,go_sem,c0,c1]) rfl ⟨by rw[Hm.out],hb3⟩
def Zpn (a:Rat):Int:=(a+1/2).floor
theorem Zsk:Sm 1 (1/2:Rat):=⟨by decide +kernel,by decide +kernel⟩
theorem Zxz:fr (1/2:Rat) = .agg #[.string ⟨#[49]⟩,.string ⟨#[50]⟩]:=by
 have h1:(1/2:Rat).num=1:=by decide +kernel
 have h2:(1/2:Rat).den=2:=by decide +kernel
 unfold fr fv;rw[h1,h2,show itx 1=dec 1 from Kj 1,Vf,Zde]
theorem Zum(w:World)(a:Rat)(D:Nat)(ha:Sm D a)(h6:D+5≤1000000)(L:Qb w):
  Kc Tryz.prog 46 #[fr a] w (.string (itx (Zpn a))):=by
 have Hb0:=hd_ ((Below.refl w.heap.size w).alloc nr_ (.cells #[.string (itx a.num),.string (dec a.den)] 42));have Hnew:Hid ((w.alloc (.cells #[.string (itx a.num),.string (dec a.den)] 42)).heap[w.heap.size]?=some (.cells #[.string (itx a.num),.string (dec a.den)] 42 (0,0))):=heap_alloc_new w _;have HA:=hd_ (Zqj (w.alloc (.cells #[.string (itx a.num),.string (dec a.den)] 42)) a (1/2) D 1 ha Zsk (by omega) (L.below Hb0.out))
 rw[Zxz] at HA;have HF:=hd_ (fun W (hW:Below w.heap.size w W)=>Zzu W (a+1/2) (D+1+1) (ha.add Zsk) (by omega) (L.below hW))
 clear L ha h6;unfold Kc;unfold Zpn;generalize a+1/2=s at *
 unfold fr fv at HA HF ⊢;go_enter Tryz.func46,Tryz.ntmps46;obtain⟨k0,k1,-,-⟩:=Ka Hnew.out
 go_wp2_with fail
 generalize w.alloc (.cells #[.string (itx a.num),.string (dec a.den)] 42)=W0 at *
 clear k0 k1;refine cm_ HA.out ?_;rintro e w1 ⟨rfl,hb1⟩;have B1:=hd_ (Hb0.out.trans (hb1.mono Hb0.out.size));clear hb1 HA
 go_wp2_with fail
 refine cm_ (HF.out _ B1.out) ?_;rintro e w2 ⟨rfl,hb2⟩;have B2:=hd_ (B1.out.trans (hb2.mono B1.out.size));clear hb2 HF
 go_wp2_with fail
 go_ret;exact⟨rfl,B2.out⟩
theorem Zpw{p N a b:Nat}(h1:Zyj p N a)(h2:Zyj p (2*N) b):b=2*a∨b=2*a+1:=by
 have hP:p^(2*N)=p^N*p^N:=by rw[Nat.two_mul,Nat.pow_add]
 have e1:2^(2*a)≤p^(2*N):=by
  rw[hP,Nat.two_mul,Nat.pow_add];exact Nat.mul_le_mul h1.1 h1.1
 have e2:p^(2*N)<2^(2*a+2):=by
  rw[hP,show 2*a+2=(a+1)+(a+1) by omega,Nat.pow_add];exact Nat.mul_lt_mul'' h1.2 h1.2
 have f1:=(Nat.pow_lt_pow_iff_right (by decide)).1 (Nat.lt_of_le_of_lt e1 h2.2)
 have f2:=(Nat.pow_lt_pow_iff_right (by decide)).1 (Nat.lt_of_le_of_lt h2.1 e2)
 omega
theorem Zi1{p n:Nat}(hp:p∈Yt)(hn:n+1≤1056):lgN p (n+1)=2*lgN p n∨lgN p (n+1)=2*lgN p n+1:=by
 have h2:=Zn0 hp hn;rw[Nat.pow_succ,Nat.mul_comm] at h2;exact Zpw (Zn0 hp (by omega)) h2
theorem Zgd{p n:Nat}(hp:p=2∨p∈Yt):∀ d,n+d≤1056→lgN p (n+d)/2^d=lgN p n
 | 0,_=>by simp
 | d+1,h=>by
  have ih:=Zgd hp d (n:=n) (by omega)
  rw[← Nat.add_assoc,Nat.pow_succ,Nat.mul_comm,← Nat.div_div_eq_div_mul];have e:lgN p (n+d+1)/2=lgN p (n+d):=by
   rcases hp with rfl|hp
   ·rw[show ((2:Nat):Int)=2 from rfl,Yl,Yl,Nat.pow_succ];omega
   ·rcases Zi1 hp (n:=n+d) (by omega) with e | e<;>rw[e]<;>omega
  rw[e,ih]
def xE (p:Int) (n:Nat):Rat:=if p=2 then 1 else mkRat ((lgN p n:Nat):Int) (2^n)
def yE (p:Int) (n:Nat):Rat:=if p=2 then 1 else mkRat ((lgN p n+1:Nat):Int) (2^n)
def loE (n:Nat):List Int→List Rat→Rat
 | p::ps,c::l=>Zg8 (c*xE p n) (c*yE p n)+loE n ps l
 | _,_=>0
def hiE (n:Nat):List Int→List Rat→Rat
 | p::ps,c::l=>Zg9 (c*xE p n) (c*yE p n)+hiE n ps l
 | _,_=>0
theorem Zaq(n:Nat):((2^n:Nat):Rat)=2^n:=by
 rw[LN.natCast_pow];rfl
theorem Zfn(n:Nat):(0:Rat)<2^n:=Rat.pow_pos (by decide)
theorem Zng(p:Int)(n:Nat):xE p n*2^n=((lgN p n:Nat):Rat):=by
 unfold xE
 by_cases h:p=2
 ·rw[if_pos h,h,Yl,Zaq,Rat.one_mul]
 ·rw[if_neg h,← Zaq,← Rat.intCast_natCast (lgN p n),Zby _ _ (Nat.two_pow_pos n)]
theorem Znf(p:Int)(n:Nat):yE p n*2^n=((LN.hiL (lf n) p:Nat):Rat):=by
 unfold yE LN.hiL
 by_cases h:p=2
 ·rw[if_pos h,if_pos h,h];unfold lf;rw[Yl,Zaq,Rat.one_mul]
 ·rw[if_neg h,if_neg h];unfold lf;rw[← Zaq,← Rat.intCast_natCast (lgN p n+1),Zby _ _ (Nat.two_pow_pos n)]
theorem Zb1{a b:Rat}{n:Nat}(h:a*2^n≤b*2^n):a≤b:=Rat.le_of_mul_le_mul_right h (Zfn n)
theorem Ze8(p:Int)(n:Nat):xE p n≤yE p n:=by
 refine Zb1 (n:=n) ?_;rw[Zng,Znf];refine Rat.natCast_le_natCast.2 ?_;unfold LN.hiL lf;split<;>omega
theorem Zr0{c x y:Rat}(h:x≤y)(hc:c<0):Zg8 (c*x) (c*y)=c*y∧Zg9 (c*x) (c*y)=c*x:=by
 have h1:c*y≤c*x:=by
  have:=Rat.mul_le_mul_of_nonneg_left h (c := -c) (by grind)
  grind
 unfold Zg8 Zg9;refine⟨?_,?_⟩
 ·split
  ·rfl
  ·grind
 ·split
  ·grind
  ·rfl
theorem Zrz{c x y:Rat}(h:x≤y)(hc:0≤c):Zg8 (c*x) (c*y)=c*x∧Zg9 (c*x) (c*y)=c*y:=by
 have h1:c*x≤c*y:=Rat.mul_le_mul_of_nonneg_left h hc;unfold Zg8 Zg9;refine⟨?_,?_⟩
 ·split
  ·grind
  ·rfl
 ·split
  ·rfl
  ·grind
theorem Qag{p n:Nat}(hp:p=2∨p∈Yt)(hn:n+1≤1056):xE p n≤xE p (n+1)∧yE p (n+1)≤yE p n:=by
 rcases hp with rfl|hp
 ·unfold xE yE;rw[show ((2:Nat):Int)=2 from rfl]
  simp only[if_true];exact⟨Rat.le_refl,Rat.le_refl⟩
 ·have h2:=(Yg hp).2.1;have hne:¬ ((p:Nat):Int)=2:=by have:=(Yg hp).1;omega
  have e1:=Zng p n;have e2:=Znf p n;have e3:=Zng p (n+1);have e4:=Znf p (n+1);unfold LN.hiL lf at e2 e4;rw[if_neg hne] at e2 e4;have hs:(2:Rat)^(n+1)=2^n*2:=Rat.pow_succ ..;constructor
  ·refine Zb1 (n:=n+1) ?_;rw[e3,hs,← Rat.mul_assoc,e1];have h3:((2*lgN p n:Nat):Rat)≤((lgN p (n+1):Nat):Rat):=Rat.natCast_le_natCast.2 (by rcases Zi1 hp hn with e | e<;>omega)
   rw[Rat.natCast_mul] at h3;have:((2:Nat):Rat)=2:=rfl
   grind
  ·refine Zb1 (n:=n+1) ?_;rw[e4,hs,← Rat.mul_assoc,e2];have h3:((lgN p (n+1)+1:Nat):Rat)≤((2*(lgN p n+1):Nat):Rat):=Rat.natCast_le_natCast.2 (by rcases Zi1 hp hn with e | e<;>omega)
   rw[Rat.natCast_mul] at h3;have:((2:Nat):Rat)=2:=rfl
   grind
theorem Zst{n:Nat}(hn:n+1≤1056):∀ (ps:List Int) (l:List Rat),(∀ p∈ps,∃ q:Nat,p=q∧(q=2∨q∈Yt))→loE n ps l≤loE (n+1) ps l∧hiE (n+1) ps l≤hiE n ps l
 | [],_,_=>by simp[loE,hiE]
 | _::_,[],_=>by simp[loE,hiE]
 | p::ps,c::l,h=>by
  obtain⟨i1,i2⟩:=Zst hn ps l fun q hq=>h q (List.mem_cons_of_mem _ hq)
  obtain⟨q,rfl,hq⟩:=h p List.mem_cons_self;obtain⟨u1,u2⟩:=Qag hq hn;simp only[loE,hiE];rcases Decidable.em (c<0) with hc|hc
  ·obtain⟨m1,m2⟩:=Zr0 (Ze8 q n) hc;obtain⟨m3,m4⟩:=Zr0 (Ze8 q (n+1)) hc;rw[m1,m2,m3,m4];have a1:=Rat.mul_le_mul_of_nonneg_left u1 (c := -c) (by grind)
   have a2:=Rat.mul_le_mul_of_nonneg_left u2 (c := -c) (by grind)
   constructor<;>grind
  ·have hc:=Rat.not_lt.1 hc;obtain⟨m1,m2⟩:=Zrz (Ze8 q n) hc;obtain⟨m3,m4⟩:=Zrz (Ze8 q (n+1)) hc;rw[m1,m2,m3,m4];have a1:=Rat.mul_le_mul_of_nonneg_left u1 hc;have a2:=Rat.mul_le_mul_of_nonneg_left u2 hc;constructor<;>grind
theorem Zsu(n:Nat):∀ (ps:List Int) (l:List Rat),loE n ps l≤hiE n ps l
 | [],_=>by simp[loE,hiE]
 | _::_,[]=>by simp[loE,hiE]
 | p::ps,c::l=>by
  have ih:=Zsu n ps l;simp only[loE,hiE];have h1:Zg8 (c*xE p n) (c*yE p n)≤Zg9 (c*xE p n) (c*yE p n):=by
   unfold Zg8 Zg9;split<;>split<;>grind
  grind
theorem Zi8{n:Nat}{ps:List Int}{l:List Rat}(h:∀ p∈ps,∃ q:Nat,p=q∧(q=2∨q∈Yt)):∀ d,n+d≤1056→loE n ps l≤loE (n+d) ps l∧hiE (n+d) ps l≤hiE n ps l
 | 0,_=>⟨Rat.le_refl,Rat.le_refl⟩
 | d+1,hd=>by
  obtain⟨i1,i2⟩:=Zi8 h (n:=n) (l:=l) d (by omega)
  obtain⟨j1,j2⟩:=Zst (n:=n+d) (by omega) ps l h
  exact⟨Rat.le_trans i1 j1,Rat.le_trans j2 i2⟩
def Zcb (n:Nat) (ps:List Int) (l:List Rat):Int:=if 0≤loE n ps l then 1 else if hiE n ps l≤0 then -1 else 0
theorem Zs4{n d:Nat}{ps:List Int}{l:List Rat}(h1:∀ p∈ps,p∈Zjn)(hd:n+d≤1056)(h:Zcb n ps l≠0):Zcb (n+d) ps l≠0:=by
 obtain⟨u1,u2⟩:=Zi8 (n:=n) (ps:=ps) (l:=l) (fun p hp=>Zjm (h1 p hp)) d hd
 unfold Zcb at h ⊢;split
 ·decide
 ·split
  ·decide
  ·rename_i c1 c2
   split at h
   ·rename_i c3
    exact absurd (Rat.le_trans c3 u1) c1
   ·split at h
    ·rename_i c4
     exact absurd (Rat.le_trans u2 c4) c2
    ·exact h
theorem Zoa(n:Nat):∀ (ps:List Int) (l:List Rat) (p:Int) (c:Rat),ps.length=l.length →
  loE n (ps++[p]) (l++[c])=loE n ps l+Zg8 (c*xE p n) (c*yE p n)∧hiE n (ps++[p]) (l++[c])=hiE n ps l+Zg9 (c*xE p n) (c*yE p n)
 | [],[],p,c,_=>by
  show _+(0:Rat)=0+_∧_+(0:Rat)=0+_
  rw[Rat.add_zero,Rat.zero_add,Rat.add_zero,Rat.zero_add];exact⟨rfl,rfl⟩
 | [],_::_,_,_,h=>by simp at h
 | _::_,[],_,_,h=>by simp at h
 | q::ps,d::l,p,c,h=>by
  obtain⟨i1,i2⟩:=Zoa n ps l p c (by simpa using h)
  simp only[List.cons_append,loE,hiE];rw[i1,i2,Rat.add_assoc,Rat.add_assoc];exact⟨rfl,rfl⟩
theorem Zgk(n:Nat)(ps:List Int)(l:List Rat)(k:Nat)(h:l.length=ps.length)(h1:k<ps.length)(h2:k<l.length):
  loE n (ps.take (k+1)) (l.take (k+1))=loE n (ps.take k) (l.take k)+Zg8 (l[k]*xE ps[k] n) (l[k]*yE ps[k] n) ∧
  hiE n (ps.take (k+1)) (l.take (k+1))=hiE n (ps.take k) (l.take k)+Zg9 (l[k]*xE ps[k] n) (l[k]*yE ps[k] n):=by
 have e1:ps.take (k+1)=ps.take k++[ps[k]]:=by rw[List.take_add_one,List.getElem?_eq_getElem h1];rfl
 have e2:l.take (k+1)=l.take k++[l[k]]:=by rw[List.take_add_one,List.getElem?_eq_getElem h2];rfl
 rw[e1,e2];exact Zoa n _ _ _ _ (by simp;omega)
theorem Zkr(n:Nat)(p:Int):Zg8 ((0:Rat)*xE p n) (0*yE p n)=0∧Zg9 ((0:Rat)*xE p n) (0*yE p n)=0:=by
 rw[Rat.zero_mul,Rat.zero_mul];exact⟨rfl,rfl⟩
theorem Zeb{D:Nat}{a b:Rat}(ha:Sm D a)(hb:Sm D b):Sm D (Zg8 a b):=by unfold Zg8;split<;>assumption
theorem Zec{D:Nat}{a b:Rat}(ha:Sm D a)(hb:Sm D b):Sm D (Zg9 a b):=by unfold Zg9;split<;>assumption
theorem Zhf(n D:Nat)(h:n≤3*D):2^n≤10^D:=by
 refine Nat.le_trans (Nat.pow_le_pow_right (by decide) h) ?_
 rw[Nat.pow_mul];exact Nat.pow_le_pow_left (by decide) D
theorem Zw3{p:Int}{n:Nat}(hp:∃ q:Nat,p=q∧(q=2∨q∈Yt))(hn:n≤1056):Sm 355 (xE p n)∧Sm 355 (yE p n):=by
 obtain⟨h1,h2⟩:=Zxq hp hn;obtain⟨D,hD⟩:∃ D,D=354:=⟨_,rfl⟩;have e:2^(n+3)≤10^D:=Zhf _ _ (by omega)
 have e2:2^n≤10^D:=Zhf _ _ (by omega)
 have e3:(10:Nat)^(D+1)=10^D*10:=Nat.pow_succ ..;have h0:0<(10:Nat)^D:=Nat.pow_pos (by decide)
 have h1':lgN p n<2^(n+3):=h1;rw[show 355=D+1 by omega]
 unfold xE yE
 by_cases h:p=2
 ·rw[if_pos h,if_pos h];have:Sm 1 (1:Rat):=⟨by decide,by decide⟩
  exact⟨this.le (by omega),this.le (by omega)⟩
 ·rw[if_neg h,if_neg h];generalize 10^D=T at *
  generalize 2^(n+3)=U at *
  have hz:2^n≠0:=Nat.ne_of_gt (Nat.two_pow_pos n);exact⟨Sm.mk' hz (by rw[Int.natAbs_natCast,e3];omega) (by rw[e3];omega),Sm.mk' hz (by rw[Int.natAbs_natCast,e3];omega) (by rw[e3];omega)⟩
theorem Zi9{D n:Nat}(hn:n≤1056){ps:List Int}{l:List Rat}(hp:∀ p∈ps,∃ q:Nat,p=q∧(q=2∨q∈Yt))(hl:l.length=ps.length)(hs:∀ q∈l,Sm D q):
  ∀ k,k≤ps.length→Sm (1+k*(D+356)) (loE n (ps.take k) (l.take k))∧Sm (1+k*(D+356)) (hiE n (ps.take k) (l.take k))
 | 0,_=>by
  have:Sm 1 (0:Rat):=⟨by decide,by decide⟩
  rw[Nat.zero_mul];exact⟨this,this⟩
 | k+1,h=>by
  obtain⟨i1,i2⟩:=Zi9 hn hp hl hs k (by omega)
  obtain⟨e1,e2⟩:=Zgk n ps l k hl (by omega) (by omega)
  obtain⟨s1,s2⟩:=Zw3 (hp _ (List.getElem_mem (show k<ps.length by omega))) hn
  have hc:=hs _ (List.getElem_mem (show k<l.length by omega))
  rw[e1,e2,show 1+(k+1)*(D+356)=1+k*(D+356)+(D+355)+1 by rw[Nat.add_mul];omega]
  exact⟨i1.add (Zeb (hc.mul s1) (hc.mul s2)),i2.add (Zec (hc.mul s1) (hc.mul s2))⟩
/-! The least number of bits. -/
structure Zcc (T:Nat→Bool) (n:Nat):Prop where
 at_:T n=true
 low:n=0∨T (n-1)=false
 le:n≤1000
theorem Zwa{T:Nat→Bool}(hm:∀ n,n<1000→T n=true→T (n+1)=true):∀ d n,n+d≤1000→T n=true→T (n+d)=true
 | 0,_,_,h=>h
 | d+1,n,hd,h=>hm (n+d) (by omega) (Zwa hm d n (by omega) h)
theorem Zcc.uniq{T:Nat→Bool}(hm:∀ n,n<1000→T n=true→T (n+1)=true){n m:Nat}(h1:Zcc T n)(h2:Zcc T m):n=m:=by
 have key:∀ a b,Zcc T a→Zcc T b→¬ a<b:=fun a b ha hb hc=>by
  have h3:=Zwa hm (b-1-a) a (by have:=hb.le;omega) ha.at_
  rw[show a+(b-1-a)=b-1 by omega] at h3
  rcases hb.low with h4|h4
  ·omega
  ·rw[h3] at h4;cases h4
 have:=key n m h1 h2
 have:=key m n h2 h1
 omega
def Zr6 (B:Nat) (ps:List Int) (l:List Rat):List ByteArray:=(ps.zip l).map fun x=>if x.2.num=0 then ⟨#[]⟩ else dec (lgN x.1 B)
theorem Vz(B:Nat)(ps:List Int)(l:List Rat)(h:l.length=ps.length):(Zr6 B ps l).length=ps.length:=by
 unfold Zr6;rw[List.length_map,List.length_zip,h,Nat.min_self]
theorem Ziz(B:Nat)(ps:List Int)(l:List Rat)(h:l.length=ps.length)(k:Nat)(h1:k<ps.length)(h2:k<l.length):(Zr6 B ps l).getD k ⟨#[]⟩=if l[k].num=0 then ⟨#[]⟩ else dec (lgN ps[k] B):=by
 unfold Zr6;rw[List.getD_eq_getElem?_getD,List.getElem?_map,List.getElem?_eq_getElem (by rw[List.length_zip];omega),List.getElem_zip]
 rfl
structure LgS (w:World) (R:Nat) (ps:List Int) (l:List Rat) (B:Nat) (a0:Option Addr) (c0:Nat) (a1:Option Addr) (c1:Nat) (a2:Option Addr) (c2:Nat):Prop where
 ob:w.heap[R]?=some (.cells #[.slice a0 ps.length c0,.slice a1 ps.length c1,.int .i64 B,.slice a2 ps.length c2] 146 (0,0))
 rp:Rd w a0 (Vc ps)
 rl:Rd w a1 (Kx l)
 rs:Rd w a2 (Zdk (Zr6 B ps l))
theorem LgS.below{w w':World}{R:Nat}{ps:List Int}{l:List Rat}{B:Nat}{a0 a1 a2:Option Addr}{c0 c1 c2:Nat}(h:LgS w R ps l B a0 c0 a1 c1 a2 c2)(hb:Below w.heap.size w w'):LgS w' R ps l B a0 c0 a1 c1 a2 c2 :=
 ⟨by rw[hb.block R (Array.getElem?_eq_some_iff.1 h.ob).1];exact h.ob,h.rp.below hb nr_,h.rl.below hb nr_,h.rs.below hb nr_⟩
def Zlh (w:World) (R:Nat) (ps:List Int) (l:List Rat) (B:Nat):Prop:=∃ a0 c0 a1 c1 a2 c2,LgS w R ps l B a0 c0 a1 c1 a2 c2
theorem Zlh.below{w w':World}{R:Nat}{ps:List Int}{l:List Rat}{B:Nat}(h:Zlh w R ps l B)(hb:Below w.heap.size w w'):Zlh w' R ps l B:=by
 obtain⟨a0,c0,a1,c1,a2,c2,S⟩:=h;exact⟨a0,c0,a1,c1,a2,c2,S.below hb⟩
theorem Zc0{w:World}{g:Nat}{a b c d:Value}{t:TypeId}(h:w.heap[g]?=some (.cells #[a,b,c,d] t (0,0))):
  w.cell? ⟨g,0,none⟩=some a∧w.cell? ⟨g,1,none⟩=some b∧w.cell? ⟨g,2,none⟩=some c∧w.cell? ⟨g,3,none⟩=some d∧(∀ j,w.frozen? ⟨g,j,none⟩=false):=by
 refine⟨by rw[cell_of_row w g 0 _ t (0,0) h];rfl,by rw[cell_of_row w g 1 _ t (0,0) h];rfl,by rw[cell_of_row w g 2 _ t (0,0) h];rfl,by rw[cell_of_row w g 3 _ t (0,0) h];rfl,fun j=>?_⟩
 simp[World.frozen?,h]
theorem Ze9(l:List ByteArray)(j:Nat)(h:j<l.length):(Zdk l)[j]?=some (.string (l.getD j ⟨#[]⟩)):=by
 simp[Zdk,List.getD_eq_getElem?_getD,h]
theorem Zwx(w:World)(R:Nat)(ps:List Int)(l:List Rat)(B b k:Nat)(H:Zlh w R ps l B)(hl:l.length=ps.length)(hn:ps.length≤100)(hk:k<ps.length)(hkl:k<l.length)(hp:∃ q:Nat,ps[k]=q∧(q=2∨q∈Yt))(hz:l[k].num≠0)(hb:b≤B)(hB:B≤1000)(L:Qb w):
  Kc Tryz.prog 90 #[.pointer (some ⟨R,0,none⟩),.int .i64 k,.int .i64 b] w (.string (dec (lgN ps[k] b))):=by
 unfold Kc;obtain⟨a0,c0,a1,c1,a2,c2,S⟩:=H;obtain⟨k0,k1,k2,k3,-⟩:=Zc0 S.ob;have hlen:=Vz B ps l hl;obtain⟨b2,o2,rfl,hb2,hcell⟩:=S.rs.open (by rw[Yy,hlen];omega)
 have ct:=hcell k _ (Ze9 _ k (by rw[hlen];exact hk))
 rw[Ziz B ps l hl k hk hkl,if_neg hz] at ct;obtain⟨q,hq,hq2⟩:=hp;rw[hq] at ct ⊢;have hcut:lgN q B/2^(B-b)=lgN q b:=by
  have:=Zgd hq2 (B-b) (n:=b) (by omega)
  rwa [show b+(B-b)=B by omega] at this
 have hw:IntKind.i64.wrap ((B:Int)-b)=((B-b:Nat):Int):=by rw[show (B:Int)-b=((B-b:Nat):Int) by omega];exact iw_ _ (by omega)
 have HP:=hd_ (fun W (hW:Below w.heap.size w W)=>Znr W (B-b) (by omega) (L.below hW))
 have hlt:lgN q B<2^K10:=by
  refine Nat.lt_trans (Zgc hq2 (by omega)) ?_
  refine Nat.lt_of_lt_of_le (Nat.mul_lt_mul_of_pos_right (show 7<2^3 by decide) (Nat.two_pow_pos B)) ?_
  rw[← Nat.pow_add];exact Nat.pow_le_pow_right (by decide) (by rw[k10];omega)
 have HD:=hd_ (fun W (hW:Below w.heap.size w W)=>Zzy W (lgN q B) (2^(B-b)) K10 (by decide) hlt (Nat.pow_lt_pow_right (by decide) (by rw[k10];omega)) (Nat.two_pow_pos _) (L.below hW))
 rw[hcut] at HD;have hk':k<100:=by omega
 clear hcut hlt S hlen hcell L hz hl hkl hq2 hq;generalize dec (lgN q B)=s at *
 generalize dec (lgN q b)=s2 at *
 generalize dec (lgN q B%2^(B-b))=s3 at *
 generalize dec (2^(B-b))=s4 at *
 generalize B-b=m at *
 generalize ps.length=n at *
 have q0:=NW.cell k3;have q1:=NW.cell k2;have q2:=NW.cell ct;have hnon:Nonempty (NW w):=⟨⟨w,Below.refl _ _⟩⟩;have I:Hid (Below w.heap.size w w.drew):=(Below.refl _ _).drew;clear k0 k1 k2 k3 ct;go_enter Tryz.func90,Tryz.ntmps90
 go_wp2_with fail
 refine RP.wp_region_readers 14 [(2,0),(2,1),(2,2),(1,3),(2,4),(2,5),(1,6),(2,7),(2,8),(2,9),(1,10),(2,11),(2,12),(0,13),(0,14),(2,15),(2,16),(2,17),(2,18),(2,19),(2,20),(2,21)] (fun w'=>∃ p:NW w,w'=p.w) (by kernel_rfl) (by kernel_rfl) ?_ ?_
 ·exact⟨⟨_,I.out⟩,rfl⟩
 iterate 3 (refine RP.walkR_any ?_;simp only[Kh,dz_,Kg,tz_];go_big_quiet_step (fail);refine wpQuiet_nil ?_)
 iterate 1 (refine RP.walkR_read ?_;simp only[Kh,dz_,Kg,tz_];go_big_quiet_step (fail);refine wpQuiet_nil ?_)
 iterate 2 (refine RP.walkR_any ?_;simp only[Kh,dz_,Kg,tz_];go_big_quiet_step (fail);refine wpQuiet_nil ?_)
 iterate 1 (refine RP.walkR_read ?_;simp only[Kh,dz_,Kg,tz_];go_big_quiet_step (fail);refine wpQuiet_nil ?_)
 iterate 3 (refine RP.walkR_any ?_;simp only[Kh,dz_,Kg,tz_];go_big_quiet_step (fail);refine wpQuiet_nil ?_)
 iterate 1 (refine RP.walkR_read ?_;simp only[Kh,dz_,Kg,tz_];go_big_quiet_step (fail);refine wpQuiet_nil ?_)
 iterate 2 (refine RP.walkR_any ?_;simp only[Kh,dz_,Kg,tz_];go_big_quiet_step (fail);refine wpQuiet_nil ?_)
 clear hnon q0 q1 q2;refine RP.walkR_move ?_;simp only[Kh,dz_,Kg,tz_]
 go_wp2_with fail
 refine cm_ (HP.out _ I.out) ?_;rintro e w1 ⟨rfl,hb1⟩;have I1:Hid (Below w.heap.size w w1):=I.out.trans (hb1.mono I.out.size);clear hb1 I HP
 go_wp2_with fail
 refine⟨⟨⟨_,I1.out⟩,rfl⟩,?_⟩;refine RP.walkR_move ?_;simp only[Kh,dz_,Kg,tz_]
 go_wp2_with fail
 refine cm_ (HD.out _ I1.out) ?_;rintro e w2 ⟨rfl,hb1⟩;have I2:Hid (Below w.heap.size w w2):=I1.out.trans (hb1.mono I1.out.size);clear hb1 I1 HD
 go_wp2_with fail
 iterate 7 (refine RP.walkR_any ?_;simp only[Kh,dz_,Kg,tz_];go_big_quiet_step (fail);refine wpQuiet_nil ?_)
 simp only[RP.walkR]
 go_wp2_with fail
 go_ret;exact⟨rfl,I2.out⟩
def Zer (w:World) (B:Nat) (a:Option Addr) (c:Nat) (l:List ByteArray):Prop:=w.ownsRow B 25 1 (.slice a l.length c) l.length (Zdk l)
theorem Zy6(n:Nat)(w:World)(hn:n≤10000000):
  (Instr.makeSlice 132 (.int .i64 (n:Int)) (.int .i64 (n:Int))).run Tryz.prog w = .ok (.slice (some ⟨w.heap.size,0,none⟩) n n) (w.alloc (.cells (Zdk (List.replicate n ⟨#[]⟩)).toArray 25)):=by
 have:=run_make_row' (P:=Tryz.prog) 132 25 (.string ⟨#[]⟩) 16 Tryz.underlying132 Zzo rfl .i64 .i64 n (by omega) (by omega) w
 rw[show madeCells #[.string ⟨#[]⟩] n=(Zdk (List.replicate n ⟨#[]⟩)).toArray by apply Array.ext';rw[toList_madeCells_one];simp[Zdk]] at this
 exact this
theorem Zro(w:World)(l:List ByteArray)(hl:l.length≤100000000):Zer (w.alloc (.cells (Zdk l).toArray 25)) w.heap.size (some ⟨w.heap.size,0,none⟩) l.length l :=
 ⟨by simp[Yy],.inr ⟨w.heap.size,l.length,(Zdk l).toArray,rfl,Nat.le_refl _,heap_alloc_new _ _,Nat.le_refl _,by unfold maxLen;omega,by simp[Yy],by rw[Nat.mul_one];exact List.take_of_length_le (by simp[Yy])⟩⟩
theorem Zer.open{w:World}{B c:Nat}{a:Option Addr}{l:List ByteArray}(h:Zer w B a c l)(hn:0<l.length):
  ∃ g,a=some ⟨g,0,none⟩∧B≤g∧g<w.heap.size∧l.length≤c∧(∀ j,j<l.length→w.cell? ⟨g,j,none⟩=some (.string (l.getD j ⟨#[]⟩)))∧(∀ j,w.frozen? ⟨g,j,none⟩=false):=by
 obtain⟨g,cap,hv,h1,h2,h3,h4,h5⟩:=Vv h hn;simp only[Value.slice.injEq] at hv;obtain⟨rfl,-,rfl⟩:=hv;exact⟨g,rfl,h1,h2,h3,fun j hj=>by rw[h4 j (by omega),Ze9 l j hj],h5⟩
theorem Zer.store{w:World}{B c g:Nat}{l:List ByteArray}(h:Zer w B (some ⟨g,0,none⟩) c l)(j:Nat)(x:ByteArray):
  Zer (w.setCell ⟨g,j,none⟩ (.string x)) B (some ⟨g,0,none⟩) c (l.set j x):=by
 have:=(World.ownsRow.stored h j (.string x)).1
 have e:(Zdk l).set j (.string x)=Zdk (l.set j x):=by simp[Zdk,List.map_set]
 rw[e] at this;unfold Zer;rw[List.length_set];exact this
theorem Zer.rd{w:World}{B:Nat}{a:Option Addr}{c:Nat}{l:List ByteArray}(h:Zer w B a c l):Rd w a (Zdk l):=by
 by_cases hn:0<l.length
 ·obtain⟨g,rfl,h1,h2,h3,h4,h5⟩:=h.open hn;refine .inr ⟨g,0,rfl,h2,fun i v hi=>?_⟩
  have hlt:=(List.getElem?_eq_some_iff.1 hi).1;rw[Yy] at hlt;rw[Ze9 l i hlt] at hi;rw[Nat.zero_add,← hi];exact h4 i hlt
 ·obtain rfl:=List.length_eq_zero_iff.1 (Nat.eq_zero_of_not_pos hn);exact .inl rfl
def Zmh (B:Nat) (ps:List Int) (l:List Rat) (k:Nat):List ByteArray:=(Zr6 B ps l).take k++List.replicate (ps.length-k) ⟨#[]⟩
theorem Zmg(B:Nat)(ps:List Int)(l:List Rat)(h:l.length=ps.length)(k:Nat)(hk:k≤ps.length):(Zmh B ps l k).length=ps.length:=by
 unfold Zmh;rw[List.length_append,List.length_take,Vz B ps l h,List.length_replicate];omega
theorem Zuu(B:Nat)(ps:List Int)(l:List Rat)(h:l.length=ps.length)(k:Nat)(hk:k<ps.length):(Zmh B ps l k).set k ((Zr6 B ps l).getD k ⟨#[]⟩)=Zmh B ps l (k+1):=by
 have hl:((Zr6 B ps l).take k).length=k:=by rw[List.length_take,Vz B ps l h];omega
 unfold Zmh;rw[List.set_append_right _ _ (by omega),hl,Nat.sub_self,List.take_add_one,List.getElem?_eq_getElem (by rw[Vz B ps l h];exact hk),show ps.length-k=(ps.length-(k+1))+1 by omega,List.replicate_succ,List.set_cons_zero,List.append_assoc]
 congr 1;rw[List.getD_eq_getElem?_getD,List.getElem?_eq_getElem (by rw[Vz B ps l h];exact hk)]
 rfl
theorem Zxn(B:Nat)(ps:List Int)(l:List Rat)(h:l.length=ps.length)(k:Nat)(hk:k<ps.length):(Zmh B ps l k).getD k ⟨#[]⟩=⟨#[]⟩:=by
 have hl:((Zr6 B ps l).take k).length=k:=by rw[List.length_take,Vz B ps l h];omega
 unfold Zmh;rw[List.getD_eq_getElem?_getD,List.getElem?_append_right (by omega),hl,List.getElem?_replicate]
 split<;>rfl
theorem Zuv(B:Nat)(ps:List Int)(l:List Rat)(h:l.length=ps.length):Zmh B ps l ps.length=Zr6 B ps l:=by
 unfold Zmh;rw[Nat.sub_self,List.replicate_zero,List.append_nil,List.take_of_length_le (by rw[Vz B ps l h];exact Nat.le_refl _)]
theorem Zr7(B:Nat)(ps:List Int)(l:List Rat):Zmh B ps l 0=List.replicate ps.length ⟨#[]⟩:=by simp[Zmh]
structure OpI (w wr:World) (ps:List Int) (l:List Rat) (B k:Nat) (a0:Option Addr) (c0:Nat) (a1:Option Addr) (c1:Nat):Prop where
 ob:wr.heap[w.heap.size+1]?=some (.cells #[.slice a0 ps.length c0,.slice a1 ps.length c1,.int .i64 B,.slice (some ⟨w.heap.size,0,none⟩) ps.length ps.length] 146 (0,0))
 own:Zer wr w.heap.size (some ⟨w.heap.size,0,none⟩) ps.length (Zmh B ps l k)
 bel:Below w.heap.size w wr
theorem Zd6(w:World)(ps:List Int)(l:List Rat)(B:Nat)(a0 a1:Option Addr)(c0 c1:Nat)(rp:Rd w a0 (Vc ps))(rl:Rd w a1 (Kx l))(hl:l.length=ps.length)(hn:ps.length≤100)(hp:∀ p∈ps,∃ q:Nat,p=q∧(q=2∨q∈Yt))(hB:B≤1000)(L:Qb w):
  Calls Tryz.prog 79 #[.slice a0 ps.length c0,.slice a1 ps.length c1,.int .i64 B] w fun e w'=>∃ R,e = .returned (.pointer (some ⟨R,0,none⟩))∧Zlh w' R ps l B∧w.heap.size≤R∧Below w.heap.size w w':=by
 have HRp:=hd_ rp;have HRl:=hd_ rl;have HL:=hd_ L;have Hl:=hd_ hl;have Hlow:=hd_ (fun (k:Nat) (hk:k<ps.length) (W:World) (hW:Below w.heap.size w W)=>show Kc Tryz.prog 67 #[.int .i64 ps[k],.int .i64 B] W (.string (dec (lgN ps[k] B))) from by
  obtain⟨q,hq,hq2⟩:=hp _ (List.getElem_mem hk);rw[hq];exact Zoc W q B hq2 hB (L.below hW))
 have Hget:=hd_ (fun k h1 h2=>Ziz B ps l hl k h1 h2)
 have Hset:=hd_ (fun k h=>Zuu B ps l hl k h)
 have Hat:=hd_ (fun k h=>Zxn B ps l hl k h)
 have Hall:=hd_ (Zuv B ps l hl);have hlk:=hd_ (fun k h=>Zmg B ps l hl k h)
 clear rp rl L hp;obtain⟨n,hn'⟩:∃ n,ps.length=n:=⟨_,rfl⟩;have hmk:=Zy6 n w (by omega)
 have Hown:Hid (Zer (w.alloc (.cells (Zdk (List.replicate n ⟨#[]⟩)).toArray 25)) w.heap.size (some ⟨w.heap.size,0,none⟩) n (Zmh B ps l 0)):=by
  have:=Zro w (List.replicate n ⟨#[]⟩) (by simp;omega)
  rw[List.length_replicate] at this;rw[Zr7,hn'];exact this
 have Hb:=hd_ ((Below.refl w.heap.size w).alloc nr_ (.cells (Zdk (List.replicate n ⟨#[]⟩)).toArray 25));have hsz:(w.alloc (.cells (Zdk (List.replicate n ⟨#[]⟩)).toArray 25)).heap.size=w.heap.size+1:=by simp
 generalize w.alloc (.cells (Zdk (List.replicate n ⟨#[]⟩)).toArray 25)=w1 at *
 have HI0:Hid (OpI w (w1.alloc (.cells #[.slice a0 n c0,.slice a1 n c1,.int .i64 B,.slice (some ⟨w.heap.size,0,none⟩) n n] 146)) ps l B 0 a0 c0 a1 c1):=by
  refine⟨?_,?_,Hb.out.alloc (by omega) _⟩
  ·rw[← hsz,hn'];exact heap_alloc_new w1 _
  ·rw[hn'];exact(show Zer _ _ _ _ _ from World.ownsRow.alloc Hown.out _)
 have Hn:=hd_ hn';rw[hn'];clear hn' Hown Hb;go_enter Tryz.func79,Tryz.ntmps79
 go_wp2_with fail
 go_loopw [20] (fun i wr=>∃ k:Nat,k≤n∧i = .int .i64 k∧Hid (OpI w wr ps l B k a0 c0 a1 c1)) (fun i _=>n-(intOf i).toNat)
 case atStart=>exact⟨0,Nat.zero_le _,rfl,by rw[hsz] at *;exact HI0⟩
 case round =>
  obtain⟨k,hk,rfl,HI⟩:=hrel;clear HI0
  by_cases hlt:k<n
  ·have hlt':(k:Int)<n:=by omega
   have hkp:k<ps.length:=by rw[Hn.out];exact hlt
   have hkl:k<l.length:=by rw[Hl.out];exact hkp
   obtain⟨b0,o0,rfl,hb0,hc0⟩:=HRp.out.open (by rw[Qe];omega)
   have cp:=hc0 k _ (Yh ps k hkp);rw[← HI.out.bel.cell (p:=⟨b0,o0+k,none⟩) hb0] at cp;obtain⟨b1,o1,rfl,hb1,hc1⟩:=HRl.out.open (by rw[Ky];omega)
   obtain⟨x0,x1⟩:=Ql hc1 k (by rw[List.length_map];exact hkl)
   rw[Qt l k hkl] at x0 x1;rw[← HI.out.bel.cell (p:=⟨b1,o1+k*2,none⟩) hb1] at x0;rw[← HI.out.bel.cell (p:=⟨b1,o1+k*2+1,none⟩) hb1] at x1;have Hsg:=hd_ (fun W=>Zij W l[k])
   have hkw:IntKind.i64.wrap ((k:Int)+1)=((k+1:Nat):Int):=by rw[← Int.natCast_succ];exact iw_ _ (by omega)
   have hget:=Hget.out k hkp hkl;have hset:=Hset.out k hkp;have hat:=Hat.out k hkp;have hlo:=hd_ (fun W (hW:Below w.heap.size w W)=>Hlow.out k hkp W hW)
   have hlen:=hlk.out k (by rw[Hn.out];omega)
   clear hc0 hc1;unfold fr fv at Hsg;unfold qs at x0 x1;generalize l[k]=q at *
   generalize ps[k]=pk at *
   simp only at x0 x1
   by_cases hz:q.num=0
   ·rw[hz] at Hsg;rw[if_pos hz] at hget;rw[hget] at hset;have hsame:Zmh B ps l (k+1)=Zmh B ps l k:=by
     rw[← hset];refine List.ext_getElem? fun i=>?_
     by_cases hi:k=i
     ·subst hi;rw[List.getElem?_set_self (by rw[hlen];exact hkp)]
      rw[List.getD_eq_getElem?_getD,List.getElem?_eq_getElem (by rw[hlen];exact hkp)] at hat
      rw[List.getElem?_eq_getElem (by rw[hlen];exact hkp)]
      exact congrArg some hat.symm
     ·rw[List.getElem?_set_ne hi]
    rw[hz] at x0;have HS:=hd_ hsame;clear hget hset hat hlen hsame hz hlo
    go_wp2_with fail
    refine cm_ (Hsg.out _) ?_;rintro e w2 ⟨rfl,hb⟩;have HI2:Hid (OpI w w2 ps l B (k+1) (some ⟨b0,o0,none⟩) c0 (some ⟨b1,o1,none⟩) c1) :=
     ⟨by rw[hb.block _ (Array.getElem?_eq_some_iff.1 HI.out.ob).1];exact HI.out.ob,by rw[HS.out];exact Vu HI.out.own hb nr_,HI.out.bel.trans (hb.mono HI.out.bel.size)⟩
    clear hb Hsg HI HS
    go_wp2_with fail
    refine⟨⟨k+1,by omega,by go_num,HI2⟩,by simp[intOf];omega⟩
   ·rw[if_neg hz] at hget;rw[hget] at hset;have hsz':(q.num.sign==0)=false:=by
     rw[beq_eq_false_iff_ne];intro h;exact hz (Int.sign_eq_zero_iff_zero.1 h)
    have hsn:(q.num.sign != 0)=true:=by
     rw[bne_iff_ne];intro h;exact hz (Int.sign_eq_zero_iff_zero.1 h)
    clear hget hat hlen hz
    go_wp2_with fail
    refine cm_ (Hsg.out _) ?_;rintro e w2 ⟨rfl,hb⟩;have HI2:Hid (OpI w w2 ps l B k (some ⟨b0,o0,none⟩) c0 (some ⟨b1,o1,none⟩) c1) :=
     ⟨by rw[hb.block _ (Array.getElem?_eq_some_iff.1 HI.out.ob).1];exact HI.out.ob,Vu HI.out.own hb nr_,HI.out.bel.trans (hb.mono HI.out.bel.size)⟩
    clear hb Hsg HI x0 x1 cp hsz';obtain⟨k0,k1,k2,k3,-⟩:=Zc0 HI2.out.ob;rw[Hn.out] at k3;have q0:=NW.cell k3;have hnon:Nonempty (NW w2):=⟨⟨w2,Below.refl _ _⟩⟩;have I:Hid (Below w2.heap.size w2 w2.drew):=(Below.refl _ _).drew;clear k0 k1 k2 k3
    go_wp2_with fail
    refine RP.wp_region_readers 9 [(2,0),(2,1),(2,2),(1,3),(2,4),(2,5),(2,6),(0,7),(2,8),(0,9)] (fun w'=>∃ p:NW w2,w'=p.w) (by kernel_rfl) (by kernel_rfl) ?_ ?_
    ·exact⟨⟨_,I.out⟩,rfl⟩
    iterate 3 (refine RP.walkR_any ?_;simp only[Kh,dz_,Kg,tz_];go_big_quiet_step (fail);refine wpQuiet_nil ?_)
    iterate 1 (refine RP.walkR_read ?_;simp only[Kh,dz_,Kg,tz_];go_big_quiet_step (fail);refine wpQuiet_nil ?_)
    iterate 3 (refine RP.walkR_any ?_;simp only[Kh,dz_,Kg,tz_];go_big_quiet_step (fail);refine wpQuiet_nil ?_)
    clear hnon q0;refine RP.walkR_move ?_;simp only[Kh,dz_,Kg,tz_]
    go_wp2_with fail
    refine cm_ (hlo.out _ (HI2.out.bel.trans (I.out.mono HI2.out.bel.size))) ?_;rintro e w3 ⟨rfl,hb⟩;have I3:Hid (Below w2.heap.size w2 w3):=I.out.trans (hb.mono I.out.size);clear hb I hlo;have HI3:Hid (OpI w w3 ps l B k (some ⟨b0,o0,none⟩) c0 (some ⟨b1,o1,none⟩) c1) :=
     ⟨by rw[I3.out.block _ (Array.getElem?_eq_some_iff.1 HI2.out.ob).1];exact HI2.out.ob,Vu HI2.out.own I3.out nr_,HI2.out.bel.trans (I3.out.mono HI2.out.bel.size)⟩
    obtain⟨g,hg,hg1,hg2,hg3,hg4,hg5⟩:=HI3.out.own.open (by rw[hlk.out k (by rw[Hn.out];omega)];omega)
    obtain rfl:w.heap.size=g:=by simpa using hg
    have hce:=hg4 k (by rw[hlk.out k (by rw[Hn.out];omega)];exact hkp)
    have hfe:=hg5 k;clear hg hg3 hg4 hg5;have HI4:Hid (OpI w (w3.setCell ⟨w.heap.size,k,none⟩ (.string (dec (lgN pk B)))) ps l B (k+1) (some ⟨b0,o0,none⟩) c0 (some ⟨b1,o1,none⟩) c1) :=
     ⟨by rw[Below.heap_setCell _ _ _ _ (by show w.heap.size+1≠w.heap.size;omega)];exact HI3.out.ob,by rw[← hset];exact HI3.out.own.store k _,HI3.out.bel.setCell (p:=⟨w.heap.size,k,none⟩) nr_ _⟩
    go_wp2_with fail
    refine⟨⟨⟨_,I3.out⟩,rfl⟩,?_⟩;clear I3 HI2 HI3
    iterate 1 (refine RP.walkR_any ?_;simp only[Kh,dz_,Kg,tz_];go_big_quiet_step (fail);refine wpQuiet_nil ?_)
    refine RP.walkR_move ?_;simp only[Kh,dz_,Kg,tz_]
    go_wp2_with fail
    simp only[RP.walkR]
    go_wp2_with fail
    refine⟨⟨k+1,by omega,by go_num,HI4⟩,by simp[intOf];omega⟩
  ·obtain rfl:k=n:=by omega
   have hlt':¬ (k:Int)<k:=by omega
   have HR:Hid (Zlh wr (w.heap.size+1) ps l B):=by
    refine⟨a0,c0,a1,c1,some ⟨w.heap.size,0,none⟩,ps.length,HI.out.ob,HRp.out.below HI.out.bel nr_,HRl.out.below HI.out.bel nr_,?_⟩;have:=HI.out.own
    rw[← Hn.out,Hall.out,Hn.out] at this;have h2:Zer wr w.heap.size (some ⟨w.heap.size,0,none⟩) ps.length (Zr6 B ps l):=by rw[Hn.out];exact this
    exact h2.rd
   go_wp2_with fail
   go_ret;exact⟨w.heap.size+1,rfl,HR.out,Nat.le_succ _,HI.out.bel⟩
theorem Vx{w:World}{R:Nat}{x y x' y':Value}{t:TypeId}(h:w.heap[R]?=some (.cells #[x,y] t (0,0))):
  ((w.setCell ⟨R,0,none⟩ x').setCell ⟨R,1,none⟩ y').heap[R]?=some (.cells #[x',y'] t (0,0)):=by
 have hlt:=lt_of_block h;have h':w.heap[R] = .cells #[x,y] t (0,0):=by simpa [Array.getElem?_eq_getElem hlt] using h
 have e1:(w.setCell ⟨R,0,none⟩ x').heap[R]?=some (.cells #[x',y] t (0,0)):=by
  show (w.heap.modify R _)[R]?=_
  rw[Array.getElem?_eq_getElem (by simpa using hlt),Array.getElem_modify_self,h']
  rfl
 have hlt2:=lt_of_block e1;have h2':(w.setCell ⟨R,0,none⟩ x').heap[R] = .cells #[x',y] t (0,0):=by simpa [Array.getElem?_eq_getElem hlt2] using e1
 show ((w.setCell ⟨R,0,none⟩ x').heap.modify R _)[R]?=_
 rw[Array.getElem?_eq_getElem (by simpa using hlt2),Array.getElem_modify_self,h2']
 rfl
def Zag (w:World) (g:Nat) (q:Rat):Prop:=w.heap[g]?=some (.cells #[.string (itx q.num),.string (dec q.den)] 42 (0,0))
theorem Zag.below{w w':World}{g:Nat}{q:Rat}(h:Zag w g q)(hb:Below w.heap.size w w'):Zag w' g q:=by
 unfold Zag at *
 rw[hb.block g (Array.getElem?_eq_some_iff.1 h).1];exact h
structure EnI (w wr:World) (lo hi:Rat):Prop where
 e0:Zag wr w.heap.size lo
 e1:Zag wr (w.heap.size+1) hi
 bel:Below w.heap.size w wr
theorem EnI.below{w wr w':World}{lo hi:Rat}(h:EnI w wr lo hi)(hb:Below wr.heap.size wr w'):EnI w w' lo hi:=⟨h.e0.below hb,h.e1.below hb,h.bel.trans (hb.mono h.bel.size)⟩
def Vs (w:World) (E:Nat) (a b:Rat):World :=
 (((w.setCell ⟨E,0,none⟩ (.string (itx a.num))).setCell ⟨E,1,none⟩ (.string (dec a.den))).setCell ⟨E+1,0,none⟩ (.string (itx b.num))).setCell ⟨E+1,1,none⟩ (.string (dec b.den))
theorem EnI.put{w wr:World}{lo hi:Rat}(h:EnI w wr lo hi)(a b:Rat):EnI w (Vs wr w.heap.size a b) a b:=by
 have h1:=Vx (x' := .string (itx a.num)) (y' := .string (dec a.den)) h.e0;have e1:((wr.setCell ⟨w.heap.size,0,none⟩ (.string (itx a.num))).setCell ⟨w.heap.size,1,none⟩ (.string (dec a.den))).heap[w.heap.size+1]?=some (.cells #[.string (itx hi.num),.string (dec hi.den)] 42 (0,0)):=by
  rw[Below.heap_setCell _ _ _ _ (by show w.heap.size+1≠w.heap.size;omega),Below.heap_setCell _ _ _ _ (by show w.heap.size+1≠w.heap.size;omega)]
  exact h.e1
 have h2:=Vx (x' := .string (itx b.num)) (y' := .string (dec b.den)) e1;unfold Vs;refine⟨?_,h2,?_⟩
 ·unfold Zag;rw[Below.heap_setCell _ _ _ _ (by show w.heap.size≠w.heap.size+1;omega),Below.heap_setCell _ _ _ _ (by show w.heap.size≠w.heap.size+1;omega)]
  exact h1
 ·exact(((h.bel.setCell (p:=⟨w.heap.size,0,none⟩) nr_ _).setCell (p:=⟨w.heap.size,1,none⟩) nr_ _).setCell (p:=⟨w.heap.size+1,0,none⟩) (Nat.le_succ _) _).setCell (p:=⟨w.heap.size+1,1,none⟩) (Nat.le_succ _) _
theorem EnI.set{w wr:World}{lo hi:Rat}(h:EnI w wr lo hi){g:Nat}(hg:w.heap.size+2≤g)(x y:Value):EnI w ((wr.setCell ⟨g,0,none⟩ x).setCell ⟨g,1,none⟩ y) lo hi:=by
 refine⟨?_,?_,(h.bel.setCell (p:=⟨g,0,none⟩) (by show _≤g;omega) _).setCell (p:=⟨g,1,none⟩) (by show _≤g;omega) _⟩
 ·unfold Zag;rw[Below.heap_setCell _ _ _ _ (by show w.heap.size≠g;omega),Below.heap_setCell _ _ _ _ (by show w.heap.size≠g;omega)]
  exact h.e0
 ·unfold Zag;rw[Below.heap_setCell _ _ _ _ (by show w.heap.size+1≠g;omega),Below.heap_setCell _ _ _ _ (by show w.heap.size+1≠g;omega)]
  exact h.e1
theorem Zag.set{w:World}{g k:Nat}{q:Rat}(h:Zag w g q)(hk:g≠k)(x y:Value):Zag ((w.setCell ⟨k,0,none⟩ x).setCell ⟨k,1,none⟩ y) g q:=by
 unfold Zag;rw[Below.heap_setCell _ _ _ _ hk,Below.heap_setCell _ _ _ _ hk];exact h
theorem Zag.put{w:World}{g:Nat}{q:Rat}(h:Zag w g q)(a:Rat):Zag ((w.setCell ⟨g,0,none⟩ (.string (itx a.num))).setCell ⟨g,1,none⟩ (.string (dec a.den))) g a:=Vx h
theorem Zag.new(w:World)(q:Rat):Zag (w.alloc (.cells #[.string (itx q.num),.string (dec q.den)] 42)) w.heap.size q:=heap_alloc_new w _
theorem Zcr:itx (0:Rat).num=⟨#[48]⟩∧dec (0:Rat).den=⟨#[49]⟩:=by
 refine⟨?_,?_⟩
 ·show itx 0=_
  rw[show itx 0=dec 0 from Kj 0]
  have:(dec 0).data = #[48]:=by decide +kernel
  exact ByteArray.ext this
 ·exact Vf
structure EnW (w0:World) (lo hi:Rat) where
 w:World
 h:EnI w0 w lo hi
theorem EnW.cells{w0:World}{lo hi:Rat}(p:EnW w0 lo hi):p.w.cell? ⟨w0.heap.size,0,none⟩=some (.string (itx lo.num))∧p.w.cell? ⟨w0.heap.size,1,none⟩=some (.string (dec lo.den))∧p.w.cell? ⟨w0.heap.size+1,0,none⟩=some (.string (itx hi.num))∧p.w.cell? ⟨w0.heap.size+1,1,none⟩=some (.string (dec hi.den)):=by
 obtain⟨k0,k1,-,-⟩:=Ka p.h.e0;obtain⟨k2,k3,-,-⟩:=Ka p.h.e1;exact⟨k0,k1,k2,k3⟩
theorem EnI.put0{w wr:World}{lo hi:Rat}(h:EnI w wr lo hi)(a:Rat):EnI w ((wr.setCell ⟨w.heap.size,0,none⟩ (.string (itx a.num))).setCell ⟨w.heap.size,1,none⟩ (.string (dec a.den))) a hi :=
 ⟨Vx h.e0,Zag.set h.e1 (by omega) _ _,(h.bel.setCell (p:=⟨w.heap.size,0,none⟩) nr_ _).setCell (p:=⟨w.heap.size,1,none⟩) nr_ _⟩
theorem EnI.put1{w wr:World}{lo hi:Rat}(h:EnI w wr lo hi)(a:Rat):EnI w ((wr.setCell ⟨w.heap.size+1,0,none⟩ (.string (itx a.num))).setCell ⟨w.heap.size+1,1,none⟩ (.string (dec a.den))) lo a :=
 ⟨Zag.set h.e0 (by omega) _ _,Vx h.e1,(h.bel.setCell (p:=⟨w.heap.size+1,0,none⟩) (Nat.le_succ _) _).setCell (p:=⟨w.heap.size+1,1,none⟩) (Nat.le_succ _) _⟩
theorem Zf5{x:Nat}(h:x<2^K10):Num x:=Ve h (by decide)
theorem Zwq{q b:Nat}(hq:q=2∨q∈Yt)(hb:b≤1000):lgN q b+2<2^K10∧2^b+1<2^K10:=by
 have h1:=Zgc hq (show b≤1056 by omega)
 have h2:8*2^b≤2^K10:=by
  rw[show 8=2^3 from rfl,← Nat.pow_add]
  exact Nat.pow_le_pow_right (by decide) (by rw[k10];omega)
 have h3:8*2^b+8≤2^K10:=by
  have e:8*2^b*2≤2^K10:=by
   rw[show 8=2^3 from rfl,← Nat.pow_add,← Nat.pow_succ]
   exact Nat.pow_le_pow_right (by decide) (by rw[k10];omega)
  have:=Nat.two_pow_pos b
  omega
 have:=Nat.two_pow_pos b
 omega
theorem Qac(w:World)(n d:Nat)(hn:n+1<2^K10)(hd:d+1<2^K10)(hd0:0<d)(L:Qb w):
  Kc Tryz.prog 102 #[.string (dec n),.string (dec d)] w (.tuple #[fr (mkRat (n:Int) d),.int .i64 0]):=by
 have h:=Znw w n d (show Num _ from Zf5 (by rw[Int.natAbs_natCast];omega)) (Zf5 (by omega)) hd0 (Zf5 (by rw[Int.natAbs_natCast];exact hn)) (Zf5 hd) L
 rw[Kj,Zcw _ _ (by omega)] at h
 exact h
theorem Zbk(w:World)(R:Nat)(ps:List Int)(l:List Rat)(B b D:Nat)(H:Zlh w R ps l B)(hl:l.length=ps.length)(hn:ps.length≤100)(hp:∀ p∈ps,∃ q:Nat,p=q∧(q=2∨q∈Yt))(hs:∀ q∈l,Sm D q)(hD:D≤300)(hb:b≤B)(hB:B≤1000)(L:Qb w):
  Kc Tryz.prog 80 #[.pointer (some ⟨R,0,none⟩),.int .i64 b] w (.tuple #[fr (loE b ps l),fr (hiE b ps l)]):=by
 unfold Kc;have HH:=hd_ H;have Hp:=hd_ hp;have Hl:=hd_ hl;have Hs:=hd_ hs;have HL:=hd_ L;obtain⟨a0,c0,a1,c1,a2,c2,S⟩:=H;obtain⟨k0,k1,k2,k3,-⟩:=Zc0 S.ob;have hRs:R<w.heap.size:=(Array.getElem?_eq_some_iff.1 S.ob).1;have HRp:=hd_ S.rp;have HRl:=hd_ S.rl;have HPw:=hd_ (fun W (hW:Below w.heap.size w W)=>Znr W b (by omega) (HL.out.below hW))
 have Hk0:Hid (∀ W,Below w.heap.size w W→W.cell? ⟨R,0,none⟩=some (.slice a0 ps.length c0)):=fun W hW=>by rw[hW.cell (p:=⟨R,0,none⟩) hRs];exact k0
 have Hk1:Hid (∀ W,Below w.heap.size w W→W.cell? ⟨R,1,none⟩=some (.slice a1 ps.length c1)):=fun W hW=>by rw[hW.cell (p:=⟨R,1,none⟩) hRs];exact k1
 have Hv:Hid (True→(loE b ps l=loE b (ps.take ps.length) (l.take ps.length))∧hiE b ps l=hiE b (ps.take ps.length) (l.take ps.length)):=fun _=>by
  rw[List.take_length,List.take_of_length_le (by omega)];exact⟨rfl,rfl⟩
 obtain⟨vlo,hvlo⟩:∃ v,loE b ps l=v:=⟨_,rfl⟩;obtain⟨vhi,hvhi⟩:∃ v,hiE b ps l=v:=⟨_,rfl⟩;rw[hvlo,hvhi] at Hv ⊢;clear S L hs hp hl hvlo hvhi k2 k3;obtain⟨n,hn'⟩:∃ n,ps.length=n:=⟨_,rfl⟩;have Hn:=hd_ hn';rw[hn'] at hn Hk0 Hk1 Hv k0 k1;clear hn';unfold fr fv;go_enter Tryz.func80,Tryz.ntmps80
 go_wp2_with fail
 have HE0:Hid (EnI w ((w.alloc (.cells #[.string ⟨#[48]⟩,.string ⟨#[49]⟩] 42)).alloc (.cells #[.string ⟨#[48]⟩,.string ⟨#[49]⟩] 42)) 0 0):=by
  obtain⟨z1,z2⟩:=Zcr;have h1:=Zag.new w 0;have h2:=Zag.new (w.alloc (.cells #[.string (itx (0:Rat).num),.string (dec (0:Rat).den)] 42)) 0;rw[z1,z2] at h1 h2;refine⟨h1.below ((Below.refl _ _).alloc nr_ _),?_,((Below.refl _ _).alloc nr_ _).alloc (by simp) _⟩
  have e:(w.alloc (.cells #[.string ⟨#[48]⟩,.string ⟨#[49]⟩] 42)).heap.size=w.heap.size+1:=by simp
  rw[e] at h2;exact h2
 have Hz2:Hid (w.heap.size+2≤((w.alloc (.cells #[.string ⟨#[48]⟩,.string ⟨#[49]⟩] 42)).alloc (.cells #[.string ⟨#[48]⟩,.string ⟨#[49]⟩] 42)).heap.size):=by show _≤_;simp
 generalize (w.alloc (.cells #[.string ⟨#[48]⟩,.string ⟨#[49]⟩] 42)).alloc (.cells #[.string ⟨#[48]⟩,.string ⟨#[49]⟩] 42)=W0 at *
 refine cm_ (HPw.out _ HE0.out.bel) ?_;rintro e w1 ⟨rfl,hb1⟩;have HE1:=hd_ (HE0.out.below hb1);have Hz3:=hd_ (Nat.le_trans Hz2.out hb1.size);have k1':=Hk1.out _ HE1.out.bel;clear hb1 HE0 HPw k0 k1 Hz2
 go_wp2_with fail
 go_loopw [25] (fun i wr=>∃ k:Nat,k≤n∧i = .int .i64 k∧Hid (EnI w wr (loE b (ps.take k) (l.take k)) (hiE b (ps.take k) (l.take k)))∧Hid (w.heap.size+2≤wr.heap.size)) (fun i _=>n-(intOf i).toNat)
 case atStart=>exact⟨0,Nat.zero_le _,rfl,by simpa [loE,hiE] using HE1,Hz3⟩
 case round =>
  obtain⟨k,hk,rfl,HE,Hz⟩:=hrel;clear HE1 Hz3 k1'
  by_cases hlt:k<n
  ·have hlt':(k:Int)<n:=by omega
   have hkp:k<ps.length:=by rw[Hn.out];exact hlt
   have hkl:k<l.length:=by rw[Hl.out];exact hkp
   obtain⟨b0,o0,rfl,hb0,hc0⟩:=HRp.out.open (by rw[Qe];omega)
   have Hcp:Hid (∀ W,Below w.heap.size w W→W.cell? ⟨b0,o0+k,none⟩=some (.int .i64 ps[k])):=fun W hW=>by
    rw[hW.cell (p:=⟨b0,o0+k,none⟩) hb0];exact hc0 k _ (Yh ps k hkp)
   obtain⟨b1,o1,rfl,hb1,hc1⟩:=HRl.out.open (by rw[Ky];omega)
   obtain⟨x0,x1⟩:=Ql hc1 k (by rw[List.length_map];exact hkl)
   rw[Qt l k hkl] at x0 x1;rw[← HE.out.bel.cell (p:=⟨b1,o1+k*2,none⟩) hb1] at x0;rw[← HE.out.bel.cell (p:=⟨b1,o1+k*2+1,none⟩) hb1] at x1;have hkw:IntKind.i64.wrap ((k:Int)+1)=((k+1:Nat):Int):=by rw[← Int.natCast_succ];exact iw_ _ (by omega)
   have Hsg:=hd_ (fun W=>Zij W l[k])
   have Hst:=hd_ (Zgk b ps l k Hl.out hkp hkl);have Hsm:=hd_ (Zi9 (show b≤1056 by omega) Hp.out Hl.out Hs.out k (Nat.le_of_lt hkp))
   have Hcs:=hd_ (Hs.out l[k] (List.getElem_mem hkl));obtain⟨q,hq,hq2⟩:=Hp.out _ (List.getElem_mem hkp);have Hxs:=hd_ (Zw3 (p:=ps[k]) (Hp.out _ (List.getElem_mem hkp)) (show b≤1056 by omega))
   have HAt:=hd_ (fun W (hW:Below w.heap.size w W) (hz:l[k].num≠0)=>Zwx W R ps l B b k (HH.out.below hW) Hl.out (by rw[Hn.out];omega) hkp hkl (Hp.out _ (List.getElem_mem hkp)) hz hb hB (HL.out.below hW))
   have Hq:=hd_ hq;have Hq2:=hd_ hq2;have hDk:1+k*(D+356)≤65700:=by
    have:k*(D+356)≤100*656:=Nat.mul_le_mul (by omega) (by omega)
    omega
   clear hc0 hc1 hq hq2;unfold fr fv at Hsg;unfold qs at x0 x1;simp only at x0 x1;generalize l[k]=c at *
   generalize ps[k]=pk at *
   have Hb1000:=hd_ (show b≤1000 by omega)
   by_cases hz:c.num=0
   ·have hc0:c=0:=Rat.num_eq_zero.1 hz;have hskip:loE b (ps.take (k+1)) (l.take (k+1))=loE b (ps.take k) (l.take k)∧hiE b (ps.take (k+1)) (l.take (k+1))=hiE b (ps.take k) (l.take k):=by
     obtain⟨e1,e2⟩:=Zkr b pk;have:=Hst.out
     rw[hc0,e1,e2,Rat.add_zero,Rat.add_zero] at this;exact this
    have Hskip:=hd_ hskip;rw[hz] at Hsg x0;have HEa:=hd_ (HE.out.below ((Below.refl _ _).alloc nr_ (.cells #[.string (itx 0),.string (dec c.den)] 42)));have Hza:Hid (w.heap.size+2≤(wr.alloc (.cells #[.string (itx 0),.string (dec c.den)] 42)).heap.size):=by show _≤_;simp;have:=Hz.out;omega
    have k8:=Ka (heap_alloc_new wr (.cells #[.string (itx 0),.string (dec c.den)] 42));clear hskip HAt Hst Hsm Hcs Hxs Hq Hq2 Hcp hc0 hz
    go_wp2_with fail
    refine cm_ (Hsg.out _) ?_;rintro e w2 ⟨rfl,hb2⟩;have HE2:=hd_ (HEa.out.below hb2);have Hz2:=hd_ (Nat.le_trans Hza.out hb2.size);clear hb2 Hsg k8
    go_wp2_with fail
    refine⟨⟨k+1,by omega,by go_num,by rw[Hskip.out.1,Hskip.out.2];exact HE2,Hz2⟩,by simp[intOf];omega⟩
   ·have hsb:(c.num.sign==0)=false:=by
     rw[beq_eq_false_iff_ne];intro h;exact hz (Int.sign_eq_zero_iff_zero.1 h)
    have HAt':=hd_ (fun W hW=>HAt.out W hW hz)
    have HEa:=hd_ (HE.out.below ((Below.refl _ _).alloc nr_ (.cells #[.string (itx c.num),.string (dec c.den)] 42)));have Hza:Hid (w.heap.size+2≤(wr.alloc (.cells #[.string (itx c.num),.string (dec c.den)] 42)).heap.size):=by show _≤_;simp;have:=Hz.out;omega
    have F8:=hd_ (Zag.new wr c);obtain⟨g8,hg8⟩:∃ g8,g8=wr.heap.size:=⟨_,rfl⟩;have k8:=Ka (heap_alloc_new wr (.cells #[.string (itx c.num),.string (dec c.den)] 42));clear HAt hz
    go_wp2_with fail
    refine cm_ (Hsg.out _) ?_;rintro e w2 ⟨rfl,hb2⟩;have HE2:=hd_ (HEa.out.below hb2);have Hz2:=hd_ (Nat.le_trans Hza.out hb2.size);have F82:=hd_ (F8.out.below hb2);rw[← hg8] at F82;have hz8:w.heap.size+2≤g8:=by rw[hg8];exact Hz.out
    have h82:g8<w2.heap.size:=(Array.getElem?_eq_some_iff.1 F82.out).1;clear hb2 Hsg k8 HEa Hza F8;rw[← hg8];have Hz8:=hd_ hz8;have H82:=hd_ h82;clear x0 x1 hg8 hz8 h82;obtain⟨k0,k1,-,-⟩:=Ka F82.out;have q0:=NW.cell k0;have q1:=NW.cell k1;have hnon:Nonempty (NW w2):=⟨⟨w2,Below.refl _ _⟩⟩;have I:Hid (Below w2.heap.size w2 w2.drew):=(Below.refl _ _).drew
    go_wp2_with fail
    clear k0 k1;refine RP.wp_region_tree 5 (.rd 1 0 (.rd 1 1 (.two 2 3 (.mv 3 (.mv 4 (.mv 5 .nil))) (.mv 2 (.mv 4 (.mv 5 .nil)))))) (fun w'=>∃ p:NW w2,w'=p.w) (by kernel_rfl) (by kernel_rfl) ?_ ?_
    ·exact⟨⟨_,I.out⟩,rfl⟩
    iterate 2 (refine RP.walkT_read ?_;simp only[Kh,dz_,Kg,tz_];go_big_quiet_step (fail);refine wpQuiet_nil ?_)
    clear q0 q1 hnon;refine RP.walkT_two ?_ ?_
    ·simp only[Kh,dz_,Kg,tz_]
     go_wp2_with fail
     obtain⟨ga,hga⟩:∃ x,x=w2.heap.size:=⟨_,rfl⟩;have I3:Hid (Below w2.heap.size w2 (w2.alloc (.cells #[.string ⟨#[]⟩,.string ⟨#[]⟩] 42)).drew):=Qg ((Below.refl _ _).alloc nr_ _) 1;have N3:Hid ((w2.alloc (.cells #[.string ⟨#[]⟩,.string ⟨#[]⟩] 42)).drew.heap[ga]?=some (.cells #[.string ⟨#[]⟩,.string ⟨#[]⟩] 42 (0,0))):=by rw[hga];exact heap_alloc_new w2 _
     have Z3:Hid ((w2.alloc (.cells #[.string ⟨#[]⟩,.string ⟨#[]⟩] 42)).drew.heap.size=w2.heap.size+1):=by show _=_;simp
     rw[← hga];have Hga:=hd_ hga;clear hga;generalize (w2.alloc (.cells #[.string ⟨#[]⟩,.string ⟨#[]⟩] 42)).drew=w3 at *
     refine⟨⟨⟨_,I3.out⟩,rfl⟩,?_⟩;refine RP.walkT_move ?_;simp only[Kh,dz_,Kg,tz_]
     go_wp2_with fail
     obtain⟨gb,hgb⟩:∃ x,x=w3.heap.size:=⟨_,rfl⟩;have I4:Hid (Below w2.heap.size w2 (w3.alloc (.cells #[.string ⟨#[]⟩,.string ⟨#[]⟩] 42))):=I3.out.alloc I3.out.size _;have N4:Hid ((w3.alloc (.cells #[.string ⟨#[]⟩,.string ⟨#[]⟩] 42)).heap[ga]?=some (.cells #[.string ⟨#[]⟩,.string ⟨#[]⟩] 42 (0,0))):=by
      show _=_
      rw[((Below.refl _ w3).alloc nr_ _).block ga (Array.getElem?_eq_some_iff.1 N3.out).1];exact N3.out
     have M4:Hid ((w3.alloc (.cells #[.string ⟨#[]⟩,.string ⟨#[]⟩] 42)).heap[gb]?=some (.cells #[.string ⟨#[]⟩,.string ⟨#[]⟩] 42 (0,0))):=by rw[hgb];exact heap_alloc_new w3 _
     have hab:ga≠gb:=by have:=Z3.out;have:=Hga.out;omega
     have hx2:w2.heap.size≤ga:=by have:=Hga.out;omega
     have hy2:w2.heap.size≤gb:=by have:=Z3.out;omega
     rw[← hgb];clear N3 I3 hgb Z3;generalize w3.alloc (.cells #[.string ⟨#[]⟩,.string ⟨#[]⟩] 42)=w4 at *
     have NA:=N4;have NB:=M4;have hga2:=hx2;have hgb2:=hy2;have Hgab:=hd_ hab;clear N4 M4 hx2 hy2 hab;refine⟨⟨⟨_,I4.out⟩,rfl⟩,?_⟩;refine RP.walkT_move ?_;simp only[Kh,dz_,Kg,tz_];obtain⟨n0,n1,f0,f1⟩:=Ka NA.out
     go_wp2_with fail
     have I5:=hd_ ((I4.out.setCell (p:=⟨ga,0,none⟩) hga2 (.string (itx c.num))).setCell (p:=⟨ga,1,none⟩) hga2 (.string (dec c.den)));have FA5:Hid (Zag ((w4.setCell ⟨ga,0,none⟩ (.string (itx c.num))).setCell ⟨ga,1,none⟩ (.string (dec c.den))) ga c):=Vx NA.out;have NB5:Hid (((w4.setCell ⟨ga,0,none⟩ (.string (itx c.num))).setCell ⟨ga,1,none⟩ (.string (dec c.den))).heap[gb]?=some (.cells #[.string ⟨#[]⟩,.string ⟨#[]⟩] 42 (0,0))):=by
      show _=_
      rw[Below.heap_setCell _ _ _ _ (Ne.symm Hgab.out),Below.heap_setCell _ _ _ _ (Ne.symm Hgab.out)];exact NB.out
     clear n0 n1 f0 f1 NA NB I4;generalize (w4.setCell ⟨ga,0,none⟩ (.string (itx c.num))).setCell ⟨ga,1,none⟩ (.string (dec c.den))=w5 at *
     refine⟨⟨⟨_,I5.out⟩,rfl⟩,?_⟩;refine RP.walkT_move ?_;simp only[Kh,dz_,Kg,tz_];obtain⟨n0,n1,f0,f1⟩:=Ka NB5.out
     go_wp2_with fail
     have I6:=hd_ ((I5.out.setCell (p:=⟨gb,0,none⟩) hgb2 (.string (itx c.num))).setCell (p:=⟨gb,1,none⟩) hgb2 (.string (dec c.den)));have FB6:Hid (Zag ((w5.setCell ⟨gb,0,none⟩ (.string (itx c.num))).setCell ⟨gb,1,none⟩ (.string (dec c.den))) gb c):=Vx NB5.out;have FA6:=hd_ (FA5.out.set Hgab.out (.string (itx c.num)) (.string (dec c.den)));clear n0 n1 f0 f1 FA5 NB5 I5;generalize (w5.setCell ⟨gb,0,none⟩ (.string (itx c.num))).setCell ⟨gb,1,none⟩ (.string (dec c.den))=w6 at *
     have HE6:=hd_ (HE2.out.below I6.out);have F86:=hd_ (F82.out.below I6.out);have hga:w.heap.size+2≤ga:=by have:=Hz2.out;omega
     have hgb:w.heap.size+2≤gb:=by have:=Hz2.out;omega
     have Hg8a:Hid (g8≠ga):=by have:=H82.out;show _≠_;omega
     have Hg8b:Hid (g8≠gb):=by have:=H82.out;show _≠_;omega
     have Hz6:=hd_ (Nat.le_trans Hz2.out I6.out.size);clear HE2 F82 I6 hga2 hgb2 Hz2 H82;simp only[RP.walkT];have k0':=Hk0.out w6 HE6.out.bel;have cp:=Hcp.out w6 HE6.out.bel
     by_cases h2:pk=2
     ·have h2b:(pk != 2)=false:=by rw[h2];rfl
      have Hva:Hid (c=c*xE pk b∧Sm (D+355) c):=⟨by rw[h2];unfold xE;rw[if_pos rfl,Rat.mul_one],Hcs.out.le (by omega)⟩
      have Hvb:Hid (c=c*yE pk b∧Sm (D+355) c):=⟨by rw[h2];unfold yE;rw[if_pos rfl,Rat.mul_one],Hcs.out.le (by omega)⟩
      clear HAt';obtain⟨k0,k1,-,-⟩:=Ka HE6.out.e0;obtain⟨k2,k3,-,-⟩:=Ka HE6.out.e1;obtain⟨k4,k5,-,-⟩:=Ka FA6.out;obtain⟨k6,k7,-,-⟩:=Ka FB6.out;have q0:=NW.cell k0;have q1:=NW.cell k1;have q2:=NW.cell k2;have q3:=NW.cell k3;have q4:=NW.cell k4;have q5:=NW.cell k5;have q6:=NW.cell k6;have q7:=NW.cell k7;have hnon:Nonempty (NW w6):=⟨⟨w6,Below.refl _ _⟩⟩;have I:Hid (Below w6.heap.size w6 w6.drew):=(Below.refl _ _).drew;have HLa:=hd_ (fun X (hX:Below w6.heap.size w6 X)=>HL.out.below (HE6.out.bel.trans (hX.mono HE6.out.bel.size)))
      have Hmn:=hd_ (fun X hX=>Zf6 X c c (D+355) (D+355) Hva.out.2 Hvb.out.2 (by omega) (HLa.out X hX))
      have Hmx:=hd_ (fun X hX=>Zf7 X c c (D+355) (D+355) Hva.out.2 Hvb.out.2 (by omega) (HLa.out X hX))
      have Had:=hd_ (fun X hX=>Zqj X _ _ _ _ Hsm.out.1 (Zeb Hva.out.2 Hvb.out.2) (by omega) (HLa.out X hX))
      have Had2:=hd_ (fun X hX=>Zqj X _ _ _ _ Hsm.out.2 (Zec Hva.out.2 Hvb.out.2) (by omega) (HLa.out X hX))
      have hst1:loE b (ps.take k) (l.take k)+Zg8 c c=loE b (ps.take (k+1)) (l.take (k+1)):=by first | (rw[Hst.out.1];done) | (rw[Hst.out.1,← Hva.out.1,← Hvb.out.1];done)
      have hst2:hiE b (ps.take k) (l.take k)+Zg9 c c=hiE b (ps.take (k+1)) (l.take (k+1)):=by first | (rw[Hst.out.2];done) | (rw[Hst.out.2,← Hva.out.1,← Hvb.out.1];done)
      rw[hst1] at Had;rw[hst2] at Had2;clear hst1 hst2 HLa;unfold fr fv at Hmn Hmx Had Had2
      go_wp2_with fail
      clear k0 k1 k2 k3 k4 k5 k6 k7;refine RP.wp_region_readers 10 [(1,0),(1,1),(1,2),(1,5),(1,6),(1,7),(0,3),(0,4),(0,8),(0,9),(0,10),(0,11)] (fun w'=>∃ p:NW w6,w'=p.w) (by kernel_rfl) (by kernel_rfl) ?_ ?_
      ·exact⟨⟨_,I.out⟩,rfl⟩
      iterate 6 (refine RP.walkR_read ?_;simp only[Kh,dz_,Kg,tz_];go_big_quiet_step (fail);refine wpQuiet_nil ?_)
      clear q0 q1 q2 q3 q4 q5 q6 q7 hnon;refine RP.walkR_move ?_;simp only[Kh,dz_,Kg,tz_]
      go_wp2_with fail
      refine cm_ (Hmn.out _ I.out) ?_;rintro e x1 ⟨rfl,hbx⟩;have J1:Hid (Below w6.heap.size w6 x1):=I.out.trans (hbx.mono I.out.size);clear hbx I Hmn
      go_wp2_with fail
      refine⟨⟨⟨_,J1.out⟩,rfl⟩,?_⟩;refine RP.walkR_move ?_;simp only[Kh,dz_,Kg,tz_]
      go_wp2_with fail
      refine cm_ (Had.out _ J1.out) ?_;rintro e x2 ⟨rfl,hbx⟩;have J2:Hid (Below w6.heap.size w6 x2):=J1.out.trans (hbx.mono J1.out.size);clear hbx J1 Had
      go_wp2_with fail
      refine⟨⟨⟨_,J2.out⟩,rfl⟩,?_⟩;refine RP.walkR_move ?_;simp only[Kh,dz_,Kg,tz_]
      go_wp2_with fail
      refine cm_ (Hmx.out _ J2.out) ?_;rintro e x3 ⟨rfl,hbx⟩;have J3:Hid (Below w6.heap.size w6 x3):=J2.out.trans (hbx.mono J2.out.size);clear hbx J2 Hmx
      go_wp2_with fail
      refine⟨⟨⟨_,J3.out⟩,rfl⟩,?_⟩;refine RP.walkR_move ?_;simp only[Kh,dz_,Kg,tz_]
      go_wp2_with fail
      refine cm_ (Had2.out _ J3.out) ?_;rintro e x4 ⟨rfl,hbx⟩;have J4:Hid (Below w6.heap.size w6 x4):=J3.out.trans (hbx.mono J3.out.size);clear hbx J3 Had2
      go_wp2_with fail
      refine⟨⟨⟨_,J4.out⟩,rfl⟩,?_⟩;have HEx:=hd_ (HE6.out.below J4.out);have Hzx:=hd_ (Nat.le_trans Hz6.out J4.out.size);obtain⟨k0,k1,f0,f1⟩:=Ka HEx.out.e0;obtain⟨k2,k3,f2,f3⟩:=Ka HEx.out.e1;have HEp:=hd_ (HEx.out.put (loE b (ps.take (k+1)) (l.take (k+1))) (hiE b (ps.take (k+1)) (l.take (k+1))));have Hzp:Hid (w.heap.size+2≤(Vs x4 w.heap.size (loE b (ps.take (k+1)) (l.take (k+1))) (hiE b (ps.take (k+1)) (l.take (k+1)))).heap.size):=by
       show _≤_
       unfold Vs;rw[World.size_setCell,World.size_setCell,World.size_setCell,World.size_setCell];exact Hzx.out
      unfold Vs at HEp Hzp;clear HEx J4 Hzx;refine RP.walkR_move ?_;simp only[Kh,dz_,Kg,tz_]
      go_wp2_with fail
      refine RP.walkR_move ?_;simp only[Kh,dz_,Kg,tz_]
      go_wp2_with fail
      simp only[RP.walkR]
      go_wp2_with fail
      refine⟨⟨k+1,by omega,by go_num,HEp,Hzp⟩,by simp[intOf];omega⟩
     ·have h2b:(pk != 2)=true:=by rw[bne_iff_ne];exact h2
      have h2c:(pk==2)=false:=by rw[beq_eq_false_iff_ne];exact h2
      have Hva:Hid (c*xE pk b=c*xE pk b∧Sm (D+355) (c*xE pk b)):=⟨rfl,Hcs.out.mul Hxs.out.1⟩;have Hvb:Hid (c*yE pk b=c*yE pk b∧Sm (D+355) (c*yE pk b)):=⟨rfl,Hcs.out.mul Hxs.out.2⟩;have hlk:lgN pk b+2<2^K10∧2^b+1<2^K10:=by
       rw[Hq.out];exact Zwq Hq2.out Hb1000.out
      have Hnx:=hd_ (fun W (hW:Below w.heap.size w W)=>Qac W (lgN pk b) (2^b) (by omega) hlk.2 (Nat.two_pow_pos b) (HL.out.below hW))
      have Hny:=hd_ (fun W (hW:Below w.heap.size w W)=>Qac W (lgN pk b+1) (2^b) (by omega) hlk.2 (Nat.two_pow_pos b) (HL.out.below hW))
      have Had1:=hd_ (fun W (hW:Below w.heap.size w W)=>Zv5 W (lgN pk b) 1 K10 (by decide) (by omega) (Nat.one_lt_two_pow (by decide)) (HL.out.below hW))
      rw[Vf] at Had1;have hxe:mkRat ((lgN pk b:Nat):Int) (2^b)=xE pk b:=by unfold xE;rw[if_neg h2]
      have hye:mkRat ((lgN pk b+1:Nat):Int) (2^b)=yE pk b:=by unfold yE;rw[if_neg h2]
      rw[hxe] at Hnx;rw[hye] at Hny;have Hmx':=hd_ (fun W (hW:Below w.heap.size w W)=>Ztu W c (xE pk b) D 355 Hcs.out Hxs.out.1 (by omega) (HL.out.below hW))
      have Hmy':=hd_ (fun W (hW:Below w.heap.size w W)=>Ztu W c (yE pk b) D 355 Hcs.out Hxs.out.2 (by omega) (HL.out.below hW))
      clear hlk hxe hye h2;unfold fr fv at Hnx Hny Hmx' Hmy'
      go_wp2_with fail
      refine cm_ (HAt'.out _ HE6.out.bel) ?_;rintro e w7 ⟨rfl,hbx⟩;have HE7:=hd_ (HE6.out.below hbx);have FA7:=hd_ (FA6.out.below hbx);have FB7:=hd_ (FB6.out.below hbx);have F87:=hd_ (F86.out.below hbx);have Hz7:=hd_ (Nat.le_trans Hz6.out hbx.size);clear hbx HAt' HE6 FA6 FB6 F86 Hz6 k0' cp
      go_wp2_with fail
      refine cm_ (Hnx.out _ HE7.out.bel) ?_;rintro e w8 ⟨rfl,hbx⟩;have hbx2:=hd_ (hbx.alloc hbx.size (.cells #[.string (itx (xE pk b).num),.string (dec (xE pk b).den)] 42));have HE8:=hd_ (HE7.out.below hbx2.out);have FA8:=hd_ (FA7.out.below hbx2.out);have FB8:=hd_ (FB7.out.below hbx2.out);have F88:=hd_ (F87.out.below hbx2.out);have Hz8':=hd_ (Nat.le_trans Hz7.out hbx2.out.size);have FX:=hd_ (Zag.new w8 (xE pk b));have hgx:=hd_ (Nat.le_trans Hz7.out hbx.size);clear hbx hbx2 HE7 FA7 FB7 F87 Hz7 Hnx
      go_wp2_with fail
      generalize w8.alloc (.cells #[.string (itx (xE pk b).num),.string (dec (xE pk b).den)] 42)=w9 at *
      generalize w8.heap.size=gx at *
      refine cm_ (Had1.out _ HE8.out.bel) ?_;rintro e w10 ⟨rfl,hbx⟩;have HE10:=hd_ (HE8.out.below hbx);have FA10:=hd_ (FA8.out.below hbx);have FB10:=hd_ (FB8.out.below hbx);have F810:=hd_ (F88.out.below hbx);have FX10:=hd_ (FX.out.below hbx);have Hz10:=hd_ (Nat.le_trans Hz8'.out hbx.size);clear hbx HE8 FA8 FB8 F88 FX Hz8' Had1
      go_wp2_with fail
      refine cm_ (Hny.out _ HE10.out.bel) ?_;rintro e w11 ⟨rfl,hbx⟩;have hbx2:=hd_ (hbx.alloc hbx.size (.cells #[.string (itx (yE pk b).num),.string (dec (yE pk b).den)] 42));have HE12:=hd_ (HE10.out.below hbx2.out);have FA12:=hd_ (FA10.out.below hbx2.out);have FB12:=hd_ (FB10.out.below hbx2.out);have F812:=hd_ (F810.out.below hbx2.out);have FX12:=hd_ (FX10.out.below hbx2.out);have FY12:=hd_ (Zag.new w11 (yE pk b));have Hz12:=hd_ (Nat.le_trans Hz10.out hbx2.out.size);obtain⟨k0,k1,-,-⟩:=Ka F812.out;obtain⟨k2,k3,-,-⟩:=Ka FX12.out;obtain⟨k4,k5,-,-⟩:=Ka FY12.out;have q0:=NW.cell k0;have q1:=NW.cell k1;have q2:=NW.cell k2;have q3:=NW.cell k3;have q4:=NW.cell k4;have q5:=NW.cell k5;clear hbx hbx2 HE10 FA10 FB10 F810 FX10 Hz10 Hny k0 k1 k2 k3 k4 k5
      go_wp2_with fail
      generalize w11.alloc (.cells #[.string (itx (yE pk b).num),.string (dec (yE pk b).den)] 42)=w12 at *
      generalize w11.heap.size=gy at *
      have hnon:Nonempty (NW w12):=⟨⟨w12,Below.refl _ _⟩⟩;have I:Hid (Below w12.heap.size w12 w12.drew):=(Below.refl _ _).drew;refine RP.wp_region_readers 6 [(1,0),(1,1),(1,3),(1,4),(0,2),(0,5),(0,6),(0,7)] (fun w'=>∃ p:NW w12,w'=p.w) (by kernel_rfl) (by kernel_rfl) ?_ ?_
      ·exact⟨⟨_,I.out⟩,rfl⟩
      iterate 4 (refine RP.walkR_read ?_;simp only[Kh,dz_,Kg,tz_];go_big_quiet_step (fail);refine wpQuiet_nil ?_)
      clear hnon q0 q1 q2 q3 q4 q5;refine RP.walkR_move ?_;simp only[Kh,dz_,Kg,tz_]
      go_wp2_with fail
      refine cm_ (Hmx'.out _ (HE12.out.bel.trans (I.out.mono HE12.out.bel.size))) ?_;rintro e y1 ⟨rfl,hbx⟩;have J1:Hid (Below w12.heap.size w12 y1):=I.out.trans (hbx.mono I.out.size);clear hbx I Hmx'
      go_wp2_with fail
      refine⟨⟨⟨_,J1.out⟩,rfl⟩,?_⟩;refine RP.walkR_move ?_;simp only[Kh,dz_,Kg,tz_]
      go_wp2_with fail
      refine cm_ (Hmy'.out _ (HE12.out.bel.trans (J1.out.mono HE12.out.bel.size))) ?_;rintro e y2 ⟨rfl,hbx⟩;have J2:Hid (Below w12.heap.size w12 y2):=J1.out.trans (hbx.mono J1.out.size);clear hbx J1 Hmy'
      go_wp2_with fail
      refine⟨⟨⟨_,J2.out⟩,rfl⟩,?_⟩;have HEy:=hd_ (HE12.out.below J2.out);have FAy:=hd_ (FA12.out.below J2.out);have FBy:=hd_ (FB12.out.below J2.out);have Hzy:=hd_ (Nat.le_trans Hz12.out J2.out.size);obtain⟨k0,k1,f0,f1⟩:=Ka FAy.out;have FA1:=hd_ (FAy.out.put (c*xE pk b));have FB1:=hd_ (FBy.out.set (Ne.symm Hgab.out) (.string (itx (c*xE pk b).num)) (.string (dec (c*xE pk b).den)));have HE1':=hd_ (HEy.out.set hga (.string (itx (c*xE pk b).num)) (.string (dec (c*xE pk b).den)));have Hz1:Hid (w.heap.size+2≤((y2.setCell ⟨ga,0,none⟩ (.string (itx (c*xE pk b).num))).setCell ⟨ga,1,none⟩ (.string (dec (c*xE pk b).den))).heap.size):=by
       show _≤_
       rw[World.size_setCell,World.size_setCell];exact Hzy.out
      clear HE12 FA12 FB12 F812 FX12 FY12 Hz12 J2 HEy FAy FBy Hzy;refine RP.walkR_move ?_;simp only[Kh,dz_,Kg,tz_]
      go_wp2_with fail
      generalize (y2.setCell ⟨ga,0,none⟩ (.string (itx (c*xE pk b).num))).setCell ⟨ga,1,none⟩ (.string (dec (c*xE pk b).den))=y3 at *
      clear k0 k1 f0 f1;obtain⟨k0,k1,f0,f1⟩:=Ka FB1.out;have FA2:=hd_ (FA1.out.set Hgab.out (.string (itx (c*yE pk b).num)) (.string (dec (c*yE pk b).den)));have FB2:=hd_ (FB1.out.put (c*yE pk b));have HE2':=hd_ (HE1'.out.set hgb (.string (itx (c*yE pk b).num)) (.string (dec (c*yE pk b).den)));have Hz2':Hid (w.heap.size+2≤((y3.setCell ⟨gb,0,none⟩ (.string (itx (c*yE pk b).num))).setCell ⟨gb,1,none⟩ (.string (dec (c*yE pk b).den))).heap.size):=by
       show _≤_
       rw[World.size_setCell,World.size_setCell];exact Hz1.out
      clear FA1 FB1 HE1' Hz1;refine RP.walkR_move ?_;simp only[Kh,dz_,Kg,tz_]
      go_wp2_with fail
      generalize (y3.setCell ⟨gb,0,none⟩ (.string (itx (c*yE pk b).num))).setCell ⟨gb,1,none⟩ (.string (dec (c*yE pk b).den))=y4 at *
      clear k0 k1 f0 f1;simp only[RP.walkR];generalize hXc:c*xE pk b=vx at *
      generalize hYc:c*yE pk b=vy at *
      have Hva:=hd_ (show c*xE pk b=vx∧Sm (D+355) vx from ⟨hXc,Hva.out.2⟩)
      have Hvb:=hd_ (show c*yE pk b=vy∧Sm (D+355) vy from ⟨hYc,Hvb.out.2⟩)
      clear hXc hYc;obtain⟨k0,k1,-,-⟩:=Ka HE2'.out.e0;obtain⟨k2,k3,-,-⟩:=Ka HE2'.out.e1;obtain⟨k4,k5,-,-⟩:=Ka FA2.out;obtain⟨k6,k7,-,-⟩:=Ka FB2.out;have q0:=NW.cell k0;have q1:=NW.cell k1;have q2:=NW.cell k2;have q3:=NW.cell k3;have q4:=NW.cell k4;have q5:=NW.cell k5;have q6:=NW.cell k6;have q7:=NW.cell k7;have hnon:Nonempty (NW y4):=⟨⟨y4,Below.refl _ _⟩⟩;have I:Hid (Below y4.heap.size y4 y4.drew):=(Below.refl _ _).drew;have HLa:=hd_ (fun X (hX:Below y4.heap.size y4 X)=>HL.out.below (HE2'.out.bel.trans (hX.mono HE2'.out.bel.size)))
      have Hmn:=hd_ (fun X hX=>Zf6 X vx vy (D+355) (D+355) Hva.out.2 Hvb.out.2 (by omega) (HLa.out X hX))
      have Hmx:=hd_ (fun X hX=>Zf7 X vx vy (D+355) (D+355) Hva.out.2 Hvb.out.2 (by omega) (HLa.out X hX))
      have Had:=hd_ (fun X hX=>Zqj X _ _ _ _ Hsm.out.1 (Zeb Hva.out.2 Hvb.out.2) (by omega) (HLa.out X hX))
      have Had2:=hd_ (fun X hX=>Zqj X _ _ _ _ Hsm.out.2 (Zec Hva.out.2 Hvb.out.2) (by omega) (HLa.out X hX))
      have hst1:loE b (ps.take k) (l.take k)+Zg8 vx vy=loE b (ps.take (k+1)) (l.take (k+1)):=by first | (rw[Hst.out.1];done) | (rw[Hst.out.1,← Hva.out.1,← Hvb.out.1];done)
      have hst2:hiE b (ps.take k) (l.take k)+Zg9 vx vy=hiE b (ps.take (k+1)) (l.take (k+1)):=by first | (rw[Hst.out.2];done) | (rw[Hst.out.2,← Hva.out.1,← Hvb.out.1];done)
      rw[hst1] at Had;rw[hst2] at Had2;clear hst1 hst2 HLa;unfold fr fv at Hmn Hmx Had Had2
      go_wp2_with fail
      clear k0 k1 k2 k3 k4 k5 k6 k7;refine RP.wp_region_readers 10 [(1,0),(1,1),(1,2),(1,5),(1,6),(1,7),(0,3),(0,4),(0,8),(0,9),(0,10),(0,11)] (fun w'=>∃ p:NW y4,w'=p.w) (by kernel_rfl) (by kernel_rfl) ?_ ?_
      ·exact⟨⟨_,I.out⟩,rfl⟩
      iterate 6 (refine RP.walkR_read ?_;simp only[Kh,dz_,Kg,tz_];go_big_quiet_step (fail);refine wpQuiet_nil ?_)
      clear q0 q1 q2 q3 q4 q5 q6 q7 hnon;refine RP.walkR_move ?_;simp only[Kh,dz_,Kg,tz_]
      go_wp2_with fail
      refine cm_ (Hmn.out _ I.out) ?_;rintro e x1 ⟨rfl,hbx⟩;have J1:Hid (Below y4.heap.size y4 x1):=I.out.trans (hbx.mono I.out.size);clear hbx I Hmn
      go_wp2_with fail
      refine⟨⟨⟨_,J1.out⟩,rfl⟩,?_⟩;refine RP.walkR_move ?_;simp only[Kh,dz_,Kg,tz_]
      go_wp2_with fail
      refine cm_ (Had.out _ J1.out) ?_;rintro e x2 ⟨rfl,hbx⟩;have J2:Hid (Below y4.heap.size y4 x2):=J1.out.trans (hbx.mono J1.out.size);clear hbx J1 Had
      go_wp2_with fail
      refine⟨⟨⟨_,J2.out⟩,rfl⟩,?_⟩;refine RP.walkR_move ?_;simp only[Kh,dz_,Kg,tz_]
      go_wp2_with fail
      refine cm_ (Hmx.out _ J2.out) ?_;rintro e x3 ⟨rfl,hbx⟩;have J3:Hid (Below y4.heap.size y4 x3):=J2.out.trans (hbx.mono J2.out.size);clear hbx J2 Hmx
      go_wp2_with fail
      refine⟨⟨⟨_,J3.out⟩,rfl⟩,?_⟩;refine RP.walkR_move ?_;simp only[Kh,dz_,Kg,tz_]
      go_wp2_with fail
      refine cm_ (Had2.out _ J3.out) ?_;rintro e x4 ⟨rfl,hbx⟩;have J4:Hid (Below y4.heap.size y4 x4):=J3.out.trans (hbx.mono J3.out.size);clear hbx J3 Had2
      go_wp2_with fail
      refine⟨⟨⟨_,J4.out⟩,rfl⟩,?_⟩;have HEx:=hd_ (HE2'.out.below J4.out);have Hzx:=hd_ (Nat.le_trans Hz2'.out J4.out.size);obtain⟨k0,k1,f0,f1⟩:=Ka HEx.out.e0;obtain⟨k2,k3,f2,f3⟩:=Ka HEx.out.e1;have HEp:=hd_ (HEx.out.put (loE b (ps.take (k+1)) (l.take (k+1))) (hiE b (ps.take (k+1)) (l.take (k+1))));have Hzp:Hid (w.heap.size+2≤(Vs x4 w.heap.size (loE b (ps.take (k+1)) (l.take (k+1))) (hiE b (ps.take (k+1)) (l.take (k+1)))).heap.size):=by
       show _≤_
       unfold Vs;rw[World.size_setCell,World.size_setCell,World.size_setCell,World.size_setCell];exact Hzx.out
      unfold Vs at HEp Hzp;clear HEx J4 Hzx;refine RP.walkR_move ?_;simp only[Kh,dz_,Kg,tz_]
      go_wp2_with fail
      refine RP.walkR_move ?_;simp only[Kh,dz_,Kg,tz_]
      go_wp2_with fail
      simp only[RP.walkR]
      go_wp2_with fail
      refine⟨⟨k+1,by omega,by go_num,HEp,Hzp⟩,by simp[intOf];omega⟩
    ·simp only[Kh,dz_,Kg,tz_]
     go_wp2_with fail
     obtain⟨gb,hgb⟩:∃ x,x=w2.heap.size:=⟨_,rfl⟩;have I3:Hid (Below w2.heap.size w2 (w2.alloc (.cells #[.string ⟨#[]⟩,.string ⟨#[]⟩] 42)).drew):=Qg ((Below.refl _ _).alloc nr_ _) 1;have N3:Hid ((w2.alloc (.cells #[.string ⟨#[]⟩,.string ⟨#[]⟩] 42)).drew.heap[gb]?=some (.cells #[.string ⟨#[]⟩,.string ⟨#[]⟩] 42 (0,0))):=by rw[hgb];exact heap_alloc_new w2 _
     have Z3:Hid ((w2.alloc (.cells #[.string ⟨#[]⟩,.string ⟨#[]⟩] 42)).drew.heap.size=w2.heap.size+1):=by show _=_;simp
     rw[← hgb];have Hgb:=hd_ hgb;clear hgb;generalize (w2.alloc (.cells #[.string ⟨#[]⟩,.string ⟨#[]⟩] 42)).drew=w3 at *
     refine⟨⟨⟨_,I3.out⟩,rfl⟩,?_⟩;refine RP.walkT_move ?_;simp only[Kh,dz_,Kg,tz_]
     go_wp2_with fail
     obtain⟨ga,hga⟩:∃ x,x=w3.heap.size:=⟨_,rfl⟩;have I4:Hid (Below w2.heap.size w2 (w3.alloc (.cells #[.string ⟨#[]⟩,.string ⟨#[]⟩] 42))):=I3.out.alloc I3.out.size _;have N4:Hid ((w3.alloc (.cells #[.string ⟨#[]⟩,.string ⟨#[]⟩] 42)).heap[gb]?=some (.cells #[.string ⟨#[]⟩,.string ⟨#[]⟩] 42 (0,0))):=by
      show _=_
      rw[((Below.refl _ w3).alloc nr_ _).block gb (Array.getElem?_eq_some_iff.1 N3.out).1];exact N3.out
     have M4:Hid ((w3.alloc (.cells #[.string ⟨#[]⟩,.string ⟨#[]⟩] 42)).heap[ga]?=some (.cells #[.string ⟨#[]⟩,.string ⟨#[]⟩] 42 (0,0))):=by rw[hga];exact heap_alloc_new w3 _
     have hab:gb≠ga:=by have:=Z3.out;have:=Hgb.out;omega
     have hx2:w2.heap.size≤gb:=by have:=Hgb.out;omega
     have hy2:w2.heap.size≤ga:=by have:=Z3.out;omega
     rw[← hga];clear N3 I3 hga Z3;generalize w3.alloc (.cells #[.string ⟨#[]⟩,.string ⟨#[]⟩] 42)=w4 at *
     have NA:=M4;have NB:=N4;have hga2:=hy2;have hgb2:=hx2;have Hgab:=hd_ (Ne.symm hab);clear N4 M4 hx2 hy2 hab;refine⟨⟨⟨_,I4.out⟩,rfl⟩,?_⟩;refine RP.walkT_move ?_;simp only[Kh,dz_,Kg,tz_];obtain⟨n0,n1,f0,f1⟩:=Ka NA.out
     go_wp2_with fail
     have I5:=hd_ ((I4.out.setCell (p:=⟨ga,0,none⟩) hga2 (.string (itx c.num))).setCell (p:=⟨ga,1,none⟩) hga2 (.string (dec c.den)));have FA5:Hid (Zag ((w4.setCell ⟨ga,0,none⟩ (.string (itx c.num))).setCell ⟨ga,1,none⟩ (.string (dec c.den))) ga c):=Vx NA.out;have NB5:Hid (((w4.setCell ⟨ga,0,none⟩ (.string (itx c.num))).setCell ⟨ga,1,none⟩ (.string (dec c.den))).heap[gb]?=some (.cells #[.string ⟨#[]⟩,.string ⟨#[]⟩] 42 (0,0))):=by
      show _=_
      rw[Below.heap_setCell _ _ _ _ (Ne.symm Hgab.out),Below.heap_setCell _ _ _ _ (Ne.symm Hgab.out)];exact NB.out
     clear n0 n1 f0 f1 NA NB I4;generalize (w4.setCell ⟨ga,0,none⟩ (.string (itx c.num))).setCell ⟨ga,1,none⟩ (.string (dec c.den))=w5 at *
     refine⟨⟨⟨_,I5.out⟩,rfl⟩,?_⟩;refine RP.walkT_move ?_;simp only[Kh,dz_,Kg,tz_];obtain⟨n0,n1,f0,f1⟩:=Ka NB5.out
     go_wp2_with fail
     have I6:=hd_ ((I5.out.setCell (p:=⟨gb,0,none⟩) hgb2 (.string (itx c.num))).setCell (p:=⟨gb,1,none⟩) hgb2 (.string (dec c.den)));have FB6:Hid (Zag ((w5.setCell ⟨gb,0,none⟩ (.string (itx c.num))).setCell ⟨gb,1,none⟩ (.string (dec c.den))) gb c):=Vx NB5.out;have FA6:=hd_ (FA5.out.set Hgab.out (.string (itx c.num)) (.string (dec c.den)));clear n0 n1 f0 f1 FA5 NB5 I5;generalize (w5.setCell ⟨gb,0,none⟩ (.string (itx c.num))).setCell ⟨gb,1,none⟩ (.string (dec c.den))=w6 at *
     have HE6:=hd_ (HE2.out.below I6.out);have F86:=hd_ (F82.out.below I6.out);have hga:w.heap.size+2≤ga:=by have:=Hz2.out;omega
     have hgb:w.heap.size+2≤gb:=by have:=Hz2.out;omega
     have Hg8a:Hid (g8≠ga):=by have:=H82.out;show _≠_;omega
     have Hg8b:Hid (g8≠gb):=by have:=H82.out;show _≠_;omega
     have Hz6:=hd_ (Nat.le_trans Hz2.out I6.out.size);clear HE2 F82 I6 hga2 hgb2 Hz2 H82;simp only[RP.walkT];have k0':=Hk0.out w6 HE6.out.bel;have cp:=Hcp.out w6 HE6.out.bel
     by_cases h2:pk=2
     ·have h2b:(pk != 2)=false:=by rw[h2];rfl
      have Hva:Hid (c=c*xE pk b∧Sm (D+355) c):=⟨by rw[h2];unfold xE;rw[if_pos rfl,Rat.mul_one],Hcs.out.le (by omega)⟩
      have Hvb:Hid (c=c*yE pk b∧Sm (D+355) c):=⟨by rw[h2];unfold yE;rw[if_pos rfl,Rat.mul_one],Hcs.out.le (by omega)⟩
      clear HAt';obtain⟨k0,k1,-,-⟩:=Ka HE6.out.e0;obtain⟨k2,k3,-,-⟩:=Ka HE6.out.e1;obtain⟨k4,k5,-,-⟩:=Ka FA6.out;obtain⟨k6,k7,-,-⟩:=Ka FB6.out;have q0:=NW.cell k0;have q1:=NW.cell k1;have q2:=NW.cell k2;have q3:=NW.cell k3;have q4:=NW.cell k4;have q5:=NW.cell k5;have q6:=NW.cell k6;have q7:=NW.cell k7;have hnon:Nonempty (NW w6):=⟨⟨w6,Below.refl _ _⟩⟩;have I:Hid (Below w6.heap.size w6 w6.drew):=(Below.refl _ _).drew;have HLa:=hd_ (fun X (hX:Below w6.heap.size w6 X)=>HL.out.below (HE6.out.bel.trans (hX.mono HE6.out.bel.size)))
      have Hmn:=hd_ (fun X hX=>Zf6 X c c (D+355) (D+355) Hva.out.2 Hvb.out.2 (by omega) (HLa.out X hX))
      have Hmx:=hd_ (fun X hX=>Zf7 X c c (D+355) (D+355) Hva.out.2 Hvb.out.2 (by omega) (HLa.out X hX))
      have Had:=hd_ (fun X hX=>Zqj X _ _ _ _ Hsm.out.1 (Zeb Hva.out.2 Hvb.out.2) (by omega) (HLa.out X hX))
      have Had2:=hd_ (fun X hX=>Zqj X _ _ _ _ Hsm.out.2 (Zec Hva.out.2 Hvb.out.2) (by omega) (HLa.out X hX))
      have hst1:loE b (ps.take k) (l.take k)+Zg8 c c=loE b (ps.take (k+1)) (l.take (k+1)):=by first | (rw[Hst.out.1];done) | (rw[Hst.out.1,← Hva.out.1,← Hvb.out.1];done)
      have hst2:hiE b (ps.take k) (l.take k)+Zg9 c c=hiE b (ps.take (k+1)) (l.take (k+1)):=by first | (rw[Hst.out.2];done) | (rw[Hst.out.2,← Hva.out.1,← Hvb.out.1];done)
      rw[hst1] at Had;rw[hst2] at Had2;clear hst1 hst2 HLa;unfold fr fv at Hmn Hmx Had Had2
      go_wp2_with fail
      clear k0 k1 k2 k3 k4 k5 k6 k7;refine RP.wp_region_readers 10 [(1,0),(1,1),(1,2),(1,5),(1,6),(1,7),(0,3),(0,4),(0,8),(0,9),(0,10),(0,11)] (fun w'=>∃ p:NW w6,w'=p.w) (by kernel_rfl) (by kernel_rfl) ?_ ?_
      ·exact⟨⟨_,I.out⟩,rfl⟩
      iterate 6 (refine RP.walkR_read ?_;simp only[Kh,dz_,Kg,tz_];go_big_quiet_step (fail);refine wpQuiet_nil ?_)
      clear q0 q1 q2 q3 q4 q5 q6 q7 hnon;refine RP.walkR_move ?_;simp only[Kh,dz_,Kg,tz_]
      go_wp2_with fail
      refine cm_ (Hmn.out _ I.out) ?_;rintro e x1 ⟨rfl,hbx⟩;have J1:Hid (Below w6.heap.size w6 x1):=I.out.trans (hbx.mono I.out.size);clear hbx I Hmn
      go_wp2_with fail
      refine⟨⟨⟨_,J1.out⟩,rfl⟩,?_⟩;refine RP.walkR_move ?_;simp only[Kh,dz_,Kg,tz_]
      go_wp2_with fail
      refine cm_ (Had.out _ J1.out) ?_;rintro e x2 ⟨rfl,hbx⟩;have J2:Hid (Below w6.heap.size w6 x2):=J1.out.trans (hbx.mono J1.out.size);clear hbx J1 Had
      go_wp2_with fail
      refine⟨⟨⟨_,J2.out⟩,rfl⟩,?_⟩;refine RP.walkR_move ?_;simp only[Kh,dz_,Kg,tz_]
      go_wp2_with fail
      refine cm_ (Hmx.out _ J2.out) ?_;rintro e x3 ⟨rfl,hbx⟩;have J3:Hid (Below w6.heap.size w6 x3):=J2.out.trans (hbx.mono J2.out.size);clear hbx J2 Hmx
      go_wp2_with fail
      refine⟨⟨⟨_,J3.out⟩,rfl⟩,?_⟩;refine RP.walkR_move ?_;simp only[Kh,dz_,Kg,tz_]
      go_wp2_with fail
      refine cm_ (Had2.out _ J3.out) ?_;rintro e x4 ⟨rfl,hbx⟩;have J4:Hid (Below w6.heap.size w6 x4):=J3.out.trans (hbx.mono J3.out.size);clear hbx J3 Had2
      go_wp2_with fail
      refine⟨⟨⟨_,J4.out⟩,rfl⟩,?_⟩;have HEx:=hd_ (HE6.out.below J4.out);have Hzx:=hd_ (Nat.le_trans Hz6.out J4.out.size);obtain⟨k0,k1,f0,f1⟩:=Ka HEx.out.e0;obtain⟨k2,k3,f2,f3⟩:=Ka HEx.out.e1;have HEp:=hd_ (HEx.out.put (loE b (ps.take (k+1)) (l.take (k+1))) (hiE b (ps.take (k+1)) (l.take (k+1))));have Hzp:Hid (w.heap.size+2≤(Vs x4 w.heap.size (loE b (ps.take (k+1)) (l.take (k+1))) (hiE b (ps.take (k+1)) (l.take (k+1)))).heap.size):=by
       show _≤_
       unfold Vs;rw[World.size_setCell,World.size_setCell,World.size_setCell,World.size_setCell];exact Hzx.out
      unfold Vs at HEp Hzp;clear HEx J4 Hzx;refine RP.walkR_move ?_;simp only[Kh,dz_,Kg,tz_]
      go_wp2_with fail
      refine RP.walkR_move ?_;simp only[Kh,dz_,Kg,tz_]
      go_wp2_with fail
      simp only[RP.walkR]
      go_wp2_with fail
      refine⟨⟨k+1,by omega,by go_num,HEp,Hzp⟩,by simp[intOf];omega⟩
     ·have h2b:(pk != 2)=true:=by rw[bne_iff_ne];exact h2
      have h2c:(pk==2)=false:=by rw[beq_eq_false_iff_ne];exact h2
      have Hva:Hid (c*xE pk b=c*xE pk b∧Sm (D+355) (c*xE pk b)):=⟨rfl,Hcs.out.mul Hxs.out.1⟩;have Hvb:Hid (c*yE pk b=c*yE pk b∧Sm (D+355) (c*yE pk b)):=⟨rfl,Hcs.out.mul Hxs.out.2⟩;have hlk:lgN pk b+2<2^K10∧2^b+1<2^K10:=by
       rw[Hq.out];exact Zwq Hq2.out Hb1000.out
      have Hnx:=hd_ (fun W (hW:Below w.heap.size w W)=>Qac W (lgN pk b) (2^b) (by omega) hlk.2 (Nat.two_pow_pos b) (HL.out.below hW))
      have Hny:=hd_ (fun W (hW:Below w.heap.size w W)=>Qac W (lgN pk b+1) (2^b) (by omega) hlk.2 (Nat.two_pow_pos b) (HL.out.below hW))
      have Had1:=hd_ (fun W (hW:Below w.heap.size w W)=>Zv5 W (lgN pk b) 1 K10 (by decide) (by omega) (Nat.one_lt_two_pow (by decide)) (HL.out.below hW))
      rw[Vf] at Had1;have hxe:mkRat ((lgN pk b:Nat):Int) (2^b)=xE pk b:=by unfold xE;rw[if_neg h2]
      have hye:mkRat ((lgN pk b+1:Nat):Int) (2^b)=yE pk b:=by unfold yE;rw[if_neg h2]
      rw[hxe] at Hnx;rw[hye] at Hny;have Hmx':=hd_ (fun W (hW:Below w.heap.size w W)=>Ztu W c (xE pk b) D 355 Hcs.out Hxs.out.1 (by omega) (HL.out.below hW))
      have Hmy':=hd_ (fun W (hW:Below w.heap.size w W)=>Ztu W c (yE pk b) D 355 Hcs.out Hxs.out.2 (by omega) (HL.out.below hW))
      clear hlk hxe hye h2;unfold fr fv at Hnx Hny Hmx' Hmy'
      go_wp2_with fail
      refine cm_ (HAt'.out _ HE6.out.bel) ?_;rintro e w7 ⟨rfl,hbx⟩;have HE7:=hd_ (HE6.out.below hbx);have FA7:=hd_ (FA6.out.below hbx);have FB7:=hd_ (FB6.out.below hbx);have F87:=hd_ (F86.out.below hbx);have Hz7:=hd_ (Nat.le_trans Hz6.out hbx.size);clear hbx HAt' HE6 FA6 FB6 F86 Hz6 k0' cp
      go_wp2_with fail
      refine cm_ (Hnx.out _ HE7.out.bel) ?_;rintro e w8 ⟨rfl,hbx⟩;have hbx2:=hd_ (hbx.alloc hbx.size (.cells #[.string (itx (xE pk b).num),.string (dec (xE pk b).den)] 42));have HE8:=hd_ (HE7.out.below hbx2.out);have FA8:=hd_ (FA7.out.below hbx2.out);have FB8:=hd_ (FB7.out.below hbx2.out);have F88:=hd_ (F87.out.below hbx2.out);have Hz8':=hd_ (Nat.le_trans Hz7.out hbx2.out.size);have FX:=hd_ (Zag.new w8 (xE pk b));have hgx:=hd_ (Nat.le_trans Hz7.out hbx.size);clear hbx hbx2 HE7 FA7 FB7 F87 Hz7 Hnx
      go_wp2_with fail
      generalize w8.alloc (.cells #[.string (itx (xE pk b).num),.string (dec (xE pk b).den)] 42)=w9 at *
      generalize w8.heap.size=gx at *
      refine cm_ (Had1.out _ HE8.out.bel) ?_;rintro e w10 ⟨rfl,hbx⟩;have HE10:=hd_ (HE8.out.below hbx);have FA10:=hd_ (FA8.out.below hbx);have FB10:=hd_ (FB8.out.below hbx);have F810:=hd_ (F88.out.below hbx);have FX10:=hd_ (FX.out.below hbx);have Hz10:=hd_ (Nat.le_trans Hz8'.out hbx.size);clear hbx HE8 FA8 FB8 F88 FX Hz8' Had1
      go_wp2_with fail
      refine cm_ (Hny.out _ HE10.out.bel) ?_;rintro e w11 ⟨rfl,hbx⟩;have hbx2:=hd_ (hbx.alloc hbx.size (.cells #[.string (itx (yE pk b).num),.string (dec (yE pk b).den)] 42));have HE12:=hd_ (HE10.out.below hbx2.out);have FA12:=hd_ (FA10.out.below hbx2.out);have FB12:=hd_ (FB10.out.below hbx2.out);have F812:=hd_ (F810.out.below hbx2.out);have FX12:=hd_ (FX10.out.below hbx2.out);have FY12:=hd_ (Zag.new w11 (yE pk b));have Hz12:=hd_ (Nat.le_trans Hz10.out hbx2.out.size);obtain⟨k0,k1,-,-⟩:=Ka F812.out;obtain⟨k2,k3,-,-⟩:=Ka FX12.out;obtain⟨k4,k5,-,-⟩:=Ka FY12.out;have q0:=NW.cell k0;have q1:=NW.cell k1;have q2:=NW.cell k2;have q3:=NW.cell k3;have q4:=NW.cell k4;have q5:=NW.cell k5;clear hbx hbx2 HE10 FA10 FB10 F810 FX10 Hz10 Hny k0 k1 k2 k3 k4 k5
      go_wp2_with fail
      generalize w11.alloc (.cells #[.string (itx (yE pk b).num),.string (dec (yE pk b).den)] 42)=w12 at *
      generalize w11.heap.size=gy at *
      have hnon:Nonempty (NW w12):=⟨⟨w12,Below.refl _ _⟩⟩;have I:Hid (Below w12.heap.size w12 w12.drew):=(Below.refl _ _).drew;refine RP.wp_region_readers 6 [(1,0),(1,1),(1,3),(1,4),(0,2),(0,5),(0,6),(0,7)] (fun w'=>∃ p:NW w12,w'=p.w) (by kernel_rfl) (by kernel_rfl) ?_ ?_
      ·exact⟨⟨_,I.out⟩,rfl⟩
      iterate 4 (refine RP.walkR_read ?_;simp only[Kh,dz_,Kg,tz_];go_big_quiet_step (fail);refine wpQuiet_nil ?_)
      clear hnon q0 q1 q2 q3 q4 q5;refine RP.walkR_move ?_;simp only[Kh,dz_,Kg,tz_]
      go_wp2_with fail
      refine cm_ (Hmx'.out _ (HE12.out.bel.trans (I.out.mono HE12.out.bel.size))) ?_;rintro e y1 ⟨rfl,hbx⟩;have J1:Hid (Below w12.heap.size w12 y1):=I.out.trans (hbx.mono I.out.size);clear hbx I Hmx'
      go_wp2_with fail
      refine⟨⟨⟨_,J1.out⟩,rfl⟩,?_⟩;refine RP.walkR_move ?_;simp only[Kh,dz_,Kg,tz_]
      go_wp2_with fail
      refine cm_ (Hmy'.out _ (HE12.out.bel.trans (J1.out.mono HE12.out.bel.size))) ?_;rintro e y2 ⟨rfl,hbx⟩;have J2:Hid (Below w12.heap.size w12 y2):=J1.out.trans (hbx.mono J1.out.size);clear hbx J1 Hmy'
      go_wp2_with fail
      refine⟨⟨⟨_,J2.out⟩,rfl⟩,?_⟩;have HEy:=hd_ (HE12.out.below J2.out);have FAy:=hd_ (FA12.out.below J2.out);have FBy:=hd_ (FB12.out.below J2.out);have Hzy:=hd_ (Nat.le_trans Hz12.out J2.out.size);obtain⟨k0,k1,f0,f1⟩:=Ka FAy.out;have FA1:=hd_ (FAy.out.put (c*xE pk b));have FB1:=hd_ (FBy.out.set (Ne.symm Hgab.out) (.string (itx (c*xE pk b).num)) (.string (dec (c*xE pk b).den)));have HE1':=hd_ (HEy.out.set hga (.string (itx (c*xE pk b).num)) (.string (dec (c*xE pk b).den)));have Hz1:Hid (w.heap.size+2≤((y2.setCell ⟨ga,0,none⟩ (.string (itx (c*xE pk b).num))).setCell ⟨ga,1,none⟩ (.string (dec (c*xE pk b).den))).heap.size):=by
       show _≤_
       rw[World.size_setCell,World.size_setCell];exact Hzy.out
      clear HE12 FA12 FB12 F812 FX12 FY12 Hz12 J2 HEy FAy FBy Hzy;refine RP.walkR_move ?_;simp only[Kh,dz_,Kg,tz_]
      go_wp2_with fail
      generalize (y2.setCell ⟨ga,0,none⟩ (.string (itx (c*xE pk b).num))).setCell ⟨ga,1,none⟩ (.string (dec (c*xE pk b).den))=y3 at *
      clear k0 k1 f0 f1;obtain⟨k0,k1,f0,f1⟩:=Ka FB1.out;have FA2:=hd_ (FA1.out.set Hgab.out (.string (itx (c*yE pk b).num)) (.string (dec (c*yE pk b).den)));have FB2:=hd_ (FB1.out.put (c*yE pk b));have HE2':=hd_ (HE1'.out.set hgb (.string (itx (c*yE pk b).num)) (.string (dec (c*yE pk b).den)));have Hz2':Hid (w.heap.size+2≤((y3.setCell ⟨gb,0,none⟩ (.string (itx (c*yE pk b).num))).setCell ⟨gb,1,none⟩ (.string (dec (c*yE pk b).den))).heap.size):=by
       show _≤_
       rw[World.size_setCell,World.size_setCell];exact Hz1.out
      clear FA1 FB1 HE1' Hz1;refine RP.walkR_move ?_;simp only[Kh,dz_,Kg,tz_]
      go_wp2_with fail
      generalize (y3.setCell ⟨gb,0,none⟩ (.string (itx (c*yE pk b).num))).setCell ⟨gb,1,none⟩ (.string (dec (c*yE pk b).den))=y4 at *
      clear k0 k1 f0 f1;simp only[RP.walkR];generalize hXc:c*xE pk b=vx at *
      generalize hYc:c*yE pk b=vy at *
      have Hva:=hd_ (show c*xE pk b=vx∧Sm (D+355) vx from ⟨hXc,Hva.out.2⟩)
      have Hvb:=hd_ (show c*yE pk b=vy∧Sm (D+355) vy from ⟨hYc,Hvb.out.2⟩)
      clear hXc hYc;obtain⟨k0,k1,-,-⟩:=Ka HE2'.out.e0;obtain⟨k2,k3,-,-⟩:=Ka HE2'.out.e1;obtain⟨k4,k5,-,-⟩:=Ka FA2.out;obtain⟨k6,k7,-,-⟩:=Ka FB2.out;have q0:=NW.cell k0;have q1:=NW.cell k1;have q2:=NW.cell k2;have q3:=NW.cell k3;have q4:=NW.cell k4;have q5:=NW.cell k5;have q6:=NW.cell k6;have q7:=NW.cell k7;have hnon:Nonempty (NW y4):=⟨⟨y4,Below.refl _ _⟩⟩;have I:Hid (Below y4.heap.size y4 y4.drew):=(Below.refl _ _).drew;have HLa:=hd_ (fun X (hX:Below y4.heap.size y4 X)=>HL.out.below (HE2'.out.bel.trans (hX.mono HE2'.out.bel.size)))
      have Hmn:=hd_ (fun X hX=>Zf6 X vx vy (D+355) (D+355) Hva.out.2 Hvb.out.2 (by omega) (HLa.out X hX))
      have Hmx:=hd_ (fun X hX=>Zf7 X vx vy (D+355) (D+355) Hva.out.2 Hvb.out.2 (by omega) (HLa.out X hX))
      have Had:=hd_ (fun X hX=>Zqj X _ _ _ _ Hsm.out.1 (Zeb Hva.out.2 Hvb.out.2) (by omega) (HLa.out X hX))
      have Had2:=hd_ (fun X hX=>Zqj X _ _ _ _ Hsm.out.2 (Zec Hva.out.2 Hvb.out.2) (by omega) (HLa.out X hX))
      have hst1:loE b (ps.take k) (l.take k)+Zg8 vx vy=loE b (ps.take (k+1)) (l.take (k+1)):=by first | (rw[Hst.out.1];done) | (rw[Hst.out.1,← Hva.out.1,← Hvb.out.1];done)
      have hst2:hiE b (ps.take k) (l.take k)+Zg9 vx vy=hiE b (ps.take (k+1)) (l.take (k+1)):=by first | (rw[Hst.out.2];done) | (rw[Hst.out.2,← Hva.out.1,← Hvb.out.1];done)
      rw[hst1] at Had;rw[hst2] at Had2;clear hst1 hst2 HLa;unfold fr fv at Hmn Hmx Had Had2
      go_wp2_with fail
      clear k0 k1 k2 k3 k4 k5 k6 k7;refine RP.wp_region_readers 10 [(1,0),(1,1),(1,2),(1,5),(1,6),(1,7),(0,3),(0,4),(0,8),(0,9),(0,10),(0,11)] (fun w'=>∃ p:NW y4,w'=p.w) (by kernel_rfl) (by kernel_rfl) ?_ ?_
      ·exact⟨⟨_,I.out⟩,rfl⟩
      iterate 6 (refine RP.walkR_read ?_;simp only[Kh,dz_,Kg,tz_];go_big_quiet_step (fail);refine wpQuiet_nil ?_)
      clear q0 q1 q2 q3 q4 q5 q6 q7 hnon;refine RP.walkR_move ?_;simp only[Kh,dz_,Kg,tz_]
      go_wp2_with fail
      refine cm_ (Hmn.out _ I.out) ?_;rintro e x1 ⟨rfl,hbx⟩;have J1:Hid (Below y4.heap.size y4 x1):=I.out.trans (hbx.mono I.out.size);clear hbx I Hmn
      go_wp2_with fail
      refine⟨⟨⟨_,J1.out⟩,rfl⟩,?_⟩;refine RP.walkR_move ?_;simp only[Kh,dz_,Kg,tz_]
      go_wp2_with fail
      refine cm_ (Had.out _ J1.out) ?_;rintro e x2 ⟨rfl,hbx⟩;have J2:Hid (Below y4.heap.size y4 x2):=J1.out.trans (hbx.mono J1.out.size);clear hbx J1 Had
      go_wp2_with fail
      refine⟨⟨⟨_,J2.out⟩,rfl⟩,?_⟩;refine RP.walkR_move ?_;simp only[Kh,dz_,Kg,tz_]
      go_wp2_with fail
      refine cm_ (Hmx.out _ J2.out) ?_;rintro e x3 ⟨rfl,hbx⟩;have J3:Hid (Below y4.heap.size y4 x3):=J2.out.trans (hbx.mono J2.out.size);clear hbx J2 Hmx
      go_wp2_with fail
      refine⟨⟨⟨_,J3.out⟩,rfl⟩,?_⟩;refine RP.walkR_move ?_;simp only[Kh,dz_,Kg,tz_]
      go_wp2_with fail
      refine cm_ (Had2.out _ J3.out) ?_;rintro e x4 ⟨rfl,hbx⟩;have J4:Hid (Below y4.heap.size y4 x4):=J3.out.trans (hbx.mono J3.out.size);clear hbx J3 Had2
      go_wp2_with fail
      refine⟨⟨⟨_,J4.out⟩,rfl⟩,?_⟩;have HEx:=hd_ (HE2'.out.below J4.out);have Hzx:=hd_ (Nat.le_trans Hz2'.out J4.out.size);obtain⟨k0,k1,f0,f1⟩:=Ka HEx.out.e0;obtain⟨k2,k3,f2,f3⟩:=Ka HEx.out.e1;have HEp:=hd_ (HEx.out.put (loE b (ps.take (k+1)) (l.take (k+1))) (hiE b (ps.take (k+1)) (l.take (k+1))));have Hzp:Hid (w.heap.size+2≤(Vs x4 w.heap.size (loE b (ps.take (k+1)) (l.take (k+1))) (hiE b (ps.take (k+1)) (l.take (k+1)))).heap.size):=by
       show _≤_
       unfold Vs;rw[World.size_setCell,World.size_setCell,World.size_setCell,World.size_setCell];exact Hzx.out
      unfold Vs at HEp Hzp;clear HEx J4 Hzx;refine RP.walkR_move ?_;simp only[Kh,dz_,Kg,tz_]
      go_wp2_with fail
      refine RP.walkR_move ?_;simp only[Kh,dz_,Kg,tz_]
      go_wp2_with fail
      simp only[RP.walkR]
      go_wp2_with fail
      refine⟨⟨k+1,by omega,by go_num,HEp,Hzp⟩,by simp[intOf];omega⟩
  ·obtain rfl:k=n:=by omega
   have hlt':¬ (k:Int)<k:=by omega
   have hvv:=Hv.out trivial;rw[← hvv.1,← hvv.2] at HE;have Hvv:=hd_ hvv;clear hvv Hv;have hcl:∀ p:EnW w vlo vhi,p.w.cell? ⟨w.heap.size,0,none⟩=some (.string (itx vlo.num)):=fun p=>p.cells.1
   have hcl1:∀ p:EnW w vlo vhi,p.w.cell? ⟨w.heap.size,1,none⟩=some (.string (dec vlo.den)):=fun p=>p.cells.2.1
   have hcl2:∀ p:EnW w vlo vhi,p.w.cell? ⟨w.heap.size+1,0,none⟩=some (.string (itx vhi.num)):=fun p=>p.cells.2.2.1
   have hcl3:∀ p:EnW w vlo vhi,p.w.cell? ⟨w.heap.size+1,1,none⟩=some (.string (dec vhi.den)):=fun p=>p.cells.2.2.2
   have hnon:Nonempty (EnW w vlo vhi):=⟨⟨_,HE.out⟩⟩;have HEd:=hd_ (HE.out.below (Qf wr 1))
   go_wp2_with fail
   refine RP.wp_region_readers 3 [(1,0),(1,1),(0,2),(0,3)] (fun w'=>∃ p:EnW w vlo vhi,w'=p.w) (by kernel_rfl) (by kernel_rfl) ?_ ?_
   ·exact⟨⟨_,HEd.out⟩,rfl⟩
   iterate 2 (refine RP.walkR_read ?_;simp only[Kh,dz_,Kg,tz_];go_big_quiet_step (fail);refine wpQuiet_nil ?_)
   clear hnon hcl hcl1 hcl2 hcl3;obtain⟨k0,k1,f0,f1⟩:=Ka HE.out.e0;have HE1:=hd_ (HEd.out.put0 vlo);refine RP.walkR_move ?_;simp only[Kh,dz_,Kg,tz_]
   go_wp2_with fail
   refine⟨⟨⟨_,HE1.out⟩,rfl⟩,?_⟩;have HE2:Hid (EnI w ((wr.setCell ⟨w.heap.size,0,none⟩ (.string (itx vlo.num))).setCell ⟨w.heap.size,1,none⟩ (.string (dec vlo.den))).drew vlo vhi):=HE1.out;clear k0 k1 f0 f1 HE1 HEd HE;generalize ((wr.setCell ⟨w.heap.size,0,none⟩ (.string (itx vlo.num))).setCell ⟨w.heap.size,1,none⟩ (.string (dec vlo.den))).drew=wz at *
   obtain⟨k2,k3,f2,f3⟩:=Ka HE2.out.e1;have HE3:=hd_ (HE2.out.put1 vhi);refine RP.walkR_move ?_;simp only[Kh,dz_,Kg,tz_]
   go_wp2_with fail
   simp only[RP.walkR];generalize (wz.setCell ⟨w.heap.size+1,0,none⟩ (.string (itx vhi.num))).setCell ⟨w.heap.size+1,1,none⟩ (.string (dec vhi.den))=w9 at *
   clear k2 k3 f2 f3 HE2;obtain⟨c0',c1',-,-⟩:=Ka HE3.out.e0;obtain⟨c2',c3',-,-⟩:=Ka HE3.out.e1
   go_wp2_with fail
   exact bodyPost_ret (v := .tuple #[.agg #[.string (itx vlo.num),.string (dec vlo.den)],.agg #[.string (itx vhi.num),.string (dec vhi.den)]]) (by simp[results,Tryz.results80,go_sem,c0',c1',c2',c3']) rfl ⟨rfl,HE3.out.bel⟩
structure Zto (w:World) (V:List Value) (ls:List (List Int)):Prop where
 len:V.length=ls.length
 at_:∀ i,i<ls.length→∃ a' c',V[i]?=some (.slice a' (ls.getD i []).length c')∧Rd w a' (Vc (ls.getD i []))
theorem Zto.below{w w':World}{V:List Value}{ls:List (List Int)}{B:Nat}(h:Zto w V ls)(hb:Below B w w')(hB:w.heap.size≤B):Zto w' V ls :=
 ⟨h.len,fun i hi=>by obtain⟨a',c',h1,h2⟩:=h.at_ i hi;exact⟨a',c',h1,h2.below hb hB⟩⟩
theorem Zto.nil(w:World):Zto w [] []:=⟨rfl,fun i hi=>absurd hi (Nat.not_lt_zero i)⟩
theorem Zto.append{w:World}{V V':List Value}{ls ls':List (List Int)}(h:Zto w V ls)(k:Zto w V' ls'):Zto w (V++V') (ls++ls'):=by
 refine⟨by simp[h.len,k.len],fun i hi=>?_⟩
 by_cases hi1:i<ls.length
 ·obtain⟨a',c',h1,h2⟩:=h.at_ i hi1;have e:(ls++ls').getD i []=ls.getD i []:=by rw[List.getD_eq_getElem?_getD,List.getD_eq_getElem?_getD,List.getElem?_append_left hi1]
  rw[e];exact⟨a',c',by rw[List.getElem?_append_left (by rw[h.len];exact hi1)];exact h1,h2⟩
 ·rw[List.length_append] at hi;obtain⟨a',c',h1,h2⟩:=k.at_ (i-ls.length) (by omega)
  have e:(ls++ls').getD i []=ls'.getD (i-ls.length) []:=by rw[List.getD_eq_getElem?_getD,List.getD_eq_getElem?_getD,List.getElem?_append_right (by omega)]
  rw[e];exact⟨a',c',by rw[List.getElem?_append_right (by rw[h.len];omega),h.len];exact h1,h2⟩
theorem Zto.one{w:World}{V:List Value}{ls:List (List Int)}(h:Zto w V ls):∀ u∈V,u.oneCell'=true:=fun u hu=>by
 obtain⟨i,hi,rfl⟩:=List.mem_iff_getElem.1 hu;obtain⟨a',c',h1,_⟩:=h.at_ i (by rw[← h.len];exact hi)
 rw[List.getElem?_eq_getElem hi] at h1;rw[Option.some.inj h1];rfl
def Qbb (w:World) (n:Nat) (l:List Int) (e:Ending):Prop:=(mx l=0∧∃ a c,e = .returned (.tuple #[.slice a n c,.int .i64 0])∧Rd w a (Vc l))∨(mx l≠0∧e = .returned (.tuple #[.slice none 0 0,.int .i64 4]))
theorem Qbb.form{w:World}{n:Nat}{l:List Int}{e:Ending}(h:Qbb w n l e):∃ v1 v2,e = .returned (.tuple #[v1,v2]):=by
 rcases h with⟨_,a,c,h,_⟩|⟨_,h⟩
 ·exact⟨_,_,h⟩
 ·exact⟨_,_,h⟩
def Ok (c:Nat→Nat→Int) (u v:Nat):Prop:=0≤c v u∧(c v u=0→u<v)
structure Srt (c:Nat→Nat→Int) (n i:Nat) (F:Nat→Nat):Prop where
 lt:∀ k,k<n→F k<n
 inj:∀ k m,k<n→m<n→F k=F m→k=m
 hi:∀ k,i≤k→k<n→F k=k
 lo:∀ k,k<i→F k<i
 adj:∀ k,k+1<i→Ok c (F k) (F (k+1))
structure Ins (c:Nat→Nat→Int) (n i j:Nat) (F:Nat→Nat):Prop where
 lt:∀ k,k<n→F k<n
 inj:∀ k m,k<n→m<n→F k=F m→k=m
 x:F j=i
 hi:∀ k,i<k→k<n→F k=k
 lo:∀ k,k≤i→F k≤i
 a1:∀ k,k+1<j→Ok c (F k) (F (k+1))
 a2:∀ k,j<k→k+1≤i→Ok c (F k) (F (k+1))
 a3:∀ k,k+1=j→j<i→Ok c (F k) (F (j+1))
 a4:j<i→Ok c i (F (j+1))
 ji:j≤i
 n:i<n
theorem Srt.first(c:Nat→Nat→Int)(n:Nat):Srt c n 1 fun k=>k :=
 ⟨fun _ h=>h,fun _ _ _ _ h=>h,fun _ _ _=>rfl,fun _ h=>h,fun _ h=>by omega⟩
theorem Ins.stop{c:Nat→Nat→Int}{n i j:Nat}{F:Nat→Nat}(h:Ins c n i j F)(hs:j=0∨0≤c (F j) (F (j-1))):Srt c n (i+1) F:=by
 refine⟨h.lt,h.inj,fun k h1 h2=>h.hi k (by omega) h2,fun k hk=>Nat.lt_succ_of_le (h.lo k (by omega)),fun k hk=>?_⟩
 have hji:=h.ji;have hn:=h.n;rcases Nat.lt_trichotomy (k+1) j with h1|h1|h1
 ·exact h.a1 k h1
 ·rcases hs with h0 | h0
  ·omega
  ·have e:j-1=k:=by omega
   rw[e] at h0;rw[h1];refine⟨h0,fun _=>?_⟩
   have hx:=h.x;have h2:=h.lo k (by omega)
   have h3:F k≠F j:=fun e=>by have:=h.inj k j (by omega) (by omega) e;omega
   omega
 ·rcases Nat.lt_or_ge j k with h2 | h2
  ·exact h.a2 k h2 (by omega)
  ·have e:k=j:=by omega
   subst e;rw[h.x];exact h.a4 (by omega)
def swF (F:Nat→Nat) (j:Nat):Nat→Nat:=fun k=>if k=j then F (j+1) else if k=j+1 then F j else F k
theorem Ins.swap{c:Nat→Nat→Int}(hc:∀ u v,c v u = - c u v){n i j:Nat}{F:Nat→Nat}(h:Ins c n i (j+1) F)(hs:c (F (j+1)) (F j)<0):Ins c n i j (swF F j):=by
 have hji:=h.ji;have hn:=h.n;have hx:=h.x;have s1:swF F j j=i:=by unfold swF;rw[if_pos rfl];exact hx
 have s2:swF F j (j+1)=F j:=by unfold swF;rw[if_neg (by omega),if_pos rfl]
 have s3:∀ k,k≠j→k≠j+1→swF F j k=F k:=fun k h1 h2=>by unfold swF;rw[if_neg h1,if_neg h2]
 refine⟨fun k hk=>?_,fun k m hk hm e=>?_,s1,fun k h1 h2=>?_,fun k hk=>?_,fun k hk=>?_,fun k h1 h2=>?_,fun k h1 h2=>?_,fun h1=>?_,by omega,hn⟩
 ·unfold swF;split
  ·exact h.lt _ (by omega)
  ·split
   ·exact h.lt _ (by omega)
   ·exact h.lt _ hk
 ·unfold swF at e
  by_cases k1:k=j
  ·by_cases m1:m=j
   ·omega
   ·rw[if_pos k1,if_neg m1] at e
    by_cases m2:m=j+1
    ·rw[if_pos m2] at e;have:=h.inj _ _ (by omega) (by omega) e
     omega
    ·rw[if_neg m2] at e;have:=h.inj _ _ (by omega) hm e
     omega
  ·rw[if_neg k1] at e
   by_cases k2:k=j+1
   ·rw[if_pos k2] at e
    by_cases m1:m=j
    ·rw[if_pos m1] at e;have:=h.inj _ _ (by omega) (by omega) e
     omega
    ·rw[if_neg m1] at e
     by_cases m2:m=j+1
     ·omega
     ·rw[if_neg m2] at e;have:=h.inj _ _ (by omega) hm e
      omega
   ·rw[if_neg k2] at e
    by_cases m1:m=j
    ·rw[if_pos m1] at e;have:=h.inj _ _ hk (by omega) e
     omega
    ·rw[if_neg m1] at e
     by_cases m2:m=j+1
     ·rw[if_pos m2] at e;have:=h.inj _ _ hk (by omega) e
      omega
     ·rw[if_neg m2] at e;exact h.inj _ _ hk hm e
 ·rw[s3 k (by omega) (by omega)];exact h.hi k h1 h2
 ·unfold swF;split
  ·omega
  ·split
   ·exact h.lo _ (by omega)
   ·exact h.lo _ hk
 ·rw[s3 k (by omega) (by omega),s3 (k+1) (by omega) (by omega)]
  exact h.a1 k (by omega)
 ·rcases Nat.lt_or_ge (j+1) k with h3 | h3
  ·rw[s3 k (by omega) (by omega),s3 (k+1) (by omega) (by omega)]
   exact h.a2 k h3 h2
  ·have e:k=j+1:=by omega
   subst e;rw[s2,s3 (j+1+1) (by omega) (by omega)]
   exact h.a3 j rfl (by omega)
 ·subst h1;rw[s3 k (by omega) (by omega),s2]
  exact h.a1 k (by omega)
 ·rw[s2,← hx];have e:=hc (F (j+1)) (F j);exact⟨by omega,fun h0=>by omega⟩
structure Zw0 (W:World) (g n:Nat) (F:Nat→Nat):Prop where
 lt:g<W.heap.size
 cell:∀ k,k<n→W.cell? ⟨g,k,none⟩=some (.int .i64 (F k:Nat))
 fr:∀ k,W.frozen? ⟨g,k,none⟩=false
theorem Zw0.below{W W':World}{g n D:Nat}{F:Nat→Nat}(h:Zw0 W g n F)(hb:Below D W W')(hD:W.heap.size≤D):Zw0 W' g n F:=by
 have hlt:=h.lt;have e:=hb.block g (by omega)
 have hs:=hb.size;refine⟨?_,fun k hk=>?_,fun k=>?_⟩
 ·have h2:=Array.getElem?_eq_some_iff.1 (show W.heap[g]?=some W.heap[g] from Array.getElem?_eq_getElem hlt)
  rw[Array.getElem?_eq_getElem hlt] at e;exact(Array.getElem?_eq_some_iff.1 e).1
 ·rw[hb.cell (p:=⟨g,k,none⟩) (show g<D by omega)]
  exact h.cell k hk
 ·have:=h.fr k
  unfold World.frozen? at this ⊢;rw[show W'.heap[(⟨g,k,none⟩:Addr).block]?=W.heap[(⟨g,k,none⟩:Addr).block]? from e]
  exact this
theorem Zw0.swap{W:World}{g n:Nat}{F:Nat→Nat}(h:Zw0 W g n F)(j:Nat)(hj:j+1<n):
  Zw0 ((W.setCell ⟨g,j+1,none⟩ (.int .i64 (F j:Nat))).setCell ⟨g,j,none⟩ (.int .i64 (F (j+1):Nat))) g n (swF F j):=by
 have h0:=h.cell j (by omega)
 have h1:=h.cell (j+1) hj;have ne:∀ a b:Nat,a≠b→(⟨g,a,none⟩:Addr)≠⟨g,b,none⟩:=fun a b hab e=>by cases e;exact hab rfl
 refine⟨by simpa using h.lt,fun k hk=>?_,fun k=>?_⟩
 ·unfold swF
  by_cases k1:k=j
  ·subst k1;rw[if_pos rfl];exact World.cell?_setCell_same _ _ _ (u := .int .i64 (F k:Nat)) (by rw[World.cell?_setCell_other _ _ _ _ (ne _ _ (by omega))];exact h0)
  ·rw[if_neg k1,World.cell?_setCell_other _ _ _ _ (ne _ _ (fun e=>k1 e.symm))]
   by_cases k2:k=j+1
   ·subst k2;rw[if_pos rfl];exact World.cell?_setCell_same _ _ _ h1
   ·rw[if_neg k2,World.cell?_setCell_other _ _ _ _ (ne _ _ (fun e=>k2 e.symm))]
    exact h.cell k hk
 ·have:=h.fr k
  simpa using this
structure Ztn (W:World) (ps:List Int) (g2 g3:Nat) (a0 al:Option Addr) (c0 cl:Nat) (LL:List (List Rat)):Prop where
 h2:W.heap[g2]?=some (.cells #[.slice a0 ps.length c0] 36 (0,0))
 h3:W.heap[g3]?=some (.cells #[.slice al LL.length cl] 68 (0,0))
 rp:Rd W a0 (Vc ps)
 rl:RdL W al (LL.map (List.map qs))
theorem Ztn.below{W W':World}{ps:List Int}{g2 g3:Nat}{a0 al:Option Addr}{c0 cl:Nat}{LL:List (List Rat)}(h:Ztn W ps g2 g3 a0 al c0 cl LL){D:Nat}(hb:Below D W W')(hD:W.heap.size≤D):Ztn W' ps g2 g3 a0 al c0 cl LL :=
 ⟨Kd h.h2 hb hD,Kd h.h3 hb hD,h.rp.below hb hD,h.rl.below hb hD⟩
theorem Zw0.rd{W:World}{g n:Nat}{F:Nat→Nat}(h:Zw0 W g n F):Rd W (some ⟨g,0,none⟩) (Vc ((List.range n).map fun (k:Nat)=>((F k:Nat):Int))):=by
 refine .inr ⟨g,0,rfl,h.lt,fun i v hv=>?_⟩
 rw[Nat.zero_add];have hi:i<n:=by
  have:=(List.getElem?_eq_some_iff.1 hv).1
  simpa [Qe] using this
 rw[Yh _ i (by simpa using hi)] at hv
 cases hv
 rw[h.cell i hi];simp
theorem Zha{l:List UInt8}(h:Za0 l)(t:Nat)(ht:t≤18):Qr (l.take t)<1000000000000000000:=by
 have h1:=Zx (h.take t);have h2:10^(l.take t).length≤10^18:=Nat.pow_le_pow_right (by decide) (by simp;omega)
 exact Nat.lt_of_lt_of_le h1 h2
def Zqh (W:World) (g:Nat) (t:TypeId) (D:List UInt8):Prop:=W.rowIs g t D.length (fun i => .int .u8 ((D.getD i 0).toNat:Nat))
theorem Zqh.cell{W:World}{g:Nat}{t:TypeId}{D:List UInt8}(h:Zqh W g t D){i:Nat}(hi:i<D.length):W.cell? ⟨g,i,none⟩=some (.int .u8 ((D.getD i 0).toNat:Nat)):=World.rowIs.cell h hi
theorem Zqh.frozen{W:World}{g:Nat}{t:TypeId}{D:List UInt8}(h:Zqh W g t D)(i:Nat):W.frozen? ⟨g,i,none⟩=false:=World.rowIs.frozen h i
theorem Zqh.set{W:World}{g:Nat}{t:TypeId}{D:List UInt8}(h:Zqh W g t D)(i x:Nat)(hx:x<256):Zqh (W.setCell ⟨g,i,none⟩ (.int .u8 (x:Nat))) g t (D.set i (UInt8.ofNat x)):=by
 unfold Zqh;rw[List.length_set];refine(World.rowIs.set h i _).congr fun j hj=>?_
 by_cases e:j=i
 ·subst e;rw[if_pos rfl];simp only[List.getD_eq_getElem?_getD,List.getElem?_set];simp only[if_true,if_pos hj,Option.getD_some];simp[Nat.mod_eq_of_lt hx]
 ·rw[if_neg e];simp only[List.getD_eq_getElem?_getD,List.getElem?_set];rw[if_neg (fun h=>e h.symm)]
theorem Zqh.text{W:World}{g:Nat}{t src dst e:TypeId}{D:List UInt8}(h:Zqh W g t D)(k n c:Nat)(hn:k+n=D.length)
  (hs:Tryz.prog.underlying src=some (.slice e)) (he:Tryz.prog.underlying e=some (.int .u8)) (hd:Tryz.prog.underlying dst=some .string) :
  (convert src dst (.slice (some ⟨g,k,none⟩) n c)).run Tryz.prog W = .ok (.string ⟨(D.drop k).toArray⟩) W:=by
 have hl:(D.drop k).length=n:=by simp;omega
 rw[← hl];refine run_convert_bytes_back W src dst e ⟨g,k,none⟩ c (D.drop k) hs he hd fun j hj=>?_
 rw[Lib.add_plain];rw[Zqh.cell h (by omega)]
 rw[List.getD_eq_getElem?_getD,List.getElem?_eq_getElem (by omega)]
 simp
def jn (L:List ByteArray):ByteArray:=⟨(Lib.join (L.map (·.data.toList)) [32]).toArray⟩
theorem Qaw:Zbp Tryz.prog 194 193 (.int .u64 0) 1 8:=⟨Tryz.underlying194,info_parts Zmp,rfl,by decide⟩
theorem Za0.reverse{l:List UInt8}(h:Za0 l):Za0 l.reverse:=fun c hc=>h c (List.mem_reverse.1 hc)
structure JAt (w:World) (n:Nat) (T:List UInt8) (wr:World):Prop where
 row:∃ D,Zqh wr w.heap.size 5 D∧D.length=9*n+1∧(D.getD 0 0).toNat=48∧D.drop (9*n+1-T.length)=T
 bel:Below w.heap.size w wr
theorem JAt.set{w wr:World}{n:Nat}{T:List UInt8}(h:JAt w n T wr)(m x:Nat)(hm:m+T.length=9*n)(hm0:0<m)(hx:x<256):JAt w n (UInt8.ofNat x::T) (wr.setCell ⟨w.heap.size,m,none⟩ (.int .u8 (x:Nat))):=by
 obtain⟨D,h1,h2,h3,h4⟩:=h.row;refine⟨⟨D.set m (UInt8.ofNat x),h1.set m x hx,by rw[List.length_set];exact h2,?_,?_⟩,h.bel.setCell nr_ _⟩
 ·rw[List.getD_eq_getElem?_getD,List.getElem?_set_ne (by omega),← List.getD_eq_getElem?_getD];exact h3
 ·have e:9*n+1-(UInt8.ofNat x::T).length=m:=by simp;omega
  rw[e,List.drop_eq_getElem_cons (by simp;omega),List.getElem_set_self,List.drop_set,if_pos (by omega)]
  congr 1;rw[← h4];congr 1;omega
theorem JAt.cell{w wr:World}{n:Nat}{T:List UInt8}(h:JAt w n T wr)(m:Nat)(hm:m≤9*n):(∃ x:Nat,wr.cell? ⟨w.heap.size,m,none⟩=some (.int .u8 x))∧wr.frozen? ⟨w.heap.size,m,none⟩=false:=by
 obtain⟨D,h1,h2,_,_⟩:=h.row;exact⟨⟨_,h1.cell (by omega)⟩,h1.frozen m⟩
theorem JAt.done{w wr:World}{n:Nat}{T:List UInt8}(h:JAt w n T wr)(hT:T.length=9*n)(hd:Za0 T):∃ D,Zqh wr w.heap.size 5 D∧D.length=9*n+1∧Za0 D∧Qr D=Qr T:=by
 obtain⟨D,h1,h2,h3,h4⟩:=h.row;have e:9*n+1-T.length=1:=by omega
 rw[e] at h4
 match D,h2,h3,h4 with
 | c::D,h2,h3,h4 =>
  obtain rfl:D=T:=by simpa using h4
  have hc:c.toNat=48:=by simpa using h3
  refine⟨_,h1,h2,fun y hy=>?_,?_⟩
  ·rcases List.mem_cons.1 hy with rfl | hy
   ·omega
   ·exact hd y hy
  ·rw[Zae,hc];simp
end Go.Proofs.YtnjedhgcfeoemaaGreatDoor

namespace Go.Proofs.YtnjedhgcfeoemaaGreatDoor.LN
def upP:List Int→List Int→Nat
 | p::ps,k::ks=>p.toNat^k.toNat*upP ps ks
 | _,_=>1
theorem upP_snoc:∀ (ps ks:List Int) (p k:Int),ps.length=ks.length→upP (ps++[p]) (ks++[k])=upP ps ks*p.toNat^k.toNat
 | [],[],p,k,_=>by simp[upP]
 | q::ps,m::ks,p,k,h=>by
  have ih:=upP_snoc ps ks p k (by simpa using h)
  simp only[List.cons_append,upP];rw[ih,Nat.mul_assoc]
theorem upP_le(K:Nat):∀ (ps ks:List Int),(∀ p∈ps,2≤p∧p≤97)→(∀ k∈ks,k≤(K:Int))→upP ps ks<10^(2*K*ps.length+1)
 | [],_,_,_=>by simp[upP]
 | _::_,[],_,_=>by
  simp only[upP];exact Nat.one_lt_pow (by omega) (by decide)
 | p::ps,k::ks,h,h2=>by
  have ih:=upP_le K ps ks (fun q hq=>h q (List.mem_cons_of_mem _ hq)) fun q hq=>h2 q (List.mem_cons_of_mem _ hq)
  obtain⟨a,b⟩:=h p List.mem_cons_self;have hk:=h2 k List.mem_cons_self;simp only[upP];have h3:p.toNat^k.toNat≤100^k.toNat:=Nat.pow_le_pow_left (by omega) _
  have h4:100^k.toNat≤100^K:=Nat.pow_le_pow_right (by decide) (by omega)
  have h5:(100:Nat)^K=10^(2*K):=by rw[show (100:Nat)=10^2 from rfl,← Nat.pow_mul]
  rw[h5] at h4;have e:10^(2*K*(p::ps).length+1)=10^(2*K)*10^(2*K*ps.length+1):=by rw[← Nat.pow_add];congr 1;rw[List.length_cons,Nat.mul_add];omega
  rw[e];exact Nat.mul_lt_mul_of_le_of_lt (Nat.le_trans h3 h4) ih (Nat.pow_pos (by decide))
end Go.Proofs.YtnjedhgcfeoemaaGreatDoor.LN

namespace Go.Proofs.YtnjedhgcfeoemaaGreatDoor
open Go.RowKit
structure Zz4 (ps ks:List Int) (k u d:Nat):Prop where
 up:u=LN.upP (ps.take k) (ks.take k)
 dn:d=LN.upP (ps.take k) ((ks.map fun z => -z).take k)
 le:∀ z∈ks.take k,z≤500 ∧ -500≤z
theorem Zck{α:Type}(l:List α)(k:Nat)(h:k<l.length):l.take (k+1)=l.take k++[l[k]]:=List.take_succ_eq_append_getElem h
theorem Zz4.next{ps ks:List Int}{k u d:Nat}(h:Zz4 ps ks k u d)(h1:k<ps.length)(hk:k<ks.length)(hz:ks[k]≤500 ∧ -500≤ks[k]):
  Zz4 ps ks (k+1) (u*ps[k].toNat^ks[k].toNat) (d*ps[k].toNat^(-ks[k]).toNat):=by
 refine⟨?_,?_,?_⟩
 ·rw[Zck ps k h1,Zck ks k hk,LN.upP_snoc _ _ _ _ (by simp;omega),← h.up]
 ·have hk2:k<(ks.map fun z => -z).length:=by simpa using hk
  rw[Zck ps k h1,Zck _ k hk2,LN.upP_snoc _ _ _ _ (by simp;omega),← h.dn,List.getElem_map]
 ·intro z hz2;rw[Zck ks k hk] at hz2;rcases List.mem_append.1 hz2 with h3|h3
  ·exact h.le z h3
  ·obtain rfl:=List.mem_singleton.1 h3;exact hz
theorem Zz4.num{ps ks:List Int}{k u d:Nat}(h:Zz4 ps ks k u d)(hp:∀ p∈ps,2≤p∧p≤97)(hn:ps.length≤100):Num u∧Num d:=by
 have hl:(ps.take k).length≤100:=by simp;omega
 have hb:2*500*(ps.take k).length+1≤1000000:=by omega
 have hp':∀ p∈ps.take k,2≤p∧p≤97:=fun p hp1=>hp p (List.mem_of_mem_take hp1)
 refine⟨?_,?_⟩
 ·rw[h.up];exact Ku (LN.upP_le 500 _ _ hp' fun z hz=>by have:=h.le z hz;omega) (by omega) hb
 ·rw[h.dn];refine Ku (LN.upP_le 500 _ _ hp' fun z hz=>?_) (by omega) hb
  rw[← List.map_take] at hz;obtain⟨y,hy,rfl⟩:=List.mem_map.1 hz;have:=h.le y hy
  omega
end Go.Proofs.YtnjedhgcfeoemaaGreatDoor

namespace Go.Proofs.YtnjedhgcfeoemaaGreatDoor
open Go.RowKit Go.Proofs.YtnjedhgcfeoemaaGreatDoor.RP
end Go.Proofs.YtnjedhgcfeoemaaGreatDoor

namespace Go.Proofs.YtnjedhgcfeoemaaGreatDoor
open Go.RowKit
end Go.Proofs.YtnjedhgcfeoemaaGreatDoor

namespace Go.Proofs.YtnjedhgcfeoemaaGreatDoor
open Go.RowKit
theorem Zrq{w:World}{B1 B2 s1 s2 n1 n2:Nat}{e1 e2:TypeId}{v1 v2:Value}{x1 x2:List Value}(h1:w.ownsRow B1 e1 s1 v1 n1 x1)(h2:w.ownsRow B2 e2 s2 v2 n2 x2)(hne:e1≠e2):
  ∀ k,v1.ownBlock=some k→v2.ownBlock≠some k:=by
 intro k hk hk2;rcases h1.2 with⟨rfl,_⟩|⟨g,cap,cur,rfl,_,hg,_⟩
 ·simp[Value.ownBlock] at hk
 ·rcases h2.2 with⟨rfl,_⟩ | ⟨g2,cap2,cur2,rfl,_,hg2,_⟩
  ·simp[Value.ownBlock] at hk2
  ·simp only[Value.ownBlock,Option.some.injEq] at hk hk2;subst hk;subst hk2;rw[hg] at hg2;simp only[Option.some.injEq,Obj.cells.injEq] at hg2;exact hne hg2.2.1
structure Zyo (w:World) (B:Nat) (b:Option Addr) (d:Nat) (n:Nat) (L:List (Option Addr×Nat)) (ls:List (List Rat)):Prop where
 len:L.length=ls.length
 row:w.ownsRow B 38 1 (.slice b L.length d) L.length (L.map fun x => .slice x.1 n x.2)
 each:∀ i (h1:i<L.length) (h2:i<ls.length),Zc3 w B L[i].1 L[i].2 ls[i]
 lens:∀ l∈ls,l.length=n
theorem Zyo.below{w w':World}{B d n:Nat}{b:Option Addr}{L:List (Option Addr×Nat)}{ls:List (List Rat)}(h:Zyo w B b d n L ls)(hb:Below w.heap.size w w'):Zyo w' B b d n L ls :=
 ⟨h.len,Vu h.row hb nr_,fun i h1 h2=>(h.each i h1 h2).below hb nr_,h.lens⟩
end Go.Proofs.YtnjedhgcfeoemaaGreatDoor

namespace Go.Proofs.YtnjedhgcfeoemaaGreatDoor
open Go.RowKit Go.Proofs.YtnjedhgcfeoemaaGreatDoor.RP
theorem Zyo.put{w1 w3:World}{B d n c:Nat}{b a:Option Addr}{L:List (Option Addr×Nat)}{ls:List (List Rat)}{l:List Rat}{v':Value}(h:Zyo w1 B b d n L ls)(ho:Zc3 w1 B a c l)(hl:l.length=n)
  (hown:w3.ownsRow B 38 1 v' (L.length+1) ((L.map fun x=>Value.slice x.1 n x.2)++[.slice a n c])) (hg:(w1.alloc (.cells #[.slice a n c] 38)).grownBy w3 (Value.slice b L.length d).ownBlock) :
  ∃ b' d',v' = .slice b' (L.length+1) d'∧Zyo w3 B b' d' n (L++[(a,c)]) (ls++[l]):=by
 obtain⟨b',d',rfl⟩:=Qj hown;have hA:Below w1.heap.size w1 (w1.alloc (.cells #[.slice a n c] 38)):=(Below.refl _ _).alloc nr_ _;have hrow:=Vu h.row hA nr_;have keep:∀ (a2:Option Addr) (c2:Nat) (l2:List Rat),Zc3 w1 B a2 c2 l2→Zc3 w3 B a2 c2 l2:=fun a2 c2 l2 h2=>by
  have h3:=Znu (h2.below hA nr_);refine Znt (World.ownsRow.kept h3 hg ?_);have hap:=Zrq hrow h3 (by decide)
  cases hv:(Value.slice b L.length d).ownBlock with
  | none=>cases hv2:(Value.slice a2 l2.length c2).ownBlock<;>simp
  | some k=>exact .inr (hap k hv)
 refine⟨b',d',rfl,?_,?_,?_,?_⟩
 ·simp[h.len]
 ·rw[List.length_append,List.map_append];exact hown
 ·intro i h1 h2
  by_cases hi:i<L.length
  ·have hi2:i<ls.length:=by rw[← h.len];exact hi
   rw[List.getElem_append_left hi2];simp only[List.getElem_append_left hi];exact keep _ _ _ (h.each i hi hi2)
  ·have e:i=L.length:=by simp at h1;omega
   subst e;rw[List.getElem_append_right (by rw[h.len];exact Nat.le_refl _)]
   simp only[List.getElem_append_right nr_,h.len,Nat.sub_self,List.getElem_cons_zero];exact keep _ _ _ ho
 ·intro m hm;rcases List.mem_append.1 hm with hm|hm
  ·exact h.lens m hm
  ·rw[List.mem_singleton.1 hm];exact hl
end Go.Proofs.YtnjedhgcfeoemaaGreatDoor

namespace Go.Proofs.YtnjedhgcfeoemaaGreatDoor
open Go.RowKit
end Go.Proofs.YtnjedhgcfeoemaaGreatDoor

namespace Go.Proofs.YtnjedhgcfeoemaaGreatDoor
open Go.RowKit
def Zqi {α:Type} (pf : α→Bool):List α→Nat→Int
 | [],_ => -1
 | x::l,k=>if pf x=true then (k:Int) else Zqi pf l (k+1)
theorem Zn5{α:Type}(pf : α→Bool):∀ (l:List α) (k:Nat),decide (0≤Zqi pf l k)=l.any pf
 | [],_=>by simp[Zqi]
 | x::l,k=>by
  unfold Zqi;rw[List.any_cons]
  by_cases h:pf x=true
  ·rw[if_pos h,h];simp
  ·rw[if_neg h,Zn5 pf l (k+1)];simp only[Bool.not_eq_true] at h;rw[h,Bool.false_or]
theorem Zi7 {f : FuncId} {fn : Func} {c : Code} (hf : Tryz.prog.funcs[f]? = some fn) (hname : (fn.name == "runtime.NumGoroutine") = false) (hb : fn.body = some c) : ∀ args w, (callFunc f args).run Tryz.prog w = .ok (.enter f args) w := enters_of hf hname hb
def sgE (lo hi:Rat):Int:=if 0≤lo.num.sign then 1 else if hi.num.sign≤0 then -1 else 0
theorem Zd5(q:Rat):0≤q.num.sign↔0≤q:=by
 rw[← Rat.num_nonneg];rcases Int.lt_trichotomy q.num 0 with h|h|h
 ·rw[Int.sign_eq_neg_one_of_neg h];omega
 ·rw[h];decide
 ·rw[Int.sign_eq_one_of_pos h];omega
theorem Zhn(q:Rat):q.num.sign≤0↔q≤0:=by
 have h1:q≤0↔q.num≤0:=by
  have:=Zd5 (-q)
  rw[Rat.neg_num,Int.sign_neg] at this;constructor
  ·intro h;have h2:0 ≤ -q:=by grind
   have h3:=Rat.num_nonneg.2 h2;rw[Rat.neg_num] at h3;omega
  ·intro h;have h2:0≤(-q).num:=by rw[Rat.neg_num];omega
   have h3:=Rat.num_nonneg.1 h2
   grind
 rw[h1];rcases Int.lt_trichotomy q.num 0 with h|h|h
 ·rw[Int.sign_eq_neg_one_of_neg h];omega
 ·rw[h];decide
 ·rw[Int.sign_eq_one_of_pos h];omega
theorem Zik(n:Nat)(ps:List Int)(l:List Rat):sgE (loE n ps l) (hiE n ps l)=Zcb n ps l:=by
 unfold sgE Zcb
 by_cases h1:0≤loE n ps l
 ·rw[if_pos ((Zd5 _).2 h1),if_pos h1]
 ·rw[if_neg fun h=>h1 ((Zd5 _).1 h),if_neg h1]
  by_cases h2:hiE n ps l≤0
  ·rw[if_pos ((Zhn _).2 h2),if_pos h2]
  ·rw[if_neg fun h=>h2 ((Zhn _).1 h),if_neg h2]
theorem Zi6(w:World)(a b:Rat):Kc Tryz.prog 88 #[fr a,fr b] w (.int .i64 (sgE a b)):=by
 have H3:=hd_ (Ztw.mk' w (itx a.num) (dec a.den) (itx b.num) (dec b.den));have Ha:=hd_ (fun W=>Zij W a)
 have Hb:=hd_ (fun W=>Zij W b)
 have Hv:Hid (sgE a b=if 0≤a.num.sign then 1 else if b.num.sign≤0 then -1 else 0):=rfl
 generalize sgE a b=v at *
 unfold Kc;unfold fr fv at Ha Hb ⊢;generalize a.num.sign=sa at *
 generalize b.num.sign=sb at *
 by_cases h1:0≤sa
 ·have Hv2:Hid (v=1):=by show _=_;rw[Hv.out,if_pos h1]
  clear Hv Hb;go_enter Tryz.func88,Tryz.ntmps88;obtain⟨k0,k1,-,-⟩:=Ka H3.out.fa
  go_wp2_with fail
  generalize (w.alloc (.cells #[.string (itx a.num),.string (dec a.den)] 42)).alloc (.cells #[.string (itx b.num),.string (dec b.den)] 42)=W0 at *
  clear k0 k1;refine cm_ (Ha.out _) ?_;rintro e w1 ⟨rfl,hb1⟩;have B1:=hd_ (H3.out.bel.trans (hb1.mono H3.out.bel.size));clear hb1 Ha
  go_wp2_with fail
  go_ret;exact⟨by rw[Hv2.out];rfl,B1.out⟩
 ·by_cases h2:sb≤0
  ·have Hv2:Hid (v = -1):=by show _=_;rw[Hv.out,if_neg h1,if_pos h2]
   clear Hv;go_enter Tryz.func88,Tryz.ntmps88;obtain⟨k0,k1,-,-⟩:=Ka H3.out.fa
   go_wp2_with fail
   generalize (w.alloc (.cells #[.string (itx a.num),.string (dec a.den)] 42)).alloc (.cells #[.string (itx b.num),.string (dec b.den)] 42)=W0 at *
   clear k0 k1;refine cm_ (Ha.out _) ?_;rintro e w1 ⟨rfl,hb1⟩;have H4:=hd_ (H3.out.next hb1);clear hb1 Ha H3;obtain⟨k2,k3,-,-⟩:=Ka H4.out.fb
   go_wp2_with fail
   clear k2 k3;refine cm_ (Hb.out _) ?_;rintro e w2 ⟨rfl,hb1⟩;have B1:=hd_ (H4.out.bel.trans (hb1.mono H4.out.bel.size));clear hb1 Hb
   go_wp2_with fail
   go_ret;exact⟨by rw[Hv2.out];rfl,B1.out⟩
  ·have Hv2:Hid (v=0):=by show _=_;rw[Hv.out,if_neg h1,if_neg h2]
   clear Hv;go_enter Tryz.func88,Tryz.ntmps88;obtain⟨k0,k1,-,-⟩:=Ka H3.out.fa
   go_wp2_with fail
   generalize (w.alloc (.cells #[.string (itx a.num),.string (dec a.den)] 42)).alloc (.cells #[.string (itx b.num),.string (dec b.den)] 42)=W0 at *
   clear k0 k1;refine cm_ (Ha.out _) ?_;rintro e w1 ⟨rfl,hb1⟩;have H4:=hd_ (H3.out.next hb1);clear hb1 Ha H3;obtain⟨k2,k3,-,-⟩:=Ka H4.out.fb
   go_wp2_with fail
   clear k2 k3;refine cm_ (Hb.out _) ?_;rintro e w2 ⟨rfl,hb1⟩;have B1:=hd_ (H4.out.bel.trans (hb1.mono H4.out.bel.size));clear hb1 Hb
   go_wp2_with fail
   go_ret;exact⟨by rw[Hv2.out];rfl,B1.out⟩
theorem Zu8(w:World)(a:Option Addr)(c:Nat)(l:List Rat)(hr:Rd w a (Kx l))(hl:l.length≤1000000)(f:FuncId)(lb:Array Value)(eg:∀ args w,(callFunc f args).run Tryz.prog w = .ok (.enter f args) w)(pf:Rat→Bool)
  (hcl:∀ W,Below w.heap.size w W→∀ x∈l,Kc Tryz.prog f (#[fr x]++lb) W (.bool (pf x))) :
  Kc Tryz.prog 207 #[.slice a l.length c,.func (.func f) #[] lb] w (.int .i64 (Zqi pf l 0)):=by
 unfold Kc;have Hr:=hd_ hr;have Hcl:=hd_ hcl;clear hr hcl;generalize hm:l.length=m at *
 have Hm:=hd_ hm;clear hm;generalize hv:Zqi pf l 0=v at *
 have Hvv:Hid (v=Zqi pf l 0):=hv.symm;clear hv;go_enter Tryz.func207,Tryz.ntmps207
 go_wp2_with fail
 go_loopw [8] (fun i wr=>∃ k:Nat,k≤m∧i = .int .i64 k∧Hid (v=Zqi pf (l.drop k) k)∧Hid (Below w.heap.size w wr)) (fun i _=>m-(intOf i).toNat)
 case atStart=>exact⟨0,Nat.zero_le _,rfl,Hvv,Below.refl _ _⟩
 case round =>
  clear Hvv;obtain⟨k,hk,rfl,Hx,B⟩:=hrel
  by_cases hlt:k<m
  ·have hlt':(k:Int)<m:=by omega
   have hkb:k<l.length:=by rw[Hm.out];exact hlt
   obtain⟨b,off,rfl,hb,hcells⟩:=Hr.out.open (by rw[Ky];omega)
   obtain⟨x0,x1⟩:=Ql hcells k (by rw[List.length_map];exact hkb)
   rw[Qt l k hkb] at x0 x1;rw[← B.out.cell (p:=⟨b,off+k*2,none⟩) hb] at x0;rw[← B.out.cell (p:=⟨b,off+k*2+1,none⟩) hb] at x1;have Hd:Hid (l.drop k=l[k]::l.drop (k+1)):=List.drop_eq_getElem_cons hkb;have Hc:=hd_ (Hcl.out wr B.out l[k] (List.getElem_mem hkb));unfold fr fv at Hc;unfold qs at x0 x1;simp only at x0 x1;clear hcells;generalize l[k]=x at *
   cases hf:pf x with
   | false =>
    have Hn:Hid (v=Zqi pf (l.drop (k+1)) (k+1)):=by show _=_;rw[Hx.out,Hd.out,Zqi,if_neg (by rw[hf];decide)]
    rw[hf] at Hc
    go_wp2_with fail
    refine cm_ Hc.out ?_;rintro e w1 ⟨rfl,hb1⟩;have B1:=hd_ (B.out.trans (hb1.mono B.out.size));clear hb1 Hc B x0 x1
    go_wp2_with fail
    go_roundw
    case rel=>exact⟨k+1,by omega,by go_num,Hn,B1⟩
    case measure=>simp[intOf];omega
   | true =>
    have Hn:Hid (v=k):=by show _=_;rw[Hx.out,Hd.out,Zqi,if_pos hf]
    rw[hf] at Hc
    go_wp2_with fail
    refine cm_ Hc.out ?_;rintro e w1 ⟨rfl,hb1⟩;have B1:=hd_ (B.out.trans (hb1.mono B.out.size));clear hb1 Hc B x0 x1
    go_wp2_with fail
    go_ret;exact⟨by rw[Hn.out];rfl,B1.out⟩
  ·have hlt':¬ (k:Int)<m:=by omega
   have Hn:Hid (v = -1):=by show _=_;rw[Hx.out,List.drop_of_length_le (by rw[Hm.out];omega)];rfl
   go_wp2_with fail
   go_ret;exact⟨by rw[Hn.out];rfl,B.out⟩
theorem Zvr(w:World)(a:Option Addr)(c:Nat)(l:List Rat)(hr:Rd w a (Kx l))(hl:l.length≤1000000)(f:FuncId)(lb:Array Value)(eg:∀ args w,(callFunc f args).run Tryz.prog w = .ok (.enter f args) w)(pf:Rat→Bool)
  (hcl:∀ W,Below w.heap.size w W→∀ x∈l,Kc Tryz.prog f (#[fr x]++lb) W (.bool (pf x))) :
  Kc Tryz.prog 161 #[.slice a l.length c,.func (.func f) #[] lb] w (.bool (l.any pf)):=by
 unfold Kc;have Hc:=hd_ (Zu8 w a c l hr hl f lb eg pf hcl);have Hv:=hd_ (Zn5 pf l 0);unfold Kc at Hc;clear hr hcl;generalize l.length=m at *
 generalize Zqi pf l 0=v at *
 generalize l.any pf=z at *
 go_enter Tryz.func161,Tryz.ntmps161
 go_wp2_with fail
 refine cm_ Hc.out ?_;rintro e w1 ⟨rfl,hb1⟩;have B1:=hd_ hb1;clear hb1 Hc
 go_wp2_with fail
 go_ret;exact⟨by rw[← Hv.out];rfl,B1.out⟩
def nzQ (q:Rat):Bool:=q.num.sign != 0
theorem Zty(w:World)(q:Rat):Kc Tryz.prog 162 #[fr q] w (.bool (nzQ q)):=by
 unfold Kc;have Hb0:=hd_ ((Below.refl w.heap.size w).alloc nr_ (.cells #[.string (itx q.num),.string (dec q.den)] 42));have Hs:=hd_ (fun W=>Zij W q)
 have Hv:Hid (nzQ q=(q.num.sign != 0)):=rfl;have F:=Zag.new w q;generalize nzQ q=v at *
 unfold fr fv at Hs ⊢;generalize q.num.sign=s at *
 go_enter Tryz.func162,Tryz.ntmps162;obtain⟨k0,k1,-,-⟩:=Ka F;clear F
 go_wp2_with fail
 generalize w.alloc (.cells #[.string (itx q.num),.string (dec q.den)] 42)=W0 at *
 clear k0 k1;refine cm_ (Hs.out _) ?_;rintro e w1 ⟨rfl,hb1⟩;have B1:=hd_ (Hb0.out.trans (hb1.mono Hb0.out.size));clear hb1 Hs
 go_wp2_with fail
 go_ret;exact⟨by rw[Hv.out];rfl,B1.out⟩
theorem Zn8(w:World)(a:Option Addr)(c:Nat)(l:List Rat)(hr:Rd w a (Kx l))(hl:l.length≤1000000):
  Kc Tryz.prog 85 #[.slice a l.length c] w (.bool (!l.any nzQ)):=by
 unfold Kc;have Hc:=hd_ (Zvr w a c l hr hl 162 #[] (Zi7 Tryz.func162 (by kernel_rfl) rfl) nzQ fun W _ x _=>Zty W x)
 unfold Kc at Hc;clear hr hl;generalize l.length=m at *
 generalize l.any nzQ=z at *
 go_enter Tryz.func85,Tryz.ntmps85
 go_wp2_with fail
 refine cm_ Hc.out ?_;rintro e w1 ⟨rfl,hb1⟩;have B1:=hd_ hb1;clear hb1 Hc
 go_wp2_with fail
 go_ret;exact⟨rfl,B1.out⟩
def Zz7 (w w':World) (ps:List Int) (l:List Rat) (T:Nat→Bool) (e:Ending):Prop :=
 ∃ R B n,e = .returned (.tuple #[.pointer (some ⟨R,0,none⟩),.int .i64 (n:Nat),.bool true])∧Zlh w' R ps l B∧n≤B∧B≤1000∧Zcc T n∧Below w.heap.size w w'
theorem Zkk(w:World)(ps:List Int)(l:List Rat)(a0 a1:Option Addr)(c0 c1 D:Nat)(rp:Rd w a0 (Vc ps))(rl:Rd w a1 (Kx l))(hl:l.length=ps.length)(hn:ps.length≤100)(hp:∀ p∈ps,∃ q:Nat,p=q∧(q=2∨q∈Yt))(hs:∀ q∈l,Sm D q)(hD:D≤300)
  (f:FuncId) (lb:Array Value) (eg:∀ args w,(callFunc f args).run Tryz.prog w = .ok (.enter f args) w) (T:Nat→Bool)
  (hT:∀ W,Below w.heap.size w W→∀ b,b≤1000→Kc Tryz.prog f (#[fr (loE b ps l),fr (hiE b ps l)]++lb) W (.bool (T b))) (hend:T 1000=true) (L:Qb w) :
  Calls Tryz.prog 86 #[.slice a0 ps.length c0,.slice a1 ps.length c1,.func (.func f) #[] lb] w fun e w'=>Zz7 w w' ps l T e:=by
 have HOp:=hd_ (fun W (hW:Below w.heap.size w W) B hB=>Zd6 W ps l B a0 a1 c0 c1 (rp.below hW nr_) (rl.below hW nr_) hl hn hp hB (L.below hW))
 have HEn:=hd_ (fun W (hW:Below w.heap.size w W) R B b (H:Zlh W R ps l B) (hb:b≤B) (hB:B≤1000)=>Zbk W R ps l B b D H hl hn hp hs hD hb hB (L.below hW))
 have HT:=hd_ hT;have Hend:=hd_ hend;clear rp rl hs hp hT hend L;unfold fr fv at HEn HT;generalize hnn:ps.length=n at *
 have Hn:=hd_ hnn;clear hnn;go_enter Tryz.func86,Tryz.ntmps86
 go_wp2_with fail
 refine cm_ (HOp.out _ (Below.refl _ _) 32 (by decide)) ?_
 rintro e w1 ⟨R0,rfl,hg,hR,hb⟩;have HG0:=hd_ hg;have B1:=hd_ hb;clear hg hR hb
 go_wp2_with fail
 go_loopw [9,10] (fun m p wr=>∃ (B R:Nat),32≤B∧B≤1000∧m = .int .i64 B∧p = .pointer (some ⟨R,0,none⟩)∧Hid (Zlh wr R ps l B)∧Hid (Below w.heap.size w wr)) (fun m _ _=>1000-(intOf m).toNat)
 case atStart=>exact⟨32,R0,Nat.le_refl _,by decide,rfl,rfl,HG0,B1⟩
 case round =>
  obtain⟨B,R,hB1,hB2,rfl,rfl,HG,HB⟩:=hrel;clear HG0 B1
  go_wp2_with fail
  refine cm_ (HEn.out _ HB.out R B B HG.out nr_ hB2) ?_;rintro e w2 ⟨rfl,hb⟩;have HB2:=hd_ (HB.out.trans (hb.mono HB.out.size));have HG2:=hd_ (HG.out.below hb);clear hb HG HB;have Hc:=hd_ (HT.out w2 HB2.out B hB2);cases hf:T B with
  | false =>
   rw[hf] at Hc;have hB3:B<1000:=by
    rcases Nat.lt_or_ge B 1000 with h|h
    ·exact h
    ·obtain rfl:B=1000:=by omega
     rw[Hend.out] at hf;cases hf
   obtain⟨B',hB'⟩:∃ B',min (2*B) 1000=B':=⟨_,rfl⟩;have hm:min (2*(B:Int)) 1000=(B':Nat):=by omega
   have hw:IntKind.i64.wrap (2*(B:Int))=2*(B:Int):=iw_ _ (by omega)
   have hne:((B:Int)==1000)=false:=by rw[beq_eq_false_iff_ne];omega
   have HOp':=hd_ (fun W hW=>HOp.out W hW B' (by omega))
   have hlow:32≤B':=by omega
   have hhigh:B'≤1000:=by omega
   have hgrow:B<B':=by omega
   clear hf hB'
   go_wp2_with fail
   refine cm_ Hc.out ?_;rintro e w3 ⟨rfl,hb⟩;have HB3:=hd_ (HB2.out.trans (hb.mono HB2.out.size));clear hb Hc HB2 HG2
   go_wp2_with fail
   refine cm_ (HOp'.out _ HB3.out) ?_;rintro e w4 ⟨R',rfl,hg,hR,hb⟩;have HG4:=hd_ hg;have HB4:=hd_ (HB3.out.trans (hb.mono HB3.out.size));clear hg hR hb HB3 HOp'
   go_wp2_with fail
   refine⟨⟨B',R',hlow,hhigh,rfl,rfl,HG4,HB4⟩,by simp[intOf];omega⟩
  | true =>
   rw[hf] at Hc;have Htop:=hd_ hf;clear hf
   go_wp2_with fail
   refine cm_ Hc.out ?_;rintro e w3 ⟨rfl,hb⟩;have HB3:=hd_ (HB2.out.trans (hb.mono HB2.out.size));have HG3:=hd_ (HG2.out.below hb);clear hb Hc HB2 HG2
   go_wp2_with fail
   go_loopw [11,12] (fun u v wr=>∃ (fI:Int) (t:Nat),-1≤fI∧fI<t∧t≤B∧u = .int .i64 fI∧v = .int .i64 t∧Hid (T t=true∧(fI = -1∨T fI.toNat=false))∧Hid (Zlh wr R ps l B)∧Hid (Below w.heap.size w wr)) (fun u v _=>(intOf v-intOf u).toNat)
   case atStart=>exact⟨-1,B,Int.le_refl _,by omega,Nat.le_refl _,rfl,rfl,⟨Htop.out,.inl rfl⟩,HG3,HB3⟩
   case round =>
    obtain⟨fI,t,hf1,hf2,ht,rfl,rfl,HX,HG,HB⟩:=hrel;clear HG3 HB3;have hw1:IntKind.i64.wrap ((t:Int)-fI)=(t:Int)-fI:=iw_ _ (by omega)
    by_cases hc:1<(t:Int)-fI
    ·obtain⟨m,hm⟩:∃ m:Nat,((m:Nat):Int)=(fI+t)/2:=⟨((fI+t)/2).toNat,by omega⟩
     have hw2:IntKind.i64.wrap (fI+(t:Int))=fI+t:=iw_ _ (by omega)
     have hq:Int.tdiv (fI+(t:Int)) 2=(m:Nat):=by rw[Int.tdiv_eq_ediv_of_nonneg (by omega)];omega
     have hq':(fI+(t:Int))/2=(m:Nat):=hm.symm;have hm1:fI<m:=by omega
     have hm2:m<t:=by omega
     clear hm
     go_wp2_with fail
     refine cm_ (HEn.out _ HB.out R B m HG.out (by omega) hB2) ?_
     rintro e w4 ⟨rfl,hb⟩;have HB4:=hd_ (HB.out.trans (hb.mono HB.out.size));have HG4:=hd_ (HG.out.below hb);clear hb HG HB;have Hc:=hd_ (HT.out w4 HB4.out m (by omega))
     cases hf:T m with
     | true =>
      rw[hf] at Hc;have HX2:Hid (T m=true∧(fI = -1∨T fI.toNat=false)):=⟨hf,HX.out.2⟩;clear hf HX
      go_wp2_with fail
      refine cm_ Hc.out ?_;rintro e w5 ⟨rfl,hb⟩;have HB5:=hd_ (HB4.out.trans (hb.mono HB4.out.size));have HG5:=hd_ (HG4.out.below hb);clear hb Hc HB4 HG4
      go_wp2_with fail
      refine⟨⟨fI,m,hf1,hm1,by omega,rfl,rfl,HX2,HG5,HB5⟩,by simp[intOf];omega⟩
     | false =>
      rw[hf] at Hc;have HX2:Hid (T t=true∧((m:Int) = -1∨T ((m:Int)).toNat=false)):=⟨HX.out.1,.inr (by rw[Int.toNat_natCast];exact hf)⟩
      clear hf HX
      go_wp2_with fail
      refine cm_ Hc.out ?_;rintro e w5 ⟨rfl,hb⟩;have HB5:=hd_ (HB4.out.trans (hb.mono HB4.out.size));have HG5:=hd_ (HG4.out.below hb);clear hb Hc HB4 HG4
      go_wp2_with fail
      refine⟨⟨(m:Int),t,by omega,by omega,ht,rfl,rfl,HX2,HG5,HB5⟩,by simp[intOf];omega⟩
    ·have hc':fI=(t:Int)-1:=by omega
     have HL:Hid (Zcc T t):=by
      refine⟨HX.out.1,?_,by omega⟩
      rcases HX.out.2 with h|h
      ·left;omega
      ·by_cases h0:t=0
       ·left;exact h0
       ·right;rw[show t-1=fI.toNat by omega];exact h
     clear hc' HX
     go_wp2_with fail
     go_ret3
     exact⟨R,B,t,rfl,HG.out,ht,hB2,HL.out,HB.out⟩
def Qq (l:List (Int×Int×ByteArray)):List Value:=l.flatMap fun x=>[.int .i64 x.1,.int .i64 x.2.1,.string x.2.2]
theorem Zb5(l:List (Int×Int×ByteArray)):(Qq l).length=l.length*3:=by
 unfold Qq
 induction l with
 | nil=>rfl
 | cons x l ih=>rw[List.flatMap_cons,List.length_append,ih,List.length_cons];simp;omega
theorem Zdx(l m:List (Int×Int×ByteArray)):Qq (l++m)=Qq l++Qq m:=by simp[Qq]
def Zbq (n:Nat) (ps:List Int) (l:List Rat):List (Int×Int×ByteArray):=(ps.zip l).filterMap fun x=>if x.2.num=0 then none else some (x.1,(n:Int),dec (lgN x.1 n))
theorem Zgz(n:Nat)(ps:List Int)(l:List Rat)(k:Nat)(h1:k<ps.length)(h2:k<l.length):
  Zbq n (ps.take (k+1)) (l.take (k+1))=Zbq n (ps.take k) (l.take k)++(if l[k].num=0 then [] else [(ps[k],(n:Int),dec (lgN ps[k] n))]):=by
 unfold Zbq;have e:∀ n,(ps.take n).zip (l.take n)=(ps.zip l).take n:=fun n=>(List.take_zipWith ..).symm
 rw[e,e,List.take_add_one,List.getElem?_eq_getElem (by rw[List.length_zip];omega),List.filterMap_append]
 congr 1;rw[List.getElem_zip]
 by_cases h:l[k].num=0
 ·rw[if_pos h]
  show List.filterMap _ [(ps[k],l[k])]=[]
  rw[List.filterMap_cons,if_pos h];rfl
 ·rw[if_neg h]
  show List.filterMap _ [(ps[k],l[k])]=_
  rw[List.filterMap_cons,if_neg h];rfl
theorem Zna(n:Nat)(ps:List Int)(l:List Rat):(Zbq n ps l).length≤ps.length:=by
 unfold Zbq;refine Nat.le_trans (List.length_filterMap_le _ _) ?_;rw[List.length_zip];omega
theorem Zzr:(Tryz.prog.info? 27).map (fun i=>(i.zero,i.size,i.bytes))=some (some (.agg #[.int .i64 0,.int .i64 0,.string ⟨#[]⟩]),3,32):=by kernel_rfl
theorem Qax:Zbp Tryz.prog 49 27 (.agg #[.int .i64 0,.int .i64 0,.string ⟨#[]⟩]) 3 32:=⟨Tryz.underlying49,info_parts Zzr,rfl,by decide⟩
theorem Zp8(w:World)(a b:Rat):Kc Tryz.prog 87 #[fr a,fr b] w (.bool (sgE a b != 0)):=by
 have H3:=hd_ (Ztw.mk' w (itx a.num) (dec a.den) (itx b.num) (dec b.den));have Hs:=hd_ (fun W=>Zi6 W a b)
 unfold Kc;unfold fr fv at Hs ⊢;generalize sgE a b=v at *
 go_enter Tryz.func87,Tryz.ntmps87;obtain⟨k0,k1,-,-⟩:=Ka H3.out.fa;obtain⟨k2,k3,-,-⟩:=Ka H3.out.fb
 go_wp2_with fail
 generalize (w.alloc (.cells #[.string (itx a.num),.string (dec a.den)] 42)).alloc (.cells #[.string (itx b.num),.string (dec b.den)] 42)=W0 at *
 clear k0 k1 k2 k3;refine cm_ (Hs.out _) ?_;rintro e w1 ⟨rfl,hb1⟩;have B1:=hd_ (H3.out.bel.trans (hb1.mono H3.out.bel.size));clear hb1 Hs
 go_wp2_with fail
 go_ret;exact⟨rfl,B1.out⟩
def Zok (sg n:Int) (a:Option Addr) (m c:Nat):Value := .agg #[.int .i64 sg,.int .i64 n,.slice a m c]
def Qbm (w w':World) (ps:List Int) (l:List Rat) (e:Ending):Prop :=
 ∃ (n:Nat) (a:Option Addr) (c:Nat),e = .returned (.tuple #[Zok (Zcb n ps l) n a (Zbq n ps l).length c,.int .i64 0])∧Zcc (fun b=>Zcb b ps l != 0) n∧Rd w' a (Qq (Zbq n ps l))∧Below w.heap.size w w'
structure DcI (w w3 wr:World) (sg:Int) (n m:Nat) (a:Option Addr) (c:Nat) (bl:List (Int×Int×ByteArray)):Prop where
 res:wr.heap[w.heap.size]?=some (.cells #[.int .i64 0,.int .i64 0,.slice none 0 0] 51 (0,0))
 ob:wr.heap[w3.heap.size]?=some (.cells #[.int .i64 sg,.int .i64 n,.slice a m c] 51 (0,0))
 own:wr.ownsRow (w3.heap.size+1) 27 3 (.slice a m c) m (Qq bl)
 bel:Below w3.heap.size w3 wr
 sz:w3.heap.size+1≤wr.heap.size
theorem DcI.below{w w3 wr w':World}{sg:Int}{n m:Nat}{a:Option Addr}{c:Nat}{bl:List (Int×Int×ByteArray)}(h:DcI w w3 wr sg n m a c bl)(hb:Below wr.heap.size wr w'):DcI w w3 w' sg n m a c bl :=
 ⟨by rw[hb.block _ (Array.getElem?_eq_some_iff.1 h.res).1];exact h.res,by rw[hb.block _ (Array.getElem?_eq_some_iff.1 h.ob).1];exact h.ob,Vu h.own hb nr_,h.bel.trans (hb.mono h.bel.size),Nat.le_trans h.sz hb.size⟩
theorem Zff(w:World)(a0 a1:Option Addr)(c0 c1:Nat)(ps:List Int)(l:List Rat)(rp:Rd w a0 (Vc ps))(rl:Rd w a1 (Kx l))(hi:Zjq ps)(hl:l.length=ps.length)(hn:ps.length≤100)(hs:∀ q∈l,Sm 30 q)(hp0:Vp ps=0)(L:Qb w):
  Kc Tryz.prog 22 #[.slice a0 ps.length c0,.slice a1 ps.length c1] w (.int .i64 0):=by
 have hss:Ssz (l.map qs):=fun x hx=>by
  obtain⟨q,hq,rfl⟩:=List.mem_map.1 hx;have h1:=Zi2 q.num 30 (by decide) (hs q hq).1
  have h2:=(Yz q.den 30 (by decide)).2 (hs q hq).2
  refine⟨Nat.le_trans h1 (by decide),Nat.le_trans h2 (by decide)⟩
 have h:=Zii w a0 a1 c0 c1 ps (l.map qs) rp hi (by omega) rl (by rw[List.length_map];omega) hss L
 rw[List.length_map,hl] at h;have h0:Zte ps (l.map qs)=0:=by unfold Zte;rw[if_pos hp0,Zfc hs hl]
 rw[h0] at h;exact h
theorem Zq7{w:World}{R:Nat}{x y z z':Value}{t:TypeId}(h:w.heap[R]?=some (.cells #[x,y,z] t (0,0))):
  (w.setCell ⟨R,2,none⟩ z').heap[R]?=some (.cells #[x,y,z'] t (0,0)):=by
 have hlt:=lt_of_block h;have h':w.heap[R] = .cells #[x,y,z] t (0,0):=by simpa [Array.getElem?_eq_getElem hlt] using h
 show (w.heap.modify R _)[R]?=_
 rw[Array.getElem?_eq_getElem (by simpa using hlt),Array.getElem_modify_self,h']
 rfl
theorem Zl7{w:World}{B e:Nat}{a:Option Addr}{c m:Nat}{vs:List Value}{sz:Nat}(h:w.ownsRow B e sz (.slice a m c) m vs):Rd w a vs:=by
 by_cases hn:0<m
 ·obtain⟨g,cap,hv,h1,h2,h3,h4,h5⟩:=Vv h hn;simp only[Value.slice.injEq] at hv;obtain⟨rfl,-,-⟩:=hv;refine .inr ⟨g,0,rfl,h2,fun i v hi=>?_⟩
  have hlt:=(List.getElem?_eq_some_iff.1 hi).1;have hlen:=h.1;rw[Nat.zero_add,h4 i (by omega)];exact hi
 ·obtain rfl:m=0:=by omega
  have hlen:=h.1;exact .inl (List.length_eq_zero_iff.1 (by omega))
theorem DcI.push{w w3 W w5:World}{sg:Int}{n mm c d:Nat}{a a3:Option Addr}{bl:List (Int×Int×ByteArray)}{x:Int×Int×ByteArray}{news:List Value}(h:DcI w w3 W sg n mm a c bl)(hw:w.heap.size<w3.heap.size)
  (hnews:news=[.int .i64 x.1,.int .i64 x.2.1,.string x.2.2])
  (hg:(W.alloc (.cells news.toArray 27)).grownBy w5 (Value.slice a mm c).ownBlock) (ho:w5.ownsRow (w3.heap.size+1) 27 3 (.slice a3 (mm+1) d) (mm+1) (Qq bl++news)) :
  (∃ v,w5.cell? ⟨w3.heap.size,2,none⟩=some v)∧w5.frozen? ⟨w3.heap.size,2,none⟩=false∧DcI w w3 (w5.setCell ⟨w3.heap.size,2,none⟩ (.slice a3 (mm+1) d)) sg n (mm+1) a3 d (bl++[x]):=by
 have hown:∀ k,(Value.slice a mm c).ownBlock=some k→w3.heap.size+1≤k:=fun k hk=>(World.ownsRow.lt h.own k hk).1
 have keep:∀ k o,k<w3.heap.size+1→W.heap[k]?=some o→w5.heap[k]?=some o:=fun k o hk ho=>by
  rw[hg.block k (by simp;have:=h.sz;omega) (fun e=>by have:=hown k e.symm;omega)]
  rw[((Below.refl W.heap.size W).alloc nr_ _).block k (by have:=h.sz;omega)]
  exact ho
 have ob5:=keep _ _ (Nat.lt_succ_self _) h.ob;obtain⟨-,-,k2,kf⟩:=Ki ob5;refine⟨⟨_,k2⟩,kf 2,?_,Zq7 ob5,?_,?_,?_⟩
 ·rw[Below.heap_setCell _ _ _ _ (by show w.heap.size≠w3.heap.size;omega)]
  exact keep _ _ (by omega) h.res
 ·have:=ownsRow_setCell_below (a:=⟨w3.heap.size,2,none⟩) ho (Nat.lt_succ_self _) (.slice a3 (mm+1) d)
  rw[Zdx];subst hnews;exact this
 ·refine Below.setCell (p:=⟨w3.heap.size,2,none⟩) ?_ nr_ _;exact(h.bel.alloc h.bel.size _).grown hg (by simp;have:=h.sz;omega) (fun k hk=>by have:=hown k hk;omega)
 ·rw[World.size_setCell];have:=hg.size
  simp at this;have:=h.sz
  omega
theorem Zs2(w:World)(a0 a1:Option Addr)(c0 c1 D:Nat)(ps:List Int)(l:List Rat)(rp:Rd w a0 (Vc ps))(rl:Rd w a1 (Kx l))(hi:Zjq ps)(hl:l.length=ps.length)(hn:ps.length≤100)(hp:∀ p∈ps,∃ q:Nat,p=q∧(q=2∨q∈Yt))(hs:∀ q∈l,Sm D q)(hD:D≤30)
  (hp0:Vp ps=0) (hnz:l.any nzQ=true) (hend:Zcb 1000 ps l≠0) (L:Qb w) :
  Calls Tryz.prog 26 #[.slice a0 ps.length c0,.slice a1 ps.length c1] w fun e w'=>Qbm w w' ps l e:=by
 have Hck:=hd_ (fun W (hW:Below w.heap.size w W)=>Zff W a0 a1 c0 c1 ps l (rp.below hW nr_) (rl.below hW nr_) hi hl hn (fun q hq=>(hs q hq).le hD) hp0 (L.below hW))
 have Hze:=hd_ (fun W (hW:Below w.heap.size w W)=>Zn8 W a1 c1 l (rl.below hW nr_) (by omega))
 rw[hnz,hl] at Hze;have Hle:=hd_ (fun W (hW:Below w.heap.size w W)=>Zkk W ps l a0 a1 c0 c1 D (rp.below hW nr_) (rl.below hW nr_) hl hn hp hs (by omega) 87 #[] (Zi7 Tryz.func87 (by kernel_rfl) rfl) (fun b=>Zcb b ps l != 0) (fun W' _ b _=>by
  have:=Zp8 W' (loE b ps l) (hiE b ps l)
  rw[Zik] at this;exact this) (by rw[bne_iff_ne];exact hend) (L.below hW))
 have HEn:=hd_ (fun W (hW:Below w.heap.size w W) R B b (H:Zlh W R ps l B) (hb:b≤B) (hB:B≤1000)=>Zbk W R ps l B b D H hl hn hp hs (by omega) hb hB (L.below hW))
 have HSg:=hd_ (fun W b=>Zi6 W (loE b ps l) (hiE b ps l))
 have HAt:=hd_ (fun W (hW:Below w.heap.size w W) R B b k (H:Zlh W R ps l B) (hk:k<ps.length) (hkl:k<l.length) (hz:l[k].num≠0) (hb:b≤B) (hB:B≤1000)=>Zwx W R ps l B b k H hl hn hk hkl (hp _ (List.getElem_mem hk)) hz hb hB (L.below hW))
 have HRp:=hd_ rp;have HRl:=hd_ rl;have Hl:=hd_ hl;have Hnew:Hid ((w.alloc (.cells #[.int .i64 0,.int .i64 0,.slice none 0 0] 51)).heap[w.heap.size]?=some (.cells #[.int .i64 0,.int .i64 0,.slice none 0 0] 51 (0,0))):=heap_alloc_new w _;have Hb0:=hd_ ((Below.refl w.heap.size w).alloc nr_ (.cells #[.int .i64 0,.int .i64 0,.slice none 0 0] 51));clear rp rl hs hp hp0 hnz hend L hi;unfold fr fv at HEn HSg;obtain⟨n,hnn⟩:∃ n,ps.length=n:=⟨_,rfl⟩;have Hn:=hd_ hnn;rw[hnn] at hn Hck Hze Hle ⊢;clear hnn hl;go_enter Tryz.func26,Tryz.ntmps26
 go_wp2_with fail
 generalize w.alloc (.cells #[.int .i64 0,.int .i64 0,.slice none 0 0] 51)=W0 at *
 refine cm_ (Hck.out _ Hb0.out) ?_;rintro e w1 ⟨rfl,hb⟩;have B1:=hd_ (Hb0.out.trans (hb.mono Hb0.out.size));have C1:=hd_ hb;clear hb Hck Hb0
 go_wp2_with fail
 refine cm_ (Hze.out _ B1.out) ?_;rintro e w2 ⟨rfl,hb⟩;have B2:=hd_ (B1.out.trans (hb.mono B1.out.size));have C2:=hd_ (C1.out.trans (hb.mono C1.out.size));clear hb Hze B1 C1
 go_wp2_with fail
 refine cm_ (Hle.out _ B2.out) ?_;rintro e w3a ⟨R,B,m,rfl,hg,hm,hB,hN,hb⟩;have B3:=hd_ (B2.out.trans (hb.mono B2.out.size));have C3:=hd_ (C2.out.trans (hb.mono C2.out.size));have HG:=hd_ hg;have HN:=hd_ hN;clear hb Hle B2 C2 hg hN
 go_wp2_with fail
 refine cm_ (HEn.out _ B3.out R B m HG.out hm hB) ?_;rintro e w3b ⟨rfl,hb⟩;have B4:=hd_ (B3.out.trans (hb.mono B3.out.size));have C4:=hd_ (C3.out.trans (hb.mono C3.out.size));have HG4:=hd_ (HG.out.below hb);clear hb HEn B3 C3 HG
 go_wp2_with fail
 refine cm_ (HSg.out _ m) ?_;rintro e w3 ⟨rfl,hb⟩;have B5:=hd_ (B4.out.trans (hb.mono B4.out.size));have C5:=hd_ (C4.out.trans (hb.mono C4.out.size));have HG5:=hd_ (HG4.out.below hb);clear hb HSg B4 C4 HG4;have hsg:sgE (loE m ps l) (hiE m ps l)=Zcb m ps l:=Zik m ps l;have Hsg:=hd_ hsg;rw[hsg];clear hsg;obtain⟨sg,hsgd⟩:∃ sg,Zcb m ps l=sg:=⟨_,rfl⟩;have Hdc:Hid (sg=Zcb m ps l):=hsgd.symm;rw[hsgd];clear hsgd;have HI0:Hid (DcI w w3 (w3.alloc (.cells #[.int .i64 sg,.int .i64 m,.slice none 0 0] 51)) sg m 0 none 0 (Zbq m (ps.take 0) (l.take 0))):=by
  have hr0:w3.heap[w.heap.size]?=some (.cells #[.int .i64 0,.int .i64 0,.slice none 0 0] 51 (0,0)):=by
   rw[C5.out.block _ (Array.getElem?_eq_some_iff.1 Hnew.out).1];exact Hnew.out
  refine⟨?_,heap_alloc_new w3 _,World.ownsRow_nil ..,(Below.refl _ _).alloc nr_ _,by simp⟩
  rw[((Below.refl w3.heap.size w3).alloc nr_ _).block _ (Array.getElem?_eq_some_iff.1 hr0).1];exact hr0
 have Hww:Hid (w.heap.size<w3.heap.size):=by
  have:=(Array.getElem?_eq_some_iff.1 Hnew.out).1
  have:=C5.out.size
  show _<_
  omega
 clear Hnew C5
 go_wp2_with fail
 go_loopw [43] (fun i wr=>∃ (k:Nat) (a:Option Addr) (c mm:Nat),k≤n∧i = .int .i64 k∧mm≤k∧Hid (mm=(Zbq m (ps.take k) (l.take k)).length)∧Hid (DcI w w3 wr sg m mm a c (Zbq m (ps.take k) (l.take k)))) (fun i _=>n-(intOf i).toNat)
 case atStart=>exact⟨0,none,0,0,Nat.zero_le _,rfl,Nat.le_refl _,rfl,HI0⟩
 case round =>
  obtain⟨k,a,c,mm,hk,rfl,hmm,Hmm,HI⟩:=hrel;clear HI0
  by_cases hlt:k<n
  ·have hlt':(k:Int)<n:=by omega
   have hkp:k<ps.length:=by rw[Hn.out];exact hlt
   have hkl:k<l.length:=by rw[Hl.out,Hn.out];exact hlt
   have Bw:=hd_ (B5.out.trans (HI.out.bel.mono B5.out.size));obtain⟨b0,o0,rfl,hb0,hc0⟩:=HRp.out.open (by rw[Qe];omega)
   have Hcp:Hid (∀ W,Below w.heap.size w W→W.cell? ⟨b0,o0+k,none⟩=some (.int .i64 ps[k])):=fun W hW=>by
    rw[hW.cell (p:=⟨b0,o0+k,none⟩) hb0];exact hc0 k _ (Yh ps k hkp)
   obtain⟨b1,o1,rfl,hb1,hc1⟩:=HRl.out.open (by rw[Ky];omega)
   obtain⟨x0,x1⟩:=Ql hc1 k (by rw[List.length_map];exact hkl)
   rw[Qt l k hkl] at x0 x1;rw[← Bw.out.cell (p:=⟨b1,o1+k*2,none⟩) hb1] at x0;rw[← Bw.out.cell (p:=⟨b1,o1+k*2+1,none⟩) hb1] at x1;have hkw:IntKind.i64.wrap ((k:Int)+1)=((k+1:Nat):Int):=by rw[← Int.natCast_succ];exact iw_ _ (by omega)
   have Hsg':=hd_ (fun W=>Zij W l[k])
   have Hbt:=hd_ (Zgz m ps l k hkp hkl);have HAt':=hd_ (fun W (hW:Below w3.heap.size w3 W) (hz:l[k].num≠0)=>HAt.out W (B5.out.trans (hW.mono B5.out.size)) R B m k (HG5.out.below hW) hkp hkl hz hm hB)
   clear hc0 hc1;unfold fr fv at Hsg';unfold qs at x0 x1;simp only at x0 x1;generalize l[k]=q at *
   generalize ps[k]=pk at *
   have HIa:=hd_ (HI.out.below ((Below.refl _ _).alloc nr_ (.cells #[.string (itx q.num),.string (dec q.den)] 42)));have k8:=Ka (heap_alloc_new wr (.cells #[.string (itx q.num),.string (dec q.den)] 42))
   by_cases hz:q.num=0
   ·have hbt:=Hbt.out;rw[if_pos hz,List.append_nil] at hbt;have Hbt2:=hd_ hbt;rw[hz] at Hsg' x0 k8 HIa;clear HAt' hbt Hbt hz
    go_wp2_with fail
    refine cm_ (Hsg'.out _) ?_;rintro e w4 ⟨rfl,hb⟩;have HI2:=hd_ (HIa.out.below hb);clear hb Hsg' k8 HIa HI
    go_wp2_with fail
    refine⟨⟨k+1,a,c,mm,by omega,by go_num,by omega,by rw[Hbt2.out];exact Hmm,by rw[Hbt2.out];exact HI2⟩,by simp[intOf];omega⟩
   ·have hsn:(q.num.sign != 0)=true:=by
     rw[bne_iff_ne];intro h;exact hz (Int.sign_eq_zero_iff_zero.1 h)
    have hbt:=Hbt.out;rw[if_neg hz] at hbt;have Hbt2:=hd_ hbt;have HAt2:=hd_ (fun W hW=>HAt'.out W hW hz)
    clear HAt' hbt Hbt hz
    go_wp2_with fail
    refine cm_ (Hsg'.out _) ?_;rintro e w4 ⟨rfl,hb⟩;have HI2:=hd_ (HIa.out.below hb);clear hb Hsg' k8 HIa HI x0 x1;obtain⟨k0,k1,k2,-⟩:=Ki HI2.out.ob;have cp:=Hcp.out w4 (B5.out.trans (HI2.out.bel.mono B5.out.size));have q0:=NW.cell k2;have q1:=NW.cell cp;have hnon:Nonempty (NW w4):=⟨⟨w4,Below.refl _ _⟩⟩;have I:Hid (Below w4.heap.size w4 w4.drew):=(Below.refl _ _).drew;clear k0 k1 k2 cp
    go_wp2_with fail
    refine RP.wp_region_readers 13 [(2,0),(1,1),(2,2),(2,3),(2,4),(1,5),(2,6),(2,7),(2,8),(2,9),(0,10),(0,11),(0,12),(0,13),(2,14),(0,15)] (fun w'=>∃ p:NW w4,w'=p.w) (by kernel_rfl) (by kernel_rfl) ?_ ?_
    ·exact⟨⟨_,I.out⟩,rfl⟩
    iterate 1 (refine RP.walkR_any ?_;simp only[dz_,Kg,tz_];go_big_quiet_step (fail);refine wpQuiet_nil ?_)
    iterate 1 (refine RP.walkR_read ?_;simp only[Kh,dz_,Kg,tz_];go_big_quiet_step (fail);refine wpQuiet_nil ?_)
    iterate 3 (refine RP.walkR_any ?_;simp only[Kh,dz_,Kg,tz_];go_big_quiet_step (fail);refine wpQuiet_nil ?_)
    iterate 1 (refine RP.walkR_read ?_;simp only[Kh,dz_,Kg,tz_];go_big_quiet_step (fail);refine wpQuiet_nil ?_)
    iterate 4 (refine RP.walkR_any ?_;simp only[Kh,dz_,Kg,tz_];go_big_quiet_step (fail);refine wpQuiet_nil ?_)
    clear hnon q0 q1;refine RP.walkR_move ?_;simp only[Kh,dz_,Kg,tz_]
    go_wp2_with fail
    refine cm_ (HAt2.out _ (HI2.out.bel.trans (I.out.mono HI2.out.bel.size))) ?_;rintro e x1 ⟨rfl,hb⟩;have I1:Hid (Below w4.heap.size w4 x1):=I.out.trans (hb.mono I.out.size);clear hb I HAt2
    go_wp2_with fail
    refine⟨⟨⟨_,I1.out⟩,rfl⟩,?_⟩;refine RP.walkR_move ?_;simp only[Kh,dz_,Kg,tz_]
    go_wp2_with fail
    refine⟨⟨⟨_,I1.out⟩,rfl⟩,?_⟩;refine RP.walkR_move ?_;simp only[Kh,dz_,Kg,tz_]
    go_wp2_with fail
    refine⟨⟨⟨_,I1.out.alloc I1.out.size _⟩,rfl⟩,?_⟩;have HI3:=hd_ (HI2.out.below I1.out);have Hsz:=hd_ HI3.out.sz;refine RP.walkR_move ?_;simp only[Kh,dz_,Kg,tz_]
    go_wp2_with (at_builtin;refine Km rfl (.tmp 52) (.tmp 63) 49 rfl Qax _ 1 [.int .i64 pk,.int .i64 m,.string (dec (lgN pk m))] rfl rfl HI3.out.own Hsz.out rfl (by simp[Value.oneCell']) (by omega) (by omega) ?_)
    intro v' w5 hown hgrow hnil;obtain⟨a3,d3,rfl⟩:=Qj hown;obtain⟨⟨v2,hv2⟩,hf2,hI5⟩:=HI3.out.push (x:=(pk,(m:Int),dec (lgN pk m))) Hww.out rfl hgrow hown;rw[← Hbt2.out] at hI5;have HI5:=hd_ hI5;have Hmm5:Hid (mm+1=(Zbq m (ps.take (k+1)) (l.take (k+1))).length):=by
     show _=_
     rw[Hbt2.out,List.length_append,← Hmm.out];rfl
    clear hown hgrow hnil hI5 HI3 I1
    go_wp2_with fail
    iterate 1 (refine RP.walkR_any ?_;simp only[Kh,dz_,Kg,tz_];go_big_quiet_step (fail);refine wpQuiet_nil ?_)
    refine RP.walkR_move ?_;simp only[Kh,dz_,Kg,tz_]
    go_wp2_with fail
    simp only[RP.walkR]
    go_wp2_with fail
    refine⟨⟨k+1,a3,d3,mm+1,by omega,by go_num,by omega,Hmm5,HI5⟩,by simp[intOf];omega⟩
  ·obtain rfl:k=n:=by omega
   have hlt':¬ (k:Int)<k:=by omega
   have htk:Zbq m (ps.take k) (l.take k)=Zbq m ps l:=by
    rw[← Hn.out,List.take_length,List.take_of_length_le (by rw[Hl.out,Hn.out];omega)]
   have Htk:=hd_ htk;obtain⟨k0,k1,k2,-⟩:=Ki HI.out.ob;obtain⟨r0,r1,r2,rf⟩:=Ki HI.out.res;have f0:=rf 0;have f1:=rf 1;have f2:=rf 2;have Bw:=hd_ (B5.out.trans (HI.out.bel.mono B5.out.size));have HRd:Hid (Rd (((wr.setCell ⟨w.heap.size,0,none⟩ (.int .i64 sg)).setCell ⟨w.heap.size,1,none⟩ (.int .i64 m)).setCell ⟨w.heap.size,2,none⟩ (.slice a mm c)) a (Qq (Zbq m ps l))):=by
    have:=HI.out.own
    rw[htk] at this;have hlt3:w.heap.size<w3.heap.size+1:=Nat.lt_succ_of_lt Hww.out;exact Zl7 (ownsRow_setCell_below (ownsRow_setCell_below (ownsRow_setCell_below this (a:=⟨w.heap.size,0,none⟩) hlt3 _) (a:=⟨w.heap.size,1,none⟩) hlt3 _) (a:=⟨w.heap.size,2,none⟩) hlt3 _)
   rw[htk] at Hmm;clear htk rf HAt;go_wp2;obtain⟨z0,z1,z2,hb3⟩:=Zev (.int .i64 sg) (.int .i64 m) (.slice a mm c) r0 r1 r2 nr_ Bw.out;generalize ((wr.setCell ⟨w.heap.size,0,none⟩ (.int .i64 sg)).setCell ⟨w.heap.size,1,none⟩ (.int .i64 m)).setCell ⟨w.heap.size,2,none⟩ (.slice a mm c)=w9 at *
   exact bodyPost_ret (v := .tuple #[.agg #[.int .i64 sg,.int .i64 m,.slice a mm c],.int .i64 0]) (by simp[results,Tryz.results26,go_sem,z0,z1,z2]) rfl ⟨m,a,c,by rw[← Hmm.out,← (show sg=Zcb m ps l from Hdc.out)];rfl,HN.out,HRd.out,hb3⟩
structure Zwz (w W:World):Prop where
 e0:W.heap[w.heap.size]?=some (.cells #[.string ⟨#[]⟩,.string ⟨#[]⟩] 42 (0,0))
 e1:W.heap[w.heap.size+1]?=some (.cells #[.string ⟨#[]⟩,.string ⟨#[]⟩] 42 (0,0))
 bel:Below w.heap.size w W
theorem Zwz.mk'(w:World):Zwz w ((w.alloc (.cells #[.string ⟨#[]⟩,.string ⟨#[]⟩] 42)).alloc (.cells #[.string ⟨#[]⟩,.string ⟨#[]⟩] 42)):=by
 have h1:=heap_alloc_new w (.cells #[.string ⟨#[]⟩,.string ⟨#[]⟩] 42);have h2:=heap_alloc_new (w.alloc (.cells #[.string ⟨#[]⟩,.string ⟨#[]⟩] 42)) (.cells #[.string ⟨#[]⟩,.string ⟨#[]⟩] 42);refine⟨?_,?_,((Below.refl _ _).alloc nr_ _).alloc (by simp) _⟩
 ·rw[((Below.refl (w.alloc (.cells #[.string ⟨#[]⟩,.string ⟨#[]⟩] 42)).heap.size _).alloc nr_ _).block _ (Array.getElem?_eq_some_iff.1 h1).1];exact h1
 ·have e:(w.alloc (.cells #[.string ⟨#[]⟩,.string ⟨#[]⟩] 42)).heap.size=w.heap.size+1:=by simp
  rw[e] at h2;exact h2
theorem Zwz.below{w W W':World}(h:Zwz w W)(hb:Below W.heap.size W W'):Zwz w W' :=
 ⟨by rw[hb.block _ (Array.getElem?_eq_some_iff.1 h.e0).1];exact h.e0,by rw[hb.block _ (Array.getElem?_eq_some_iff.1 h.e1).1];exact h.e1,h.bel.trans (hb.mono h.bel.size)⟩
theorem Zmr{w W:World}(h:Zwz w W)(x y z u:Value):∃ w9,(((W.setCell ⟨w.heap.size,0,none⟩ x).setCell ⟨w.heap.size,1,none⟩ y).setCell ⟨w.heap.size+1,0,none⟩ z).setCell ⟨w.heap.size+1,1,none⟩ u=w9 ∧
  w9.heap[w.heap.size]?=some (.cells #[x,y] 42 (0,0))∧w9.heap[w.heap.size+1]?=some (.cells #[z,u] 42 (0,0))∧Below w.heap.size w w9:=by
 have h1:=Vx (x':=x) (y':=y) h.e0;have e1:((W.setCell ⟨w.heap.size,0,none⟩ x).setCell ⟨w.heap.size,1,none⟩ y).heap[w.heap.size+1]?=some (.cells #[.string ⟨#[]⟩,.string ⟨#[]⟩] 42 (0,0)):=by
  rw[Below.heap_setCell _ _ _ _ (by show w.heap.size+1≠w.heap.size;omega),Below.heap_setCell _ _ _ _ (by show w.heap.size+1≠w.heap.size;omega)]
  exact h.e1
 refine⟨_,rfl,?_,Vx e1,(((h.bel.setCell (p:=⟨w.heap.size,0,none⟩) nr_ _).setCell (p:=⟨w.heap.size,1,none⟩) nr_ _).setCell (p:=⟨w.heap.size+1,0,none⟩) (Nat.le_succ _) _).setCell (p:=⟨w.heap.size+1,1,none⟩) (Nat.le_succ _) _⟩;rw[Below.heap_setCell _ _ _ _ (by show w.heap.size≠w.heap.size+1;omega),Below.heap_setCell _ _ _ _ (by show w.heap.size≠w.heap.size+1;omega)]
 exact h1
theorem Zp5(w:World)(a0 a1:Option Addr)(c0 c1 D b:Nat)(ps:List Int)(l:List Rat)(rp:Rd w a0 (Vc ps))(rl:Rd w a1 (Kx l))(hi:Zjq ps)(hl:l.length=ps.length)(hn:ps.length≤100)(hp:∀ p∈ps,∃ q:Nat,p=q∧(q=2∨q∈Yt))(hs:∀ q∈l,Sm D q)(hD:D≤30)
  (hp0:Vp ps=0) (hb:b≤1000) (L:Qb w) :
  Kc Tryz.prog 23 #[.slice a0 ps.length c0,.slice a1 ps.length c1,.int .i64 b] w (.tuple #[fr (loE b ps l),fr (hiE b ps l),.int .i64 0]):=by
 unfold Kc;have HE:=hd_ (Zwz.mk' w);have Hck:=hd_ (Zff _ a0 a1 c0 c1 ps l (rp.below HE.out.bel nr_) (rl.below HE.out.bel nr_) hi hl hn (fun q hq=>(hs q hq).le hD) hp0 (L.below HE.out.bel))
 have HOp:=hd_ (fun W (hW:Below w.heap.size w W)=>Zd6 W ps l b a0 a1 c0 c1 (rp.below hW nr_) (rl.below hW nr_) hl hn hp hb (L.below hW))
 have HEn:=hd_ (fun W (hW:Below w.heap.size w W) R (H:Zlh W R ps l b)=>Zbk W R ps l b b D H hl hn hp hs (by omega) nr_ hb (L.below hW))
 clear rp rl hs hp hp0 L hi hl;generalize loE b ps l=lo at *
 generalize hiE b ps l=hi at *
 unfold fr fv at HEn ⊢;generalize ps.length=n at *
 go_enter Tryz.func23,Tryz.ntmps23
 go_wp2_with fail
 generalize (w.alloc (.cells #[.string ⟨#[]⟩,.string ⟨#[]⟩] 42)).alloc (.cells #[.string ⟨#[]⟩,.string ⟨#[]⟩] 42)=W0 at *
 refine cm_ Hck.out ?_;rintro e w1 ⟨rfl,hbx⟩;have HE1:=hd_ (HE.out.below hbx);clear hbx Hck HE
 go_wp2_with fail
 refine cm_ (HOp.out _ HE1.out.bel) ?_;rintro e w2 ⟨R,rfl,hg,hR,hbx⟩;have HE2:=hd_ (HE1.out.below hbx);have HG:=hd_ hg;clear hbx hg hR HOp HE1
 go_wp2_with fail
 refine cm_ (HEn.out _ HE2.out.bel R HG.out) ?_;rintro e w3 ⟨rfl,hbx⟩;have HE3:=hd_ (HE2.out.below hbx);clear hbx HG HEn HE2;obtain⟨k0,k1,f0,f1⟩:=Ka HE3.out.e0;obtain⟨k2,k3,f2,f3⟩:=Ka HE3.out.e1
 go_wp2_with fail
 obtain⟨w9,hw9,h0,h1,hb9⟩:=Zmr HE3.out (.string (itx lo.num)) (.string (dec lo.den)) (.string (itx hi.num)) (.string (dec hi.den));rw[hw9];have HI:Hid (EnI w w9 lo hi):=⟨h0,h1,hb9⟩;clear hw9 h0 h1 hb9 k0 k1 k2 k3 f0 f1 f2 f3 HE3;have hcl:∀ p:EnW w lo hi,p.w.cell? ⟨w.heap.size,0,none⟩=some (.string (itx lo.num)):=fun p=>p.cells.1
 have hcl1:∀ p:EnW w lo hi,p.w.cell? ⟨w.heap.size,1,none⟩=some (.string (dec lo.den)):=fun p=>p.cells.2.1
 have hcl2:∀ p:EnW w lo hi,p.w.cell? ⟨w.heap.size+1,0,none⟩=some (.string (itx hi.num)):=fun p=>p.cells.2.2.1
 have hcl3:∀ p:EnW w lo hi,p.w.cell? ⟨w.heap.size+1,1,none⟩=some (.string (dec hi.den)):=fun p=>p.cells.2.2.2
 have hnon:Nonempty (EnW w lo hi):=⟨⟨_,HI.out⟩⟩;have HEd:=hd_ (HI.out.below (Qf w9 1));refine RP.wp_region_readers 3 [(1,0),(1,1),(0,2),(0,3),(2,4)] (fun w'=>∃ p:EnW w lo hi,w'=p.w) (by kernel_rfl) (by kernel_rfl) ?_ ?_
 ·exact⟨⟨_,HEd.out⟩,rfl⟩
 iterate 2 (refine RP.walkR_read ?_;simp only[Kh,dz_,Kg,tz_];go_big_quiet_step (fail);refine wpQuiet_nil ?_)
 clear hnon hcl hcl1 hcl2 hcl3;obtain⟨k0,k1,f0,f1⟩:=Ka HI.out.e0;have HE1:=hd_ (HEd.out.put0 lo);refine RP.walkR_move ?_;simp only[Kh,dz_,Kg,tz_]
 go_wp2_with fail
 refine⟨⟨⟨_,HE1.out⟩,rfl⟩,?_⟩;have HE2:Hid (EnI w ((w9.setCell ⟨w.heap.size,0,none⟩ (.string (itx lo.num))).setCell ⟨w.heap.size,1,none⟩ (.string (dec lo.den))).drew lo hi):=HE1.out;clear k0 k1 f0 f1 HE1 HEd HI;generalize ((w9.setCell ⟨w.heap.size,0,none⟩ (.string (itx lo.num))).setCell ⟨w.heap.size,1,none⟩ (.string (dec lo.den))).drew=wz at *
 obtain⟨k2,k3,f2,f3⟩:=Ka HE2.out.e1;have HE3:=hd_ (HE2.out.put1 hi);refine RP.walkR_move ?_;simp only[Kh,dz_,Kg,tz_]
 go_wp2_with fail
 iterate 1 (refine RP.walkR_any ?_;simp only[Kh,dz_,Kg,tz_];go_big_quiet_step (fail);refine wpQuiet_nil ?_)
 simp only[RP.walkR];generalize (wz.setCell ⟨w.heap.size+1,0,none⟩ (.string (itx hi.num))).setCell ⟨w.heap.size+1,1,none⟩ (.string (dec hi.den))=wy at *
 clear k2 k3 f2 f3 HE2;obtain⟨z0,z1,-,-⟩:=Ka HE3.out.e0;obtain⟨z2,z3,-,-⟩:=Ka HE3.out.e1
 go_wp2_with fail
 exact bodyPost_ret (v := .tuple #[.agg #[.string (itx lo.num),.string (dec lo.den)],.agg #[.string (itx hi.num),.string (dec hi.den)],.int .i64 0]) (by simp[results,Tryz.results23,go_sem,z0,z1,z2,z3]) rfl ⟨rfl,HE3.out.bel⟩
def scE (k:Nat) (x:Rat):Int:=Zpn (x*((1200*10^k:Nat):Rat))
theorem Zwg(N:Nat):((N:Nat):Rat).num=N∧((N:Nat):Rat).den=1:=⟨Rat.num_natCast N,Rat.den_natCast N⟩
theorem Zf2(w:World)(x:Rat)(D k:Nat)(hx:Sm D x)(hD:D≤900000)(hk:k≤9)(L:Qb w):
  Kc Tryz.prog 154 #[fr x,.int .i64 k] w (.string (itx (scE k x))):=by
 unfold Kc;obtain⟨N,hN⟩:∃ N,1200*10^k=N:=⟨_,rfl⟩;have hNb:N≤1200000000000:=by
  rw[← hN];exact Nat.le_trans (Nat.mul_le_mul_left 1200 (Nat.pow_le_pow_right (show 0<10 by decide) hk)) (by decide)
 have hNs:Sm 13 ((N:Nat):Rat):=by
  obtain⟨h1,h2⟩:=Zwg N;refine⟨by rw[h1,Int.natAbs_natCast];exact Nat.lt_of_le_of_lt hNb (by decide),by rw[h2];decide⟩
 have Hb0:=hd_ ((Below.refl w.heap.size w).alloc nr_ (.cells #[.string (itx x.num),.string (dec x.den)] 42));have F:=hd_ (Zag.new w x);have Hof:=hd_ (fun W (hW:Below w.heap.size w W)=>show Kc Tryz.prog 73 #[.int .i64 N] W (.string (dec N)) from by
  have:=Zah W N (by omega) (by omega) (L.below hW)
  rw[Kj] at this;exact this)
 have Hmu:=hd_ (fun W (hW:Below w.heap.size w W)=>Ztu W x ((N:Nat):Rat) D 13 hx hNs (by omega) (L.below hW))
 have Hne:=hd_ (fun W (hW:Below w.heap.size w W)=>Zum W (x*((N:Nat):Rat)) (D+13) (hx.mul hNs) (by omega) (L.below hW))
 have hv:scE k x=Zpn (x*((N:Nat):Rat)):=by unfold scE;rw[hN]
 rw[hv];have hfr:fr ((N:Nat):Rat) = .agg #[.string (dec N),.string ⟨#[49]⟩]:=by
  obtain⟨h1,h2⟩:=Zwg N;unfold fr fv;rw[h1,h2,Kj,Vf]
 rw[hfr] at Hmu;have HN:Hid (∀ j,j≤k→1200*10^j≤N):=fun j hj=>by rw[← hN];exact Nat.mul_le_mul_left _ (Nat.pow_le_pow_right (by decide) hj)
 have HNk:=hd_ hN;clear L hx hN hv hfr hNs;generalize Zpn (x*((N:Nat):Rat))=res at *
 generalize x*((N:Nat):Rat)=y at *
 unfold fr fv at Hmu Hne ⊢;go_enter Tryz.func154,Tryz.ntmps154
 go_wp2_with fail
 generalize hW0:w.alloc (.cells #[.string (itx x.num),.string (dec x.den)] 42)=W0 at *
 go_loopw [5,7] (fun b i wr=>∃ (j M:Nat),j≤k∧M≤1200000000000∧b = .int .i64 M∧i = .int .i64 j∧Hid (M=1200*10^j)∧Hid (wr=W0)) (fun _ i _=>k-(intOf i).toNat)
 case atStart=>exact⟨0,1200,Nat.zero_le _,by decide,rfl,rfl,rfl,rfl⟩
 case round =>
  obtain⟨j,M,hj,hM,rfl,rfl,HM,hwr⟩:=hrel;have hwr':=hwr.out;subst hwr';clear hwr
  by_cases hlt:j<k
  ·have hlt':(j:Int)<k:=by omega
   have hp10:1200*10^(j+1)=M*10:=by rw[HM.out,Nat.pow_succ,Nat.mul_assoc]
   have hM2:M*10≤1200000000000:=by rw[← hp10];exact Nat.le_trans (HN.out (j+1) hlt) hNb
   have hw:IntKind.i64.wrap ((M:Int)*10)=((M*10:Nat):Int):=by rw[show (M:Int)*10=((M*10:Nat):Int) by omega];exact iw_ _ (by omega)
   have hjw:IntKind.i64.wrap ((j:Int)+1)=((j+1:Nat):Int):=by rw[← Int.natCast_succ];exact iw_ _ (by omega)
   have HM2:Hid (M*10=1200*10^(j+1)):=hp10.symm;clear hp10
   go_wp2_with fail
   refine⟨⟨j+1,M*10,by omega,hM2,by go_num,by go_num,HM2,trivial⟩,by simp[intOf];omega⟩
  ·obtain rfl:j=k:=by omega
   have hlt':¬ (j:Int)<j:=by omega
   have hMN:M=N:=by rw[HM.out];exact HNk.out
   subst hMN;obtain⟨k0,k1,-,-⟩:=Ka F.out;have q0:=NW.cell k0;have q1:=NW.cell k1;have hnon:Nonempty (NW wr):=⟨⟨wr,Below.refl _ _⟩⟩;have I:Hid (Below wr.heap.size wr wr.drew):=(Below.refl _ _).drew;clear HM HN HNk k0 k1
   go_wp2_with fail
   refine RP.wp_region_readers 5 [(1,0),(2,1),(0,2),(0,3),(0,4),(0,5),(2,6)] (fun w'=>∃ p:NW wr,w'=p.w) (by kernel_rfl) (by kernel_rfl) ?_ ?_
   ·exact⟨⟨_,I.out⟩,rfl⟩
   iterate 1 (refine RP.walkR_read ?_;simp only[dz_,Kg,tz_];go_big_quiet_step (fail);refine wpQuiet_nil ?_)
   iterate 1 (refine RP.walkR_any ?_;simp only[Kh,dz_,Kg,tz_];go_big_quiet_step (fail);refine wpQuiet_nil ?_)
   clear hnon q0 q1;refine RP.walkR_move ?_;simp only[Kh,dz_,Kg,tz_]
   go_wp2_with fail
   refine cm_ (Hof.out _ (Hb0.out.trans (I.out.mono Hb0.out.size))) ?_;rintro e w1 ⟨rfl,hb⟩;have I1:Hid (Below wr.heap.size wr w1):=I.out.trans (hb.mono I.out.size);clear hb I Hof
   go_wp2_with fail
   refine⟨⟨⟨_,I1.out⟩,rfl⟩,?_⟩;refine RP.walkR_move ?_;simp only[Kh,dz_,Kg,tz_]
   go_wp2_with fail
   refine⟨⟨⟨_,I1.out⟩,rfl⟩,?_⟩;refine RP.walkR_move ?_;simp only[Kh,dz_,Kg,tz_]
   go_wp2_with fail
   refine cm_ (Hmu.out _ (Hb0.out.trans (I1.out.mono Hb0.out.size))) ?_;rintro e w2 ⟨rfl,hb⟩;have I2:Hid (Below wr.heap.size wr w2):=I1.out.trans (hb.mono I1.out.size);clear hb I1 Hmu
   go_wp2_with fail
   refine⟨⟨⟨_,I2.out⟩,rfl⟩,?_⟩;refine RP.walkR_move ?_;simp only[Kh,dz_,Kg,tz_]
   go_wp2_with fail
   refine cm_ (Hne.out _ (Hb0.out.trans (I2.out.mono Hb0.out.size))) ?_;rintro e w3 ⟨rfl,hb⟩;have I3:Hid (Below w.heap.size w w3):=Hb0.out.trans ((I2.out.trans (hb.mono I2.out.size)).mono Hb0.out.size);clear hb I2 Hne
   go_wp2_with fail
   iterate 1 (refine RP.walkR_any ?_;simp only[Kh,dz_,Kg,tz_];go_big_quiet_step (fail);refine wpQuiet_nil ?_)
   simp only[RP.walkR]
   go_wp2_with fail
   go_ret;exact⟨rfl,I3.out⟩
def Zdc (k:Nat) (a b:Rat):Bool:=(itx (scE k a)).toList==(itx (scE k b)).toList
theorem Zm8(w:World)(a b:Rat)(D k g:Nat)(ha:Sm D a)(hb:Sm D b)(hD:D≤900000)(hk:k≤9)(hg:w.cell? ⟨g,0,none⟩=some (.int .i64 k))(L:Qb w):
  Kc Tryz.prog 153 #[fr a,fr b,.pointer (some ⟨g,0,none⟩)] w (.bool (Zdc k a b)):=by
 have H3:=hd_ (Ztw.mk' w (itx a.num) (dec a.den) (itx b.num) (dec b.den));have Ha:=hd_ (fun W (hW:Below w.heap.size w W)=>Zf2 W a D k ha hD hk (L.below hW))
 have Hb:=hd_ (fun W (hW:Below w.heap.size w W)=>Zf2 W b D k hb hD hk (L.below hW))
 have Hv:Hid (Zdc k a b=((itx (scE k a)).toList==(itx (scE k b)).toList)):=rfl;have hgs:=block_lt_of_cell hg;have Hg:=hd_ hg;clear ha hb hD L hg;generalize Zdc k a b=v at *
 generalize itx (scE k a)=sa at *
 generalize itx (scE k b)=sb at *
 unfold Kc;unfold fr fv at Ha Hb ⊢;go_enter Tryz.func153,Tryz.ntmps153
 go_wp2_with fail
 generalize (w.alloc (.cells #[.string (itx a.num),.string (dec a.den)] 42)).alloc (.cells #[.string (itx b.num),.string (dec b.den)] 42)=W0 at *
 have hg0:W0.cell? ⟨g,0,none⟩=some (.int .i64 k):=(H3.out.bel.cell (p:=⟨g,0,none⟩) hgs).trans Hg.out;obtain⟨k0,k1,-,-⟩:=Ka H3.out.fa;obtain⟨k2,k3,-,-⟩:=Ka H3.out.fb;have q0:=NW.cell k0;have q1:=NW.cell k1;have q2:=NW.cell k2;have q3:=NW.cell k3;have q4:=NW.cell hg0;have hnon:Nonempty (NW W0):=⟨⟨W0,Below.refl _ _⟩⟩;have I:Hid (Below W0.heap.size W0 W0.drew):=(Below.refl _ _).drew;clear k0 k1 k2 k3 hg0;refine RP.wp_region_readers 5 [(1,0),(1,1),(1,3),(1,4),(0,2),(0,5),(2,6),(2,7)] (fun w'=>∃ p:NW W0,w'=p.w) (by kernel_rfl) (by kernel_rfl) ?_ ?_
 ·exact⟨⟨_,I.out⟩,rfl⟩
 iterate 4 (refine RP.walkR_read ?_;simp only[Kh,dz_,Kg,tz_];go_big_quiet_step (fail);refine wpQuiet_nil ?_)
 clear hnon q0 q1 q2 q3 q4;refine RP.walkR_move ?_;simp only[Kh,dz_,Kg,tz_]
 go_wp2_with fail
 refine cm_ (Ha.out _ (H3.out.bel.trans (I.out.mono H3.out.bel.size))) ?_;rintro e w1 ⟨rfl,hbx⟩;have I1:Hid (Below W0.heap.size W0 w1):=I.out.trans (hbx.mono I.out.size);clear hbx I Ha
 go_wp2_with fail
 refine⟨⟨⟨_,I1.out⟩,rfl⟩,?_⟩;refine RP.walkR_move ?_;simp only[Kh,dz_,Kg,tz_]
 go_wp2_with fail
 refine cm_ (Hb.out _ (H3.out.bel.trans (I1.out.mono H3.out.bel.size))) ?_;rintro e w2 ⟨rfl,hbx⟩;have I2:Hid (Below w.heap.size w w2):=H3.out.bel.trans ((I1.out.trans (hbx.mono I1.out.size)).mono H3.out.bel.size);clear hbx I1 Hb
 go_wp2_with fail
 iterate 2 (refine RP.walkR_any ?_;simp only[Kh,dz_,Kg,tz_];go_big_quiet_step (fail);refine wpQuiet_nil ?_)
 simp only[RP.walkR]
 go_wp2_with fail
 go_ret;exact⟨by rw[Hv.out];rfl,I2.out⟩
def Qbn (w w':World) (ps:List Int) (l:List Rat) (k:Nat) (e:Ending):Prop :=
 ∃ n:Nat,e = .returned (.tuple #[.int .i64 n,.string (itx (scE k (loE n ps l))),.int .i64 0])∧Zcc (fun b=>Zdc k (loE b ps l) (hiE b ps l)) n∧Below w.heap.size w w'
theorem Zp9(w:World)(a0 a1:Option Addr)(c0 c1 D k:Nat)(ps:List Int)(l:List Rat)(rp:Rd w a0 (Vc ps))(rl:Rd w a1 (Kx l))(hi:Zjq ps)(hl:l.length=ps.length)(hn:ps.length≤100)(hp:∀ p∈ps,∃ q:Nat,p=q∧(q=2∨q∈Yt))(hs:∀ q∈l,Sm D q)(hD:D≤30)
  (hp0:Vp ps=0) (hk:k≤9) (hend:Zdc k (loE 1000 ps l) (hiE 1000 ps l)=true) (L:Qb w) :
  Calls Tryz.prog 81 #[.slice a0 ps.length c0,.slice a1 ps.length c1,.int .i64 k] w fun e w'=>Qbn w w' ps l k e:=by
 have B0:=hd_ ((Below.refl w.heap.size w).alloc nr_ (.cells #[.int .i64 k] 3));have N0:Hid ((w.alloc (.cells #[.int .i64 k] 3)).cell? ⟨w.heap.size,0,none⟩=some (.int .i64 k)):=cell_of_row _ _ 0 _ 3 (0,0) (heap_alloc_new w _);have Hck:=hd_ (Zff _ a0 a1 c0 c1 ps l (rp.below B0.out nr_) (rl.below B0.out nr_) hi hl hn (fun q hq=>(hs q hq).le hD) hp0 (L.below B0.out))
 have hsm:∀ b,b≤1000→Sm 100000 (loE b ps l)∧Sm 100000 (hiE b ps l):=fun b hb=>by
  have h:=Zi9 (show b≤1056 by omega) hp hl hs ps.length nr_
  rw[List.take_length,List.take_of_length_le (by omega)] at h
  have hb2:1+ps.length*(D+356)≤100000:=by
   have:ps.length*(D+356)≤100*386:=Nat.mul_le_mul hn (by omega)
   omega
  exact⟨h.1.le hb2,h.2.le hb2⟩
 have Hle:=hd_ (fun W (hW:Below w.heap.size w W) (hc:W.cell? ⟨w.heap.size,0,none⟩=some (.int .i64 k))=>Zkk W ps l a0 a1 c0 c1 D (rp.below hW nr_) (rl.below hW nr_) hl hn hp hs (by omega) 153 #[.pointer (some ⟨w.heap.size,0,none⟩)] (Zi7 Tryz.func153 (by kernel_rfl) rfl) (fun b=>Zdc k (loE b ps l) (hiE b ps l)) (fun W' hW' b hb =>
  Zm8 W' (loE b ps l) (hiE b ps l) 100000 k w.heap.size (hsm b hb).1 (hsm b hb).2 (by decide) hk ((hW'.cell (block_lt_of_cell hc)).trans hc) (L.below (hW.trans (hW'.mono hW.size)))) hend (L.below hW))
 have HEn:=hd_ (fun W (hW:Below w.heap.size w W) R B b (H:Zlh W R ps l B) (hb:b≤B) (hB:B≤1000)=>Zbk W R ps l B b D H hl hn hp hs (by omega) hb hB (L.below hW))
 have HSc:=hd_ (fun W (hW:Below w.heap.size w W) b (hb:b≤1000)=>Zf2 W (loE b ps l) 100000 k (hsm b hb).1 (by decide) hk (L.below hW))
 clear rp rl hs hp hp0 L hi hend hsm;unfold fr fv at HEn HSc;obtain⟨n,hnn⟩:∃ n,ps.length=n:=⟨_,rfl⟩;rw[hnn] at hn Hck Hle ⊢;clear hnn hl;go_enter Tryz.func81,Tryz.ntmps81
 go_wp2_with fail
 generalize w.alloc (.cells #[.int .i64 k] 3)=W0 at *
 refine cm_ Hck.out ?_;rintro e w1 ⟨rfl,hb⟩;have B1:=hd_ (B0.out.trans (hb.mono B0.out.size));have cc1:=(hb.cell (block_lt_of_cell N0.out)).trans N0.out;have N1:=hd_ cc1;have hk0:¬ ((k:Int)<0):=by omega
 have hk9:¬ (9<(k:Int)):=by omega
 clear hb Hck N0 B0
 go_wp2_with fail
 refine cm_ (Hle.out _ B1.out N1.out) ?_;rintro e w2 ⟨R,B,m,rfl,hg,hm,hB,hN,hb⟩;have B2:=hd_ (B1.out.trans (hb.mono B1.out.size));have cc2:=(hb.cell (block_lt_of_cell N1.out)).trans N1.out;have N2:=hd_ cc2;have HG:=hd_ hg;have HN:=hd_ hN;clear hb Hle B1 hg hN cc1 N1 cc2
 go_wp2_with fail
 refine cm_ (HEn.out _ B2.out R B m HG.out hm hB) ?_;rintro e w3 ⟨rfl,hb⟩;have B3:=hd_ (B2.out.trans (hb.mono B2.out.size));have cc3:=(hb.cell (block_lt_of_cell N2.out)).trans N2.out;have N3:=hd_ cc3;have cz:=Lib.cell?_alloc_some (.cells #[.string (itx (hiE m ps l).num),.string (dec (hiE m ps l).den)] 42) (Lib.cell?_alloc_some (.cells #[.string (itx (loE m ps l).num),.string (dec (loE m ps l).den)] 42) cc3);have B4:=hd_ ((B3.out.alloc B3.out.size (.cells #[.string (itx (loE m ps l).num),.string (dec (loE m ps l).den)] 42)).alloc (Nat.le_trans B3.out.size (by simp)) (.cells #[.string (itx (hiE m ps l).num),.string (dec (hiE m ps l).den)] 42))
 clear hb HEn B2 HG N2 cc3
 go_wp2_with fail
 refine cm_ (HSc.out _ B4.out m (by omega)) ?_
 rintro e w4 ⟨rfl,hb⟩;have B5:=hd_ (B4.out.trans (hb.mono B4.out.size));clear hb HSc B4 B3 N3 cz
 go_wp2_with fail
 go_ret3
 exact⟨m,rfl,HN.out,B5.out⟩
theorem Ztb(w:World)(a1 a2:Option Addr)(c1 c2 n1 n2 k N:Nat)(hN:0<N)(hk:0<k)(hk9:k≤9)(hs:k<(dec N).size)(hs2:(dec N).size≤1000000)(hc:Calls Tryz.prog 81 #[.slice a1 n1 c1,.slice a2 n2 c2,.int .i64 k] w fun e w'=>(∃ m:Int,e = .returned (.tuple #[.int .i64 m,.string (dec N),.int .i64 0]))∧Below w.heap.size w w'):
  Kc Tryz.prog 24 #[.slice a1 n1 c1,.slice a2 n2 c2,.int .i64 k] w (.tuple #[.string ((dec N).extract 0 ((dec N).size-k)++⟨#[46]⟩++(dec N).extract ((dec N).size-k) (dec N).size),.int .i64 0]):=by
 unfold Kc;have HC:=hd_ hc;have HA:=hd_ (fun W=>show Kc Tryz.prog 82 #[.string (dec N)] W (.string (dec N)) from by
  have:=Zep W (N:Int)
  rw[Kj,Int.natAbs_natCast] at this;exact this)
 have HS:=hd_ (fun W=>show Kc Tryz.prog 84 #[.string (dec N)] W (.int .i64 1) from by
  have:=Zo W (N:Int)
  rw[Kj,Zfa hN] at this;exact this)
 clear hc hN;generalize dec N=s at *
 obtain⟨z,hz⟩:∃ z,s.size=z:=⟨_,rfl⟩;have Hz:=hd_ hz;rw[hz] at hs hs2;clear hz;go_enter Tryz.func24,Tryz.ntmps24
 go_wp2_with fail
 refine cm_ HC.out ?_;rintro e w1 ⟨⟨m,rfl⟩,hb⟩;have B1:=hd_ hb;clear hb HC
 go_wp2_with fail
 refine cm_ (HA.out _) ?_;rintro e w2 ⟨rfl,hb⟩;have B2:=hd_ (B1.out.trans (hb.mono B1.out.size));clear hb HA B1;have hz:=Hz.out;have hsz:¬ ((s.size:Int)≤k):=by rw[hz];omega
 have hk0:(0:Int)<k:=by omega
 have hw:IntKind.i64.wrap ((s.size:Int)-k)=((s.size-k:Nat):Int):=by rw[hz,show (z:Int)-k=((z-k:Nat):Int) by omega];exact iw_ _ (by omega)
 clear hz;have hex1:((s.size-k:Nat):Int)≤s.size:=by omega
 have hcat1:¬ (9223372036854775807<s.size-k+1):=by rw[Hz.out];omega
 have hcat2:¬ (9223372036854775807<s.size-k+1+(s.size-(s.size-k))):=by rw[Hz.out];omega
 go_wp2_with fail
 refine RP.wp_region_readers 14 [(2,0),(2,1),(2,2),(2,3),(2,4),(2,5),(2,6),(2,7),(2,8),(2,9),(2,10),(2,11),(2,12),(2,13),(0,14)] (fun _=>True) (by kernel_rfl) (by kernel_rfl) ?_ ?_
 ·trivial
 iterate 14 (refine RP.walkR_any ?_;simp only[Kh,dz_,Kg,tz_];go_big_quiet_step (fail);refine wpQuiet_nil ?_)
 refine RP.walkR_move ?_;simp only[Kh,dz_,Kg,tz_]
 go_wp2_with fail
 simp only[RP.walkR]
 go_wp2_with fail
 refine cm_ (HS.out _) ?_;rintro e w3 ⟨rfl,hb⟩;have B3:=hd_ ((Qg B2.out 1).trans (hb.mono (Qg B2.out 1).size));clear hb HS B2
 go_wp2_with fail
 go_ret2
 exact⟨rfl,B3.out⟩
end Go.Proofs.YtnjedhgcfeoemaaGreatDoor
