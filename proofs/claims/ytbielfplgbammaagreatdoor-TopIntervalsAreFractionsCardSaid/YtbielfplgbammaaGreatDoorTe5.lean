/- Lemmas for the laws of this seat, part 5. -/
import Derived.Laws.AppendOwnNone
import Derived.BigQuiet
import Derived.Deep.OwnRows
import Derived.Test.YtbielfplgbammaaGreatDoorTe4
set_option maxRecDepth 100000
set_option maxHeartbeats 16000000
namespace Go.Proofs.YtbielfplgbammaaGreatDoor
open Go.RowKit
def Zbs (l:List Bool):List Value:=l.map Value.bool
theorem Zag(l:List Bool):(Zbs l).length=l.length:=by simp[Zbs]
theorem Znj(l m:List Bool):Zbs (l++m)=Zbs l++Zbs m:=by simp[Zbs]
theorem Zh3(l:List Bool)(j:Nat)(h:j<l.length):(Zbs l)[j]?=some (.bool (l.getD j false)):=by
 simp[Zbs,List.getD_eq_getElem?_getD,h]
theorem Qbn:(Tryz.prog.info? 4).map (fun i=>(i.zero,i.size,i.bytes))=some (some (.bool false),1,1):=by kernel_rfl
theorem Qho:Zal Tryz.prog 315 4 (.bool false) 1 1:=⟨Tryz.underlying315,info_parts Qbn,rfl,by decide⟩
def Zip (w:World) (B:Nat) (a:OA_) (c:Nat) (l:List Bool):Prop:=w.ownsRow B 4 1 (.slice a l.length c) l.length (Zbs l)
structure BoI (w:World) (B:Nat) (a:OA_) (c:Nat) (l:List Bool):Prop where
 own:Zip w B a c l
 fst:∀ k,(Value.slice a l.length c).ownBlock=some k->∃ b,w.cell? ⟨k,0,none⟩=some (.bool b)
theorem BoI.nil(w:World)(B:Nat):BoI w B none 0 []:=⟨World.ownsRow_nil ..,fun k h=>by simp[Value.ownBlock] at h⟩
theorem BoI.of{w:World}{B:Nat}{a:OA_}{c:Nat}{l:List Bool}(h:Zip w B a c l)(h0:0<l.length):BoI w B a c l:=by
 refine⟨h,fun k hk=>?_⟩;obtain⟨g,cap,hv,h1,h2,h3,h4,h5⟩:=Qy h h0;simp only[Value.slice.injEq] at hv;obtain⟨rfl,-,rfl⟩:=hv;have e:g=k:=by simpa [Value.ownBlock] using hk
 subst e;have:=h4 0 (by omega)
 rw[Zh3 l 0 h0] at this;exact⟨_,this⟩
theorem BoI.grown{w w':World}{B R:Nat}{a:OA_}{c:Nat}{l:List Bool}(h:BoI w B a c l)(hg:w.grownBy w' (some R))(hR:∀ b,w.cell? ⟨R,0,none⟩≠some (.bool b)):BoI w' B a c l:=by
 have gj:∀ k,(Value.slice a l.length c).ownBlock=some k->k≠R:=fun k hk e=>by
  obtain⟨b,hb⟩:=h.fst k hk;rw[e] at hb;exact hR b hb
 refine⟨World.ownsRow.kept h.own hg ?_,fun k hk=>?_⟩
 ·cases hv:(Value.slice a l.length c).ownBlock with
  | none=>simp
  | some k=>exact .inr fun e=>by cases e;exact gj _ hv rfl
 ·obtain⟨b,hb⟩:=h.fst k hk;refine⟨b,?_⟩;have hs:=block_lt_of_cell hb;have En:=hg.block k hs (fun e=>gj k hk (by cases e;rfl));unfold World.cell? at hb ⊢;simp only at hb En ⊢;rw[En];exact hb
theorem Zxs.notBool{w:World}{B R P lo hi:Nat}(h:Zxs w B R P lo hi):∀ b,w.cell? ⟨R,0,none⟩≠some (.bool b):=fun b hb=>by
 obtain⟨a1,c1,L,a2,c2,H,S,-⟩:=h;rw[(Kf S.ob).1] at hb;cases hb
theorem Zxs.kept{w w':World}{B R P lo hi:Nat}(h:Zxs w B R P lo hi){row:Option Nat}(hg:w.grownBy w' row)(Gg:∀ k,row=some k->∃ b,w.cell? ⟨k,0,none⟩=some (.bool b)):Zxs w' B R P lo hi:=by
 obtain⟨a1,c1,L,a2,c2,H,S,hB,l1,l2,v1,v2⟩:=h;have gS:∀ (a:OA_) (c:Nat) (l:List Nat),l.length=P/64+2->Qv w B a c l->Qv w' B a c l:=fun a c l hl ho=>by
  refine World.ownsRow.kept ho hg ?_;obtain⟨g,rfl,h1,h2,h3,h4,h5⟩:=ho.open (by omega);right;intro e;obtain⟨b,hb⟩:=Gg g (show row=some g from e.symm);rw[h4 0 (by omega)] at hb;cases hb
 refine⟨a1,c1,L,a2,c2,H,⟨?_,gS _ _ _ l1 S.o1,gS _ _ _ l2 S.o2,S.p1,S.p2⟩,hB,l1,l2,v1,v2⟩;rw[hg.block R (Array.getElem?_eq_some_iff.1 S.ob).1 (fun e=>?_)]
 ·exact S.ob
 ·obtain⟨b,hb⟩:=Gg R e.symm;rw[(Kf S.ob).1] at hb;cases hb
def Qf6 (w w':World) (p P n:Nat) (e:Ending):Prop :=
 Bw_ w w'/\match Ya p P n with
  | some _=>∃ a c,e = .returned (.tuple #[.slice a n c,.bool true])/\Zip w' w.heap.size a c (Zdy p P n)
  | none=>e = .returned (.tuple #[.slice none 0 0,.bool false])
structure DgI (w wr:World) (R p P n j lo hi o:Nat) (a:OA_) (c:Nat):Prop where
 dg:Ya p P j=some (lo,hi,o)
 ma:Zxs wr w.heap.size R P lo hi
 bo:BoI wr w.heap.size a c (Zdy p P j)
 bel:Bw_ w wr
theorem Zo5(w:World)(p n P:Nat)(hp:2<=p)(Gk:p<=97)(hl:p.log2<=6)(hn:n<=1000)(hP:n+64<=P)(hP2:P<=1300):
  Calls Tryz.prog 248 #[.int .i64 p,.int .i64 p.log2,.int .i64 n,.int .i64 P] w fun e w'=>Qf6 w w' p P n e:=by
 have HB:=hd_ (Zxj w p p.log2 P (by omega) (by omega) (by omega));have H0:Hid (Ya p P 0=some (p*2^(P-p.log2),p*2^(P-p.log2),p.log2)):=rfl;have Ir:Hid (∀ W R j lo hi o,w.heap.size<=W.heap.size->j<n->Ya p P j=some (lo,hi,o)->Zxs W w.heap.size R P lo hi->Calls Tryz.prog 293 #[.pointer (some ⟨R,0,none⟩)] W fun e w'=>Qbw W w' w.heap.size R P (Zf3 (2^P) lo hi) e):=fun W R j lo hi o hW hj hd hM=>by
  refine Qdt W w.heap.size R P lo hi hM (by omega) hW (Zo9 j _ hd) fun x hx=>?_
  have h1:=(Zg3 (b:=x.1) (l':=x.2.1) (g':=x.2.2) hd hx).1;have h2:=Zrd (P:=P) (by omega) (by omega) (j+1) (by omega) (by omega) _ h1;have h3:=Zo9 (j+1) _ h1;have h4:=Zwk (P:=P) (n:=j+1) (by omega) (by omega) h2;exact⟨Nat.lt_of_le_of_lt h3 h4,h4⟩
 generalize hk:p.log2=k at *;have Hk:=hd_ hk;clear hk;go_enter Tryz.func248,Tryz.ntmps248;go_wp2_with fail;refine cm_ HB.o ?_;rintro e w1 ⟨R,rfl,hM,hb⟩;have Ja:Hid (DgI w w1 R p P n 0 _ _ _ none 0):=⟨H0.o,hM,BoI.nil _ _,hb⟩;clear hM hb HB H0;go_wp2_with fail
 go_loopw [11,19] (fun v i wr=>∃ (j lo hi o:Nat) (a:OA_) (c:Nat),j<=n/\i = .int .i64 j/\v = .slice a j c/\Hid (DgI w wr R p P n j lo hi o a c)) (fun _ i _=>n-(intOf i).toNat)
 case atStart=>exact⟨0,_,_,_,none,0,Nat.zero_le _,rfl,rfl,Ja⟩
 case round =>
  obtain⟨j,lo,hi,o,a,c,hj,rfl,rfl,HD⟩:=hrel;clear Ja
  by_cases H7:j<n
  ·have gi:(j:Int)<n:=by omega
   have ou:IntKind.i64.wrap ((j:Int)+1)=((j+1:Nat):Int):=by rw[<- Int.natCast_succ];exact iw_ _ (by omega)
   go_wp2_with fail;refine cm_ (Ir.o _ R j lo hi o HD.o.bel.size H7 HD.o.dg HD.o.ma) ?_;rintro e w2 ⟨hg,hm⟩;have jL:w.heap.size<=R:=by obtain⟨_,_,_,_,_,_,-,h,-⟩:=HD.o.ma;exact h
   have B2:=hd_ (HD.o.bel.grown hg HD.o.bel.size (fun k hk=>by cases hk;exact jL));have Jd:=hd_ (HD.o.bo.grown hg HD.o.ma.notBool);have fy:=hd_ B2.o.size;cases GH:Zf3 (2^P) lo hi with
   | none =>
    rw[GH] at hm;obtain rfl:=hm;have DQ:Hid (Ya p P n=none):=Zwy (Zl3 HD.o.dg GH) H7;clear hg GH HD Ir Jd;go_wp2_with fail
    go_ret2
    refine⟨B2.o,?_⟩;rw[DQ.o];rfl
   | some x =>
    rw[GH] at hm;obtain⟨rfl,hM⟩:=hm;obtain⟨x1,x2,x3⟩:=x;obtain⟨fT,HU⟩:=Zg3 HD.o.dg GH;have eW:=hd_ fT;have H9:=hd_ HU;have HM:=hd_ hM;clear hg GH HD hM fT HU;have gw:Hid (w2.ownsRow w.heap.size 4 1 (.slice a j c) j (Zbs (Zdy p P j))):=by
     have:=Jd.o.own
     unfold Zip at this;rw[Yd] at this;exact this
    have Il:Hid (∀ k,(Value.slice a j c).ownBlock=some k->∃ b,w2.cell? ⟨k,0,none⟩=some (.bool b)):=by
     have:=Jd.o.fst
     rw[Yd] at this;exact this
    clear Jd
    go_wp2_with (at_builtin;refine Kw rfl (.tmp 28) (.tmp 30) 315 rfl Qho _ 1 [.bool x1] rfl rfl gw.o fy.o rfl (by simp[Value.oneCell']) (by omega) (by omega) ?_)
    intro v' w3 gk gL GD;obtain⟨a3,d3,rfl⟩:=Qj gk;have pi:Hid (Zip w3 w.heap.size a3 d3 (Zdy p P (j+1))):=by
     show Zip _ _ _ _ _
     unfold Zip;rw[Yd,Ztr,Znj,H9.o];exact gk
    have M3:=hd_ ((show Zxs (w2.alloc (.cells #[.bool x1] 4)) w.heap.size R P x2 x3 from by
     obtain⟨a1,c1,L,a2,c2,H,S,h1,h2,h3,h4,h5⟩:=HM.o;exact⟨a1,c1,L,a2,c2,H,S.below ((Below.refl _ _).alloc nr_ _),h1,h2,h3,h4,h5⟩).kept gL (fun k hk=>by
      obtain⟨b,hb⟩:=Il.o k hk;exact⟨b,Lib.cell?_alloc_some _ hb⟩))
    have B3:=hd_ ((B2.o.alloc fy.o (.cells #[.bool x1] 4)).grown gL (by simp;have:=fy.o;omega) (fun k hk=>(World.ownsRow.lt gw.o k hk).1));clear gk gL GD HM gw Il B2;go_wp2_with fail
    go_roundw
    case rel=>exact⟨j+1,x2,x3,_,a3,d3,by omega,by go_num,rfl,⟨eW.o,M3.o,BoI.of pi.o (by rw[Yd];omega),B3.o⟩⟩
    case measure=>simp[intOf];omega
  ·have Bl:j=n:=by omega
   subst Bl;have gi:¬ (j:Int)<j:=by omega
   have gw:Hid (Zip wr w.heap.size a c (Zdy p P j)):=HD.o.bo.own;go_wp2_with fail
   go_ret2
   refine⟨HD.o.bel,?_⟩;rw[HD.o.dg];exact⟨a,c,rfl,gw.o⟩
theorem Zvb{w:World}{b o d:Nat}{V:List Value}(h:Rd w (some ⟨b,o,none⟩) V)(m:Nat)(hd:V.length<=d):Rd w (if d=m then some ⟨b,o,none⟩ else some ⟨b,o+m,none⟩) (V.drop m):=by
 split
 ·left;rw[List.drop_of_length_le (by omega)]
 ·rcases h with rfl | ⟨b',off,h1,h2,h3⟩
  ·left;simp
  ·simp only[Option.some.injEq,Addr.mk.injEq,and_true] at h1;obtain⟨rfl,rfl⟩:=h1;refine .inr ⟨b,o+m,rfl,h2,fun i v hi=>?_⟩;rw[List.getElem?_drop] at hi;rw[Nat.add_assoc];exact h3 (m+i) v hi
structure Qf9 (n:Nat) (bl:List Bool) (F:Nat->Nat):Prop where
 len:bl.length=n
 nxt:∀ j,j<n->F (j+1)=2*F j+(bl.getD j false).toNat
 sm:∀ j,j<=n->F j<2^(j+3)
theorem Qac{p P n:Nat}(hp:2<=p)(Gk:p<=97)(hP:64<=P){s:Nat×Nat×Nat}(h:Ya p P n=some s):∃ F,Qf9 n (Zdy p P n) F/\F 0=p.log2/\F n=s.2.2:=by
 refine⟨fun j=>match Ya p P j with | some s=>s.2.2 | none=>0,⟨Yd p P n,fun j hj=>?_,fun j hj=>?_⟩,rfl,?_⟩
 ·have h1:(Ya p P (j+1)).isSome:=Zas hj (by rw[h];rfl);have h0:(Ya p P j).isSome:=Zas (Nat.le_of_lt hj) (by rw[h];rfl);obtain⟨t,ht⟩:=Option.isSome_iff_exists.1 h1;obtain⟨u,hu⟩:=Option.isSome_iff_exists.1 h0;simp only[ht,hu];rw[Zxi p P n j hj];exact Qaa hu ht
 ·have h0:(Ya p P j).isSome:=Zas hj (by rw[h];rfl);obtain⟨u,hu⟩:=Option.isSome_iff_exists.1 h0;simp only[hu];exact(Qbq p P hp Gk hP j _ hu).o
 ·simp only[h]
theorem Qab(n:Nat):Qf9 n (List.replicate n false) (fun j=>2^j):=by
 refine⟨by simp,fun j hj=>?_,fun j hj=>Nat.pow_lt_pow_right (by decide) (by omega)⟩;have:(List.replicate n false).getD j false=false:=by rw[List.getD_eq_getElem?_getD,List.getElem?_replicate];split<;>rfl
 rw[this,Nat.pow_succ]
 show _=_+0
 omega
/-! The walk. -/
def K10:Nat:=1010
theorem k10:K10=1010:=rfl
theorem Qe2(n:Nat)(w:World)(hn:n<=100000000):
  (Instr.makeSlice 315 (.int .i64 (n:Int)) (.int .i64 (n:Int))).run Tryz.prog w = .ok (.slice (some ⟨w.heap.size,0,none⟩) n n) (w.alloc (.cells (Zbs (List.replicate n false)).toArray 4)):=by
 have:=run_make_row' (P:=Tryz.prog) 315 4 (.bool false) 1 Tryz.underlying315 Qbn rfl .i64 .i64 n (by omega) (by omega) w
 rw[show madeCells #[.bool false] n=(Zbs (List.replicate n false)).toArray by apply Array.ext';rw[toList_madeCells_one];simp[Zbs]] at this;exact this
theorem Zva(w:World)(l:List Bool):Rd (w.alloc (.cells (Zbs l).toArray 4)) (some ⟨w.heap.size,0,none⟩) (Zbs l) :=
 .inr ⟨w.heap.size,0,rfl,by simp,fun i v hi=>by
  rw[Nat.zero_add,cell_of_row _ w.heap.size i _ 4 (0,0) (heap_alloc_new w _)]
  simpa using hi⟩
theorem Zyv{w:World}{B:Nat}{a:OA_}{c:Nat}{l:List Bool}(h:Zip w B a c l):Rd w a (Zbs l):=by
 by_cases hn:0<l.length
 ·obtain⟨g,cap,hv,h1,h2,h3,h4,h5⟩:=Qy h hn;simp only[Value.slice.injEq] at hv;obtain⟨rfl,-,-⟩:=hv;refine .inr ⟨g,0,rfl,h2,fun i v hi=>?_⟩;have H7:=(List.getElem?_eq_some_iff.1 hi).1;rw[Zag] at H7;rw[Nat.zero_add,h4 i (by omega)];exact hi
 ·obtain rfl:=List.length_eq_zero_iff.1 (Nat.eq_zero_of_not_pos hn);exact .inl rfl
structure LoI (w wr:World) (n:Nat) (bl:List Bool) (j:Nat) (a:OA_) (c:Nat):Prop where
 rd:Rd wr a (Zbs (bl.drop j))
 cap:n-j<=c
 bel:Bw_ w wr
theorem Zra(w:World)(p n:Nat)(hp:p=2\/p∈Zbv)(hn:n<=1000)(L:Qe w):
  Kc Tryz.prog 186 #[.int .i64 p,.int .i64 n] w (.string (dec (lgN p n))):=by
 unfold Kc;have dO:2<=p:=by
  rcases hp with h|h
  ·omega
  ·have:=Zbe h;have:=Zgb h;omega
 have Gk:p<=97:=by
  rcases hp with h|h
  ·omega
  ·have:=Zbe h;omega
 have hl:=Zv2 p dO Gk;have EU:=hd_ (Tryz.bits_Len p w (by omega) (by omega));rw[show ((p:Nat):Int).toNat=p from rfl,Zff p (by omega) Gk] at EU;have fh:IntKind.i64.wrap (((p.log2+1:Nat):Int)-1)=(p.log2:Int):=by rw[show ((p.log2+1:Nat):Int)-1=(p.log2:Int) by omega];exact iw_ _ (by omega)
 have fX:IntKind.u64.wrap (p:Int)=p:=IntWalk.u64_in _ (by omega);have HL:=hd_ L;clear L;have Gb:Hid (∀ (z:Nat) W,z<=1000000000->Bw_ w W->Kc Tryz.prog 13 #[.int .i64 z] W (.string (dec z))):=fun z W hz hW=>by
  have:=Zaz W z (by omega) (by omega) (HL.o.below hW)
  rw[Kh] at this;exact this
 have DT:Hid (∀ (x g:Nat) W,x<2^K10->g<=28->Bw_ w W->Kc Tryz.prog 14 #[.string (dec x),.string (dec (2^g))] W (.string (dec (x*2^g)))):=fun x g W hx hg hW =>
  Qg4 W x (2^g) K10 (by decide) hx (Nat.pow_lt_pow_right (by decide) (by rw[k10];omega)) (HL.o.below hW)
 have Ix:Hid (∀ (x a g:Nat) W,x<2^K10->g<=28->a<2^g->Bw_ w W->Kc Tryz.prog 205 #[.string (dec (x*2^g)),.string (dec a)] W (.string (dec (x*2^g+a)))):=fun x a g W hx hg ha hW=>by
  refine Qgz W (x*2^g) a (K10+90) (by decide) ?_ ?_ (HL.o.below hW)
  ·refine Nat.lt_of_lt_of_le (Nat.mul_lt_mul_of_pos_right hx (Nat.two_pow_pos g)) ?_;rw[<- Nat.pow_add];exact Nat.pow_le_pow_right (by decide) (by omega)
  ·exact Nat.lt_of_lt_of_le ha (Nat.pow_le_pow_right (by decide) (by rw[k10];omega))
 have Lu:Hid (p≠2->∀ (P:Nat) W,n+64<=P->P<=1300->Calls Tryz.prog 248 #[.int .i64 p,.int .i64 p.log2,.int .i64 n,.int .i64 P] W fun e w'=>Qf6 W w' p P n e):=fun _ P W h1 h2=>Zo5 W p n P dO Gk hl hn h1 h2
 have Ak:Hid (∀ P,p≠2->1120<=P->Ya p P n≠none):=fun P h1 h2 h3=>by
  have:=Zo8 (hp.resolve_left h1) (show n<=1056 by omega) h2
  rw[h3] at this;cases this
 have bL:Hid (∀ (P:Nat) s,p≠2->64<=P->Ya p P n=some s->s.2.2=lgN p n):=fun P s h1 h2 h3=>Zk6 (hp.resolve_left h1) (by omega) (by omega) h3
 have CR:Hid (p=2->lgN p n=2^n):=fun h=>by rw[h];exact Zcx n
 have OI:=hd_ dO;have OH:=hd_ Gk;have Hn:=hd_ hn;have pH:p<=97:=Gk;have jv:n<=1000:=hn;obtain⟨v,hv⟩:∃ v,lgN p n=v:=⟨_,rfl⟩;rw[hv] at bL CR ⊢;clear hv hp dO Gk hn;generalize hk:p.log2=k at *;have Hk:=hd_ hk;clear hk;go_enter Tryz.func186,Tryz.ntmps186;go_wp2_with fail;refine cm_ EU.o ?_;rintro e w1 ⟨rfl,hw1e⟩;clear EU;go_wp2_with fail;clear hw1e;refine cm_ (Gb.o k w (by omega) (Below.refl _ _)) ?_;rintro e w2 ⟨rfl,hb⟩;have B2:=hd_ hb;clear hb
 by_cases h2:p=2
 ·have Hv:Hid (v=2^n):=CR.o h2;have Ig:Hid (k=1):=by
   show _=_
   rw[<- Hk.o,h2];decide +kernel
  subst h2;have fl:=Qe2 n w2 (by omega);have jW:=hd_ (Zva w2 (List.replicate n false));have B3:=hd_ (B2.o.alloc B2.o.size (.cells (Zbs (List.replicate n false)).toArray 4));generalize w2.alloc (.cells (Zbs (List.replicate n false)).toArray 4)=w3 at *;clear B2 Lu Ak bL CR;go_wp2_with fail
  go_loopw [7,8] (fun l q wr=>l = .slice (some ⟨w2.heap.size,0,none⟩) n n/\q = .int .i64 ((n:Int)+64)/\Hid (wr=w3)) (fun _ _ _=>0)
  case atStart=>exact⟨rfl,rfl,rfl⟩
  case round =>
   obtain⟨rfl,rfl,fW⟩:=hrel;obtain rfl:=fW.o;clear fW;obtain⟨F,hF⟩:∃ F:Nat->Nat,F=fun j=>2^j:=⟨_,rfl⟩
   obtain⟨bl,En⟩:∃ bl,bl=List.replicate n false:=⟨_,rfl⟩;have HF:Hid (Qf9 n bl F):=by show Qf9 n bl F;rw[En,hF];exact Qab n
   have mf:Hid (F 0=k):=by show _=_;rw[hF,Ig.o]
   have me:Hid (F n=v):=by show _=_;rw[hF,Hv.o]
   have HR:Hid (LoI w wr n bl 0 (some ⟨w2.heap.size,0,none⟩) n):=⟨by rw[List.drop_zero,En];exact jW.o,by omega,B3.o⟩;clear hF En Hv Ig jW B3;go_wp2_with fail
   go_loopw [6,7] (fun s l wr=>∃ (j:Nat) (a:OA_) (c:Nat),j<=n/\s = .string (dec (F j))/\l = .slice a (n-j) c/\Hid (LoI w wr n bl j a c)) (fun _ l _=>match l with | .slice _ m _=>m | _=>0)
   case atStart=>exact⟨0,_,_,Nat.zero_le _,by rw[mf.o],by rw[Nat.sub_zero],HR⟩
   case round =>
    clear HR;obtain⟨j,a,c,hj,rfl,rfl,HI⟩:=hrel;obtain⟨m,hm⟩:∃ m,n-j=m:=⟨_,rfl⟩;have JF:m<=1000:=by omega
    rw[hm]
    by_cases H7:0<m
    ·have gi:(0:Int)<m:=by omega
     obtain⟨g,hg⟩:∃ g,min m 28=g:=⟨_,rfl⟩;have Em:g<=28:=by omega
     have jB:g<=m:=by omega
     have fp:0<g:=by omega
     have JE:min (m:Int) 28=(g:Nat):=by omega
     have J6:g<=c:=by have:=HI.o.cap;omega
     have Ih:=hd_ (show j+g<=n by omega);obtain⟨b,off,rfl,hZ,GM⟩:=HI.o.rd.open (by rw[Zag,List.length_drop,HF.o.len];omega);have gm:Hid (∀ t,t<g->wr.cell? ⟨b,off+t,none⟩=some (.bool (bl.getD (j+t) false))):=fun t ht=>by
      refine GM t _ ?_;rw[Zh3 _ _ (by rw[List.length_drop,HF.o.len];omega)];rw[List.getD_eq_getElem?_getD,List.getD_eq_getElem?_getD,List.getElem?_drop]
     clear GM;obtain⟨wo,hwo⟩:∃ wo:World,wo=wr:=⟨_,rfl⟩;subst hwo;go_wp2_with fail
     go_loopw [11,49] (fun ad i wr=>∃ t x:Nat,t<=g/\i = .int .i64 t/\ad = .int .i64 x/\x<268435456/\Hid (x<2^t/\F (j+t)=F j*2^t+x)/\Hid (Bw_ wo wr)) (fun _ i _=>g-(intOf i).toNat)
     case atStart=>exact⟨0,0,Nat.zero_le _,rfl,rfl,by decide,⟨by decide,by simp⟩,Below.refl _ _⟩
     case round =>
      obtain⟨t,x,ht,rfl,rfl,hx,HX,HB⟩:=hrel
      by_cases Gc:t<g
      ·have ew:(t:Int)<g:=by omega
       have cb:=gm.o t Gc;rw[<- HB.o.cell (p:=⟨b,off+t,none⟩) hZ] at cb;have GC:=HF.o.nxt (j+t) (by have:=Ih.o;omega);have AG:=HX.o.1;have Ba:2^(t+1)<=268435456:=Nat.le_trans (Nat.pow_le_pow_right (by decide) (show t+1<=28 by omega)) (by decide);have Eb:2^(t+1)=2*2^t:=by rw[Nat.pow_succ,Nat.mul_comm]
       have Jp:IntKind.i64.wrap ((x:Int)*2)=((2*x:Nat):Int):=by rw[show (x:Int)*2=((2*x:Nat):Int) by omega];exact iw_ _ (by omega)
       have bV:IntKind.i64.wrap (((2*x:Nat):Int)+1)=((2*x+1:Nat):Int):=by rw[<- Int.natCast_succ];exact iw_ _ (by omega)
       have AI:IntKind.i64.wrap ((t:Int)+1)=((t+1:Nat):Int):=by rw[<- Int.natCast_succ];exact iw_ _ (by omega)
       have e1:F j*2^(t+1)=2*(F j*2^t):=by rw[Eb];exact Nat.mul_left_comm ..
       have CE:=HX.o.2;cases hbv:bl.getD (j+t) false with
       | true =>
        have GR:Hid (2*x+1<2^(t+1)/\F (j+(t+1))=F j*2^(t+1)+(2*x+1)):=by
         refine⟨by omega,?_⟩;rw[hbv] at GC;rw[<- Nat.add_assoc,GC,CE,e1]
         show _+1=_
         omega
        have ft:2*x+1<268435456:=by have:=GR.o.1;omega
        rw[hbv] at cb;clear GC hbv HX e1 CE AG Ba Eb;go_wp2_with fail;refine⟨⟨t+1,2*x+1,by omega,by go_num,by go_num,ft,GR,HB⟩,by simp[intOf];omega⟩
       | false =>
        have GR:Hid (2*x<2^(t+1)/\F (j+(t+1))=F j*2^(t+1)+2*x):=by
         refine⟨by omega,?_⟩;rw[hbv] at GC;rw[<- Nat.add_assoc,GC,CE,e1]
         show _+0=_
         omega
        have ft:2*x<268435456:=by have:=GR.o.1;omega
        rw[hbv] at cb;clear GC hbv HX e1 CE AG Ba Eb bV;go_wp2_with fail;refine⟨⟨t+1,2*x,by omega,by go_num,by go_num,ft,GR,HB⟩,by simp[intOf];omega⟩
      ·obtain rfl:t=g:=by omega
       have ew:¬ (t:Int)<t:=by omega
       have it:=HF.o.sm j hj;have Ep:F j<2^K10:=Nat.lt_of_lt_of_le it (Nat.pow_le_pow_right (by decide) (by rw[k10];omega));obtain⟨G,hG⟩:∃ G,2^t=G:=⟨_,rfl⟩;have o6:G<=268435456:=by rw[<- hG];exact Nat.le_trans (Nat.pow_le_pow_right (by decide) Em) (by decide)
       have o5:(2:Int)^t=(G:Nat):=by rw[<- hG,Int.natCast_pow];rfl
       have Cq:IntKind.i64.wrap (G:Int)=(G:Nat):=iw_ _ (by omega);have hM:=fun W hW=>DT.o (F j) t W Ep Em hW
       have hA:=fun W hW=>Ix.o (F j) x t W Ep Em HX.o.1 hW
       have BF:=HX.o.2;rw[hG] at hM hA BF;have aT:=hd_ (HI.o.bel.trans (HB.o.mono HI.o.bel.size));have HM:=hd_ hM;have HA:=hd_ hA;have Iy:=hd_ BF;have Dj:=hd_ (fun W hW=>Gb.o G W (by omega) hW);have Di:=hd_ (fun W hW=>Gb.o x W (by omega) hW);clear it Ep hG hM hA BF HX;go_wp2_with fail;refine cm_ (Dj.o _ aT.o) ?_;rintro e w4 ⟨rfl,hb⟩;have B4:=bt_ aT hb;have C4:=bt_ HB hb;clear hb;go_wp2_with fail;refine cm_ (HM.o _ B4.o) ?_;rintro e w5 ⟨rfl,hb⟩;have B5:=bt_ B4 hb;have C5:=bt_ C4 hb;clear hb B4 C4;go_wp2_with fail;refine cm_ (Di.o _ B5.o) ?_;rintro e w6 ⟨rfl,hb⟩;have B6:=bt_ B5 hb;have C6:=bt_ C5 hb;clear hb B5 C5;go_wp2_with fail;refine cm_ (HA.o _ B6.o) ?_;rintro e w7 ⟨rfl,hb⟩;have B7:=bt_ B6 hb;have C7:=bt_ C6 hb;clear hb B6 C6 Dj Di HM HA HB aT gm;have LT:=hd_ (Zvb (d:=c) (HI.o.rd.below C7.o nr_) t (by rw[Zag,List.length_drop,HF.o.len];have:=HI.o.cap;omega));have eX:=hd_ HI.o.cap;rw[<- Iy.o];clear HI Iy;go_wp2_with fail;refine⟨⟨j+t,_,c-t,Ih.o,rfl,by rw[show n-(j+t)=m-t by omega],⟨?_,by have:=eX.o;omega,B7.o⟩⟩,by show m-t<m;omega⟩;have:=LT.o
       unfold Zbs at this;rw[<- List.map_drop,List.drop_drop] at this;exact this
    ·obtain rfl:j=n:=by omega
     obtain rfl:m=0:=by omega
     go_wp2_with fail;go_ret;exact⟨by rw[me.o];rfl,HI.o.bel⟩
 ·have jO:((p:Int)==2)=false:=by rw[beq_eq_false_iff_ne];omega
  have Po:((p:Int) != 2)=true:=by rw[bne_iff_ne];omega
  have Im:=hd_ (Lu.o h2);have i7:=hd_ (fun P h=>Ak.o P h2 h);have Ib:=hd_ (fun P s h=>bL.o P s h2 h);have i':=hd_ (fun (P:Nat) (s:Nat×Nat×Nat) (h1:64<=P) (h:Ya p P n=some s)=>Qac OI.o OH.o h1 h);clear Lu Ak bL CR;have NK:IntKind.i64.wrap ((n:Int)+64)=((n+64:Nat):Int):=by rw[show (n:Int)+64=((n+64:Nat):Int) by omega];exact iw_ _ (by omega)
  go_wp2_with fail
  go_loopw [7,8] (fun l q wr=>∃ P:Nat,n+64<=P/\P<=1200/\l = .slice none 0 0/\q = .int .i64 P/\Hid (Bw_ w wr)) (fun _ q _=>1300-(intOf q).toNat)
  case atStart=>exact⟨n+64,Nat.le_refl _,by omega,rfl,rfl,B2⟩
  case round =>
   obtain⟨P,Mv,hP2,rfl,rfl,B3⟩:=hrel;clear B2;go_wp2_with fail;refine cm_ (Im.o P _ Mv (by omega)) ?_;rintro e w4 ⟨hb,hm⟩;have B4:=bt_ B3 hb;have pW:IntKind.i64.wrap ((P:Int)+64)=((P+64:Nat):Int):=by rw[show (P:Int)+64=((P+64:Nat):Int) by omega];exact iw_ _ (by omega)
   cases hd:Ya p P n with
   | none =>
    rw[hd] at hm;obtain rfl:=hm;have pX:P<1120:=Nat.lt_of_not_le fun h=>i7.o P h hd
    clear hb hd;go_wp2_with fail;refine⟨⟨P+64,by omega,by omega,rfl,by go_num,B4⟩,by simp[intOf];omega⟩
   | some s =>
    rw[hd] at hm;obtain⟨a0,c0,rfl,ho⟩:=hm;obtain⟨F,hF,hFk,hFn⟩:=i'.o P s (by omega) hd;have nQ:=hd_ (Zyv ho);have bP:Hid (n<=c0):=by
     have:Zip w4 wr.heap.size a0 c0 (Zdy p P n):=ho
     show n<=c0
     rcases this.2 with⟨h1,h0⟩|⟨g,cap,cur,h1,_,_,h2,_⟩
     ·simp only[Value.slice.injEq] at h1;rw[Yd] at h0;omega
     ·simp only[Value.slice.injEq] at h1;rw[Yd] at h2;omega
    have me:Hid (F n=v):=by show _=_;rw[hFn];exact Ib.o P s (by omega) hd
    have HF:=hd_ hF;have mf:Hid (F 0=k):=by show _=_;rw[hFk,Hk.o]
    clear hF hFn hFk hb hd ho Im i7 Ib i' B3;generalize Zdy p P n=bl at *;have HR:Hid (LoI w w4 n bl 0 a0 c0):=⟨by rw[List.drop_zero];exact nQ.o,by have:=bP.o;omega,B4.o⟩;clear nQ bP B4;go_wp2_with fail
    go_loopw [6,7] (fun s l wr=>∃ (j:Nat) (a:OA_) (c:Nat),j<=n/\s = .string (dec (F j))/\l = .slice a (n-j) c/\Hid (LoI w wr n bl j a c)) (fun _ l _=>match l with | .slice _ m _=>m | _=>0)
    case atStart=>exact⟨0,_,_,Nat.zero_le _,by rw[mf.o],by rw[Nat.sub_zero],HR⟩
    case round =>
     clear HR;obtain⟨j,a,c,hj,rfl,rfl,HI⟩:=hrel;obtain⟨m,hm⟩:∃ m,n-j=m:=⟨_,rfl⟩;have JF:m<=1000:=by omega
     rw[hm]
     by_cases H7:0<m
     ·have gi:(0:Int)<m:=by omega
      obtain⟨g,hg⟩:∃ g,min m 28=g:=⟨_,rfl⟩;have Em:g<=28:=by omega
      have jB:g<=m:=by omega
      have fp:0<g:=by omega
      have JE:min (m:Int) 28=(g:Nat):=by omega
      have J6:g<=c:=by have:=HI.o.cap;omega
      have Ih:=hd_ (show j+g<=n by omega);obtain⟨b,off,rfl,hZ,GM⟩:=HI.o.rd.open (by rw[Zag,List.length_drop,HF.o.len];omega);have gm:Hid (∀ t,t<g->wr.cell? ⟨b,off+t,none⟩=some (.bool (bl.getD (j+t) false))):=fun t ht=>by
       refine GM t _ ?_;rw[Zh3 _ _ (by rw[List.length_drop,HF.o.len];omega)];rw[List.getD_eq_getElem?_getD,List.getD_eq_getElem?_getD,List.getElem?_drop]
      clear GM;obtain⟨wo,hwo⟩:∃ wo:World,wo=wr:=⟨_,rfl⟩;subst hwo;go_wp2_with fail
      go_loopw [11,49] (fun ad i wr=>∃ t x:Nat,t<=g/\i = .int .i64 t/\ad = .int .i64 x/\x<268435456/\Hid (x<2^t/\F (j+t)=F j*2^t+x)/\Hid (Bw_ wo wr)) (fun _ i _=>g-(intOf i).toNat)
      case atStart=>exact⟨0,0,Nat.zero_le _,rfl,rfl,by decide,⟨by decide,by simp⟩,Below.refl _ _⟩
      case round =>
       obtain⟨t,x,ht,rfl,rfl,hx,HX,HB⟩:=hrel
       by_cases Gc:t<g
       ·have ew:(t:Int)<g:=by omega
        have cb:=gm.o t Gc;rw[<- HB.o.cell (p:=⟨b,off+t,none⟩) hZ] at cb;have GC:=HF.o.nxt (j+t) (by have:=Ih.o;omega);have AG:=HX.o.1;have Ba:2^(t+1)<=268435456:=Nat.le_trans (Nat.pow_le_pow_right (by decide) (show t+1<=28 by omega)) (by decide);have Eb:2^(t+1)=2*2^t:=by rw[Nat.pow_succ,Nat.mul_comm]
        have Jp:IntKind.i64.wrap ((x:Int)*2)=((2*x:Nat):Int):=by rw[show (x:Int)*2=((2*x:Nat):Int) by omega];exact iw_ _ (by omega)
        have bV:IntKind.i64.wrap (((2*x:Nat):Int)+1)=((2*x+1:Nat):Int):=by rw[<- Int.natCast_succ];exact iw_ _ (by omega)
        have AI:IntKind.i64.wrap ((t:Int)+1)=((t+1:Nat):Int):=by rw[<- Int.natCast_succ];exact iw_ _ (by omega)
        have e1:F j*2^(t+1)=2*(F j*2^t):=by rw[Eb];exact Nat.mul_left_comm ..
        have CE:=HX.o.2;cases hbv:bl.getD (j+t) false with
        | true =>
         have GR:Hid (2*x+1<2^(t+1)/\F (j+(t+1))=F j*2^(t+1)+(2*x+1)):=by
          refine⟨by omega,?_⟩;rw[hbv] at GC;rw[<- Nat.add_assoc,GC,CE,e1]
          show _+1=_
          omega
         have ft:2*x+1<268435456:=by have:=GR.o.1;omega
         rw[hbv] at cb;clear GC hbv HX e1 CE AG Ba Eb;go_wp2_with fail;refine⟨⟨t+1,2*x+1,by omega,by go_num,by go_num,ft,GR,HB⟩,by simp[intOf];omega⟩
        | false =>
         have GR:Hid (2*x<2^(t+1)/\F (j+(t+1))=F j*2^(t+1)+2*x):=by
          refine⟨by omega,?_⟩;rw[hbv] at GC;rw[<- Nat.add_assoc,GC,CE,e1]
          show _+0=_
          omega
         have ft:2*x<268435456:=by have:=GR.o.1;omega
         rw[hbv] at cb;clear GC hbv HX e1 CE AG Ba Eb bV;go_wp2_with fail;refine⟨⟨t+1,2*x,by omega,by go_num,by go_num,ft,GR,HB⟩,by simp[intOf];omega⟩
       ·obtain rfl:t=g:=by omega
        have ew:¬ (t:Int)<t:=by omega
        have it:=HF.o.sm j hj;have Ep:F j<2^K10:=Nat.lt_of_lt_of_le it (Nat.pow_le_pow_right (by decide) (by rw[k10];omega));obtain⟨G,hG⟩:∃ G,2^t=G:=⟨_,rfl⟩;have o6:G<=268435456:=by rw[<- hG];exact Nat.le_trans (Nat.pow_le_pow_right (by decide) Em) (by decide)
        have o5:(2:Int)^t=(G:Nat):=by rw[<- hG,Int.natCast_pow];rfl
        have Cq:IntKind.i64.wrap (G:Int)=(G:Nat):=iw_ _ (by omega);have hM:=fun W hW=>DT.o (F j) t W Ep Em hW
        have hA:=fun W hW=>Ix.o (F j) x t W Ep Em HX.o.1 hW
        have BF:=HX.o.2;rw[hG] at hM hA BF;have aT:=hd_ (HI.o.bel.trans (HB.o.mono HI.o.bel.size));have HM:=hd_ hM;have HA:=hd_ hA;have Iy:=hd_ BF;have Dj:=hd_ (fun W hW=>Gb.o G W (by omega) hW);have Di:=hd_ (fun W hW=>Gb.o x W (by omega) hW);clear it Ep hG hM hA BF HX;go_wp2_with fail;refine cm_ (Dj.o _ aT.o) ?_;rintro e w4 ⟨rfl,hb⟩;have B4:=bt_ aT hb;have C4:=bt_ HB hb;clear hb;go_wp2_with fail;refine cm_ (HM.o _ B4.o) ?_;rintro e w5 ⟨rfl,hb⟩;have B5:=bt_ B4 hb;have C5:=bt_ C4 hb;clear hb B4 C4;go_wp2_with fail;refine cm_ (Di.o _ B5.o) ?_;rintro e w6 ⟨rfl,hb⟩;have B6:=bt_ B5 hb;have C6:=bt_ C5 hb;clear hb B5 C5;go_wp2_with fail;refine cm_ (HA.o _ B6.o) ?_;rintro e w7 ⟨rfl,hb⟩;have B7:=bt_ B6 hb;have C7:=bt_ C6 hb;clear hb B6 C6 Dj Di HM HA HB aT gm;have LT:=hd_ (Zvb (d:=c) (HI.o.rd.below C7.o nr_) t (by rw[Zag,List.length_drop,HF.o.len];have:=HI.o.cap;omega));have eX:=hd_ HI.o.cap;rw[<- Iy.o];clear HI Iy;go_wp2_with fail;refine⟨⟨j+t,_,c-t,Ih.o,rfl,by rw[show n-(j+t)=m-t by omega],⟨?_,by have:=eX.o;omega,B7.o⟩⟩,by show m-t<m;omega⟩;have:=LT.o
        unfold Zbs at this;rw[<- List.map_drop,List.drop_drop] at this;exact this
     ·obtain rfl:j=n:=by omega
      obtain rfl:m=0:=by omega
      go_wp2_with fail;go_ret;exact⟨by rw[me.o];rfl,HI.o.bel⟩
end Go.Proofs.YtbielfplgbammaaGreatDoor

namespace Go.Proofs.YtbielfplgbammaaGreatDoor.LN
theorem Zjm(P:Int):∀ l k:List Int,dotI l k=dotI (l.map fun x=>x%P) k+P*dotI (l.map fun x=>x/P) k
 | [],_=>by simp[dotI]
 | _::_,[]=>by simp[dotI]
 | x::l,y::k=>by
  have ih:=Zjm P l k;simp only[List.map_cons,dotI];rw[ih];have hx:=Int.emod_add_mul_ediv x P;generalize x%P=r at *;generalize x/P=q at *;subst hx
  grind
def Zep (a q:Int) (L:List Int):List Int:=L.map fun l=>(2*q*l+a)/(2*a)
theorem Zeo(a q:Int)(L:List Int):(Zep a q L).length=L.length:=by simp[Zep]
def Qg7 (a q:Int) (L:List Int):Nat:=Zdn (comb a (Zep a q L) q L)
def Qcs (a:Int) (L Q:List Int) (K S:Nat):Bool:=decide (0<a)&&Q.all fun q=>decide (Qg7 a q L*K+q.natAbs*S<a.natAbs)
def Qgt (a:Int) (L Q:List Int) (V:List (List Int)) (P:Int):Bool :=
 decide (1<P)&&decide (V.length=L.length) &&
 (List.range L.length).all fun i=>decide ((Zen L.length (V.getD i []) (Q.map fun q=>Zep a q L)).map (fun x=>x%P)=Zeu L.length i 1)
theorem Zrb(P:Int):∀ u k:List Int,dotI u (k.map fun x=>P*x)=P*dotI u k
 | [],_=>by simp[dotI]
 | _::_,[]=>by simp[dotI]
 | a::u,b::k=>by
  simp only[List.map_cons,dotI];rw[Zrb P u k]
  grind
theorem Qdb{P:Int}{m:Nat}{U V:List (List Int)}(hU:∀ u∈U,u.length=m)(hI:∀ i,i<m->(Zen m (V.getD i []) U).map (fun x=>x%P)=Zeu m i 1)(k:List Int)(hk:k.length=m)(h0:∀ u∈U,dotI u k=0):
  ∀ x∈k,∃ y,x=P*y:=by
 intro x hx;obtain⟨i,hi,rfl⟩:=List.mem_iff_getElem.1 hx;have h1:=hI i (by omega);have h2:=Ze6 m k (V.getD i []) U hU h0;rw[Zjm P,h1,Zeu,List.range_eq_range',Zhu 1 _ i 0 k,if_pos (by omega)] at h2;rw[Nat.sub_zero,List.getD_eq_getElem?_getD,List.getElem?_eq_getElem hi,Option.getD_some,Int.one_mul] at h2;generalize k[i]=y at *;generalize dotI ((Zen m (V.getD i []) U).map fun x=>x/P) k=q at *;exact⟨-q,by rw[Int.mul_neg];omega⟩
theorem Zzv{P:Int}(hP:1<P){m:Nat}{U V:List (List Int)}(hU:∀ u∈U,u.length=m)(hI:∀ i,i<m->(Zen m (V.getD i []) U).map (fun x=>x%P)=Zeu m i 1):
  ∀ (n:Nat) (k:List Int),(∀ x∈k,x.natAbs<=n)->k.length=m->(∀ u∈U,dotI u k=0)->∀ x∈k,x=0:=by
 intro n
 induction n using Nat.strongRecOn with
 | ind n ih =>
  intro k hn hk h0
  by_cases hz:n=0
  ·subst hz;intro x hx;have:=hn x hx
   omega
  have hd:=Qdb hU hI k hk h0;have e:k=(k.map fun x=>x/P).map fun x=>P*x:=by
   rw[List.map_map];refine List.ext_getElem (by simp) fun i h1 h2=>?_
   obtain⟨y,hy⟩:=hd k[i] (List.getElem_mem h1);rw[List.getElem_map,Function.comp_apply,hy,Int.mul_ediv_cancel_left _ (by omega)]
  have h2:∀ u∈U,dotI u (k.map fun x=>x/P)=0:=fun u hu=>by
   have h:=h0 u hu;rw[e,Zrb] at h;rcases Int.mul_eq_zero.1 h with h|h
   ·omega
   ·exact h
  have h3:∀ x∈k.map (fun x=>x/P),x.natAbs<=n/2:=fun x hx=>by
   obtain⟨z,fg,rfl⟩:=List.mem_map.1 hx;obtain⟨y,hy⟩:=hd z fg;have h4:=hn z fg;rw[hy,Int.mul_ediv_cancel_left _ (by omega)];rw[hy,Int.natAbs_mul] at h4;have h5:2*y.natAbs<=P.natAbs*y.natAbs:=Nat.mul_le_mul_right _ (by omega);omega
  have h4:=ih (n/2) (by omega) _ h3 (by rw[List.length_map];exact hk) h2;intro x hx;obtain⟨y,hy⟩:=hd x hx;have h5:=h4 (x/P) (List.mem_map_of_mem hx);rw[hy,Int.mul_ediv_cancel_left _ (by omega)] at h5;rw[hy,h5,Int.mul_zero]
theorem Zpq{a:Int}{L Q:List Int}{V:List (List Int)}{P:Int}{K S:Nat}(hn:Qcs a L Q K S=true)(hi:Qgt a L Q V P=true)(k:List Int)(hk:k.length=L.length)(hK:∀ x∈k,x.natAbs<=K)(hS:(dotI L k).natAbs<S):
  ∀ x∈k,x=0:=by
 unfold Qcs at hn;unfold Qgt at hi;simp only[Bool.and_eq_true,decide_eq_true_eq,List.all_eq_true,List.mem_range] at hn hi;obtain⟨ha,hQ⟩:=hn;obtain⟨⟨hP,hV⟩,hI⟩:=hi;refine Zzv hP (m:=L.length) (U:=Q.map fun q=>Zep a q L) (V:=V) (fun u hu=>?_) hI (Zdn k) k (fun x hx=>?_) hk fun u hu=>?_
 ·obtain⟨q,_,rfl⟩:=List.mem_map.1 hu;exact Zeo a q L
 ·clear hS hK hk hI hV;unfold Zdn
  induction k with
  | nil=>cases hx
  | cons y l ih =>
   rw[List.map_cons,List.sum_cons];rcases List.mem_cons.1 hx with rfl|hx
   ·omega
   ·have:=ih hx;omega
 ·obtain⟨q,hq,rfl⟩:=List.mem_map.1 hu;have h1:=hQ q hq;have e:=Zej a q (Zep a q L) L k (Zeo a q L);have b:=Zo7 K (comb a (Zep a q L) q L) k hK;unfold Qg7 at h1;generalize dotI (Zep a q L) k=f at *;generalize dotI L k=T at *;generalize Zdn (comb a (Zep a q L) q L)*K=A at *;rw[e] at b;have h3:(a*f).natAbs<=(a*f-q*T).natAbs+(q*T).natAbs:=by omega
  rw[Int.natAbs_mul,Int.natAbs_mul q T] at h3;have h5:q.natAbs*T.natAbs<=q.natAbs*S:=Nat.mul_le_mul_left _ (by omega);have h6:a.natAbs*f.natAbs<a.natAbs*1:=by omega
  have h7:f.natAbs<1:=Nat.lt_of_mul_lt_mul_left h6;omega
def Qdq:List Nat:=[2,3,5,7,11,13,17,19,23,29,31,37,41,43,47,53,59,61,67,71,73,79,83,89,97]
def certL25:List Int:=Qdq.map fun p=>if p=2 then 2^1024 else (((lg p p.log2 1024 1120).getD 0:Nat):Int)
def Zw8:List Int:=[-0x390cc4547b4cd34f887aebaadaaef6c9e2c25ec48d8f23b26f2a85d828ff28e8bf9ca1f7cfab0d284288c4b575780f820db978a62a9677ad80c583c592139,-0x260814ef7f5ac50a6006d98cfd70b43cacbe2b44c5a6acba00c9e36e133dfaec54ded4a6dbf2b1ee3d9f0170e9040519515ec50467e78cea24b2a987b6ebe,0xc1fe29faf3a552cd8de28a12e2da45a09a6f6ddd51c9fdf123231365c26467b7f0adb74fd1629cde5109fd2ce82ac31cf6a7159b88cbc009f06beb2efe7f1,0xc4d95d3690e9b65f02a176c883e8ec48cac8f51c6e6ac88155fbb552a8d107e0735dfadeafbd00dc15d7affcd74d1aedcc8b5819242d9f5374d744f37864b,0x2fbe3f25a3a7de9b5b481954d1f6339b2cd20553ab9d3ebec152b19718dccca849fa91bd57f1ef5cf6b3fd1de44fed74095a607713b59e5dab526a5bf2d1a,0xb1d4a89456513f0be0db174271d748684707ab7c465b9b152f9cfd46885d014b0b6313fdb7fb0ac0f8c0cbb84fa1114a2fc1ad81d7b46dc68888c7e484443,0xd4fb67b9eee711061c2f484eaeb6714b80931bf0be34de2758afdcfc8ab8d81f286fc368a34abbdee16567d53c8e00633cd4e3c89dc0919dbd4e6776a43bb,0xc899fb23e590a24b56a2adcd8da665a66ae2ec7e27986cc365cb27f6d6036be68c300e821eb425ea7f34efe116edeeffcaca2af99a0269f5b4261db47c314,-0x11d12dd471b033d8f64d3dd96ce360413127b1e913f3ae0a69f58fd7c784be2b7f4730a1aa0e86d39e38d5da6e24bfecc0540ab55bd835eba83548458d713,0xb926771e4e6fa1b1d854b5141a33d1ea69f18e9493e4bd4e7fc79ec59c41a85d36321c75af04f2583ea8a5d6ed566b5e9fa774026a91431b6a7df578e7459,-0x3c28cc5f354ba5a9fc8d241587fa21af31c3e6e94de0dd06347765459067893f4625b14ba63b900137e634223d3e51fc18e23feb9d937a72459c82f489561,-0xd89ae46dcc2d34099da88c0eeebe45a7fd8e4a5b978d5a347365896f552ec37edac4d764c4c88fe731af3bde3060926f6c408fa08ce000932d017724e19ee,-0x8a91da38a2dcab2db4bf4a851cf4bbad9dd11812fb953cccc63d0e4b2da4b049c2e28f859aff65c2f55d66641eec3465bf2cc38578db652cb80d1be86824c,0x895aa15dcf5659cff1497ef77c5517ab5bc635dc394b344b270487efb0c24dd81130969cbd26c4b2570453e614b36072827d534508273926630d8792f1505,0xec0ed674cca733ecec2ec718589c4165668c921ed200cb18f949421f53adfeaf33ee49b77683fd220fda76c247b919730b89f5c86cc2ae2e7467e6288190d,0x1ad4fa358f8a2b0001052337ff5f965738e9ef08c0ab36887e87053178564d3d4733548ea08b2398fa1c8ef38e9b07acf14183670a7557085e371538399213,-0xcf563fd1ab64de44118f0ef591830a98b4375aefbd7643b50b3a2c7dad2ddda31ea6a961f9ff6856f9af1536f3807caa73d0d8bccd1b1748307caca0b514,0x5076fb700c91eb0ad7590020d977e1805d604885b67160daae909a62406d3f401f66fe04cdb504d8309c6f2062ee41b2c29c45d2c01b4a6959315c698416e,-0xe7e496b0d5dae89fd6671905c3b39792af4f23aa9c33ab499c18e57447823ce03c684e8e0d3686afff015d66b6d57f8e91b97946b1f2fb236c8d62708a18a,-0x1797837a78ad5a7cb425ecd55e66c7f45320c2112aa185855f9ac4fbdd0f1a3f868873233f2a91c500731f84bf864689b9ca4ffc44787f78ed85c25d65bafe,0x1f12b1884e6ed34a5d58fcbbd9b64bb0e3620c645f1107b850710f74df8470506f39df5b2c079d54de688969e9b3be651cc671df4be8b0402deeed04d7136f,0x38773a3f3a38ff2f461cc1a498212e2699f4b44c91c4fc8fe76a273f7433e99ad868606c13df7bb8fbc1a0e307aa2305e1edc5fc67267c33693811a24a115a,-0x468f56cd9688ad4444754dc5516780d8a728601272b981c9e540ae5c7eccc37be9aaea74cc4f68a295024dd153707784d1a0f06af7b3318b43396873b153b9,0x29803f6a11e403f7ab8ab7f301e524fd966b213312929531e43177e8e94c4228b3ff35f744d7a0381b47d50f48de84c56fabfe6825e7c594421d4081a2f909,-0x3ba482035175b55cdd54937fbed1357892e1679104490919122bafa83262d982e03a473fabb598916f8baa291f85413607e809cc262654bd47d7d78594adb]
def Qdm:List (List Int):=[[98,118,202,124,83,146,107,201,172,64,12,55,105,153,239,226,195,7,28,1,187,165,30,221,20],[97,27,31,158,30,77,244,51,44,105,139,212,178,232,112,144,112,50,139,194,131,126,250,243,199],[145,223,213,170,95,13,240,130,153,118,135,223,243,186,171,134,207,140,198,195,116,22,35,91,65],[127,43,6,14,138,151,250,70,62,80,184,44,115,51,176,244,145,131,206,236,45,69,179,200,133],[215,29,202,95,72,74,48,4,10,16,59,3,80,6,27,146,155,64,144,191,207,28,47,186,115],[1,23,188,40,44,144,148,45,179,1,2,131,81,130,190,174,102,201,98,127,88,72,69,149,96],[21,40,35,113,140,63,120,23,173,12,30,112,115,247,188,77,109,86,237,6,190,149,14,217,137],[165,242,4,13,24,68,242,68,11,194,105,217,200,25,217,157,134,179,219,36,80,241,64,196,176],[206,4,124,119,72,189,189,146,49,121,239,155,85,23,138,58,180,221,118,48,106,186,171,238,86],[210,99,247,60,139,154,200,40,223,202,137,227,11,116,74,91,113,69,222,174,223,137,100,238,243],[137,154,125,2,209,203,20,147,218,42,113,181,57,132,187,233,7,180,4,13,134,94,179,172,127],[179,210,49,18,55,213,151,96,5,60,141,57,148,95,99,145,82,178,219,173,202,14,84,100,228],[102,62,217,129,14,127,200,224,35,146,125,220,123,9,18,106,211,148,211,96,123,238,196,223,230],[107,242,170,28,59,5,149,152,27,153,45,77,216,213,205,218,113,101,58,81,174,221,44,184,57],[108,175,78,124,22,49,53,21,88,184,52,93,49,179,193,43,94,166,25,71,133,248,120,207,180],[190,12,33,105,31,211,119,39,220,34,3,27,122,55,99,131,239,148,215,72,248,155,198,222,150],[144,6,56,78,4,2,126,114,216,174,212,176,32,191,21,45,218,115,143,120,153,136,150,24,232],[177,196,131,171,223,9,122,185,198,226,118,98,221,101,109,186,72,130,15,250,167,241,109,149,105],[5,109,58,172,46,17,108,71,152,136,247,173,16,175,59,71,120,96,238,26,93,192,136,39,81],[186,19,103,188,193,244,223,99,12,51,155,33,75,7,116,75,27,25,162,116,163,194,41,249,169],[16,165,61,90,34,101,66,39,9,179,6,2,90,243,140,110,154,165,206,43,233,68,70,8,11],[234,230,151,18,15,70,18,94,170,185,103,207,140,194,73,45,240,94,238,202,45,181,231,74,100],[93,157,117,129,100,102,151,37,142,24,195,236,119,121,156,62,96,20,140,202,137,110,136,203,133],[34,56,244,228,180,109,49,144,4,202,26,66,171,139,244,245,65,98,96,38,169,12,38,158,59],[93,79,212,48,179,15,215,149,126,233,223,17,202,226,95,109,96,28,47,201,229,125,122,118,247]]
theorem certL25_head:certL25.head?=some (2^1024):=by decide +kernel
theorem certL25_len:certL25.length=25:=by unfold certL25;rw[List.length_map];rfl
theorem Zvr:Qcs (2^1024) certL25 Zw8 (2^17) (2^521)=true:=by decide +kernel
theorem Zzw:Qgt (2^1024) certL25 Zw8 Qdm 251=true:=by decide +kernel
theorem cert25_zero(k:List Int)(hk:k.length=certL25.length)(hK:∀ x∈k,x.natAbs<=2^17)(hS:(dotI certL25 k).natAbs<2^521):∀ x∈k,x=0:=Zpq Zvr Zzw k hk hK hS
end Go.Proofs.YtbielfplgbammaaGreatDoor.LN

namespace Go.Proofs.YtbielfplgbammaaGreatDoor
open Go.RowKit
theorem LN.ends_decide_of{pr:List Int}{f:Int->Nat}{K S:Nat}(hz:∀ k:List Int,k.length=pr.length->(∀ x∈k,x.natAbs<=K)->(LN.dotI (pr.map fun p=>(f p:Int)) k).natAbs<S->∀ x∈k,x=0)(hp:pr.Nodup)(l:List (Int×Int))(hl:l.length*K<=S)(gj:l≠[])
  (hm:∀ x∈l,x.1∈pr/\x.2≠0/\x.2.natAbs<=K) (hd:(l.map Prod.fst).Nodup):LN.hiS f (LN.negT l)<=LN.loS f l\/LN.hiS f l<=LN.loS f (LN.negT l):=by
 have h1:=LN.hiS_le f K l fun x hx=>(hm x hx).2.2
 have h2:=LN.hiS_le f K (LN.negT l) (by
  intro x hx;obtain⟨y,hy,rfl⟩:=List.mem_map.1 hx;have:=(hm y hy).2.2
  show (-y.2).natAbs<=K
  omega)
 have e:(LN.negT l).length=l.length:=by simp[LN.negT]
 rw[e] at h2;have h3:=LN.sumT_eq f l
 by_cases hT:(LN.sumT f l).natAbs<S
 ·exfalso;rw[<- LN.dotI_coef f pr hp l fun x hx=>(hm x hx).1] at hT;have h4:=hz (pr.map fun p=>LN.coefP p l) (by simp) (by
   intro x hx;obtain⟨p,_,rfl⟩:=List.mem_map.1 hx;exact LN.coefP_le K l hd (fun y hy=>(hm y hy).2.2) p) hT
  match l,gj with
  | x::r,_ =>
   have h5:=h4 _ (List.mem_map.2 ⟨x.1,(hm x List.mem_cons_self).1,rfl⟩);rw[LN.coefP_mem _ hd x List.mem_cons_self] at h5;exact(hm x List.mem_cons_self).2.1 h5
 ·omega
theorem Zpl:∀ x∈LN.certL25,(0:Int)<=x:=by decide +kernel
theorem Zsx:Zbv.map (fun p=>LN.lg p p.log2 1024 1120)=LN.certL25.tail.map fun x=>some x.toNat:=by decide +kernel
theorem Zto:Zia.map (fun p=>((lf 1024 p:Nat):Int))=LN.certL25:=by
 have h:=Zsx;have h0:=LN.certL25_head;have hp:=Zpl;obtain⟨c0,ct,e⟩:∃ c0 ct,LN.certL25=c0::ct:=⟨_,_,rfl⟩;rw[e] at h h0 hp ⊢;rw[Zrp,List.map_cons];simp only[List.head?_cons,Option.some.injEq] at h0;rw[Qbj,h0];congr 1;rw[List.tail_cons] at h;rw[List.map_map];have ju:∀ x∈ct,(0:Int)<=x:=fun x hx=>hp x (List.mem_cons_of_mem _ hx)
 clear hp h0 e;have gS:∀ (l:List Nat) (ct:List Int),(∀ p∈l,p∈Zbv)->(∀ x∈ct,(0:Int)<=x)->l.map (fun p=>LN.lg p p.log2 1024 1120)=ct.map (fun x=>some x.toNat)->l.map ((fun p=>((lf 1024 p:Nat):Int)) ∘ fun p=>((p:Nat):Int))=ct:=by
  intro l
  induction l with
  | nil =>
   intro ct _ _ h;cases ct with
   | nil=>rfl
   | cons x r=>simp at h
  | cons p l ih =>
   intro ct hl hc h;cases ct with
   | nil=>simp at h
   | cons x r =>
    simp only[List.map_cons,List.cons.injEq] at h;rw[List.map_cons,ih r (fun q hq=>hl q (List.mem_cons_of_mem _ hq)) (fun y hy=>hc y (List.mem_cons_of_mem _ hy)) h.2];congr 1;have:=Qbh (hl p (List.mem_cons_self ..)) (by decide) h.1
    have hx:=hc x (List.mem_cons_self ..)
    show ((lgN p 1024:Nat):Int)=x
    rw[this];omega
 exact gS Zbv ct (fun _ h=>h) ju h
def Ke:Nat:=2^17
theorem Zk8{tl:List (Int×Int)}(h1:∀ x∈tl,x.1∈Zia)(h0:∀ x∈tl,x.2≠0)(hd:(tl.map Prod.fst).Nodup)(hk:∀ x∈tl,x.2.natAbs<=Ke)(hl:tl.length<=100)(gj:tl≠[]):Dec tl:=by
 have hS:=@Zjf tl.length 17 521 hl (by decide);have hz:∀ k:List Int,k.length=Zia.length->(∀ x∈k,x.natAbs<=Ke)->(LN.dotI (Zia.map fun p=>((lf 1024 p:Nat):Int)) k).natAbs<2^521->∀ x∈k,x=0:=by
  intro k hk hK hT;rw[Zto] at hT;exact LN.cert25_zero k (by rw[hk,LN.certL25_len];rfl) hK hT
 have:=LN.ends_decide_of hz (by decide) tl hS gj (fun x hx=>⟨h1 x hx,h0 x hx,hk x hx⟩) hd
 unfold Dec;rw[LN.eLo_eq,LN.eHi_eq];omega
theorem Qbv.all{ps:List Int}{l:List Rat}(h1:∀ p∈ps,p∈Zia)(h2:ps.Nodup)(hk:∀ x∈tlQ ps l,x.2.natAbs<=Ke):Qbv ps l :=
 ⟨h1,h2,fun x hx=>Nat.le_trans (hk x hx) (by decide),fun hn gj=>Zk8 (fun _ hx=>h1 _ (Zac hx).1) (Zp2 h1 h2).nz (Zp2 h1 h2).nd hk (Ziv hn) gj⟩
end Go.Proofs.YtbielfplgbammaaGreatDoor

namespace Go.Proofs.YtbielfplgbammaaGreatDoor.LN
def KC:Nat:=2^10
def SC:Nat:=2^980
def certPc0:List Int:=[2,3,5,7]
def certLc0:List Int:=[certL.getD 0 0,certL.getD 1 0,certL.getD 2 0,certL.getD 3 0]
def Qdp:List (List Int):=[[355384823813,563271619069,825178006908,997691334356],[260741019467,413264738255,605421898590,731992584383],[501191157123,794369189733,1163729828633,1407021461841],[5952785575414,9434941911865,13821940070394,16711581885092]]
def Qdl:List (List Int):=[[-56549,-23682,29982,1889],[24686,11530,1974,-2145],[-6414,16227,-5533,138],[11511,-11495,-7218,424]]
theorem certC0_ok:certOk (2^1024) certLc0 Qdp Qdl 1 KC SC=true:=by decide +kernel
def certPc1:List Int:=[2,3,5,13]
def certLc1:List Int:=[certL.getD 0 0,certL.getD 1 0,certL.getD 2 0,certL.getD 5 0]
def Qdo:List (List Int):=[[3455300059093,5476521022402,8022958283474,12786129576763],[-3171618552594,-5026896472453,-7364270223534,-11736383262812],[-1792685898840,-2841339925233,-4162487753825,-6633726102219],[68036508400,107835314494,157975880332,251764997967]]
def Qdk:List (List Int):=[[-61927,-63338,-6486,21533],[10762,10649,2294,10304],[3330,11145,-13511,-5577],[10036,5562,9248,-6733]]
theorem certC1_ok:certOk (2^1024) certLc1 Qdo Qdk 1 KC SC=true:=by decide +kernel
def certPc2:List Int:=[2,3,7,11]
def certLc2:List Int:=[certL.getD 0 0,certL.getD 1 0,certL.getD 3 0,certL.getD 4 0]
def Qdn:List (List Int):=[[-1245509065909,-1974085163774,-3496586006647,-4308753443905],[-1448276951703,-2295464659108,-4065827428866,-5010215079265],[-1801554140183,-2855395755209,-5057601882796,-6232353355236],[-5568883772664,-8826471950547,-15633833269555,-19265172603670]]
def Qdj:List (List Int):=[[47907,-64889,7585,3707],[-21989,3883,6940,1663],[-8309,2477,-13310,5520],[2969,14968,5429,-6313]]
theorem certC2_ok:certOk (2^1024) certLc2 Qdn Qdj 1 KC SC=true:=by decide +kernel
end Go.Proofs.YtbielfplgbammaaGreatDoor.LN

namespace Go.Proofs.YtbielfplgbammaaGreatDoor
open Go.RowKit
theorem Sml.kb{N M:Nat}{ps:List Int}{l:List Rat}(hM:0<M)(h:Sml N M l):∀ x∈tlQ ps l,x.2.natAbs<=N:=by
 intro x hx;obtain⟨_,q,hq,_,he⟩:=Zac hx;have e:x.2=LN.ex (Ql l) q:=he;obtain⟨m,hm⟩:=LN.tden_min (fun q hq=>(h q hq).1);have h3:=(h q hq).2;rw[hm,Nat.mul_comm,LN.ex_mul (LN.tden_dvd hq),Int.natAbs_mul,Int.natAbs_natCast] at h3;have ET:0<m:=by
  rcases Nat.eq_zero_or_pos m with h0|h0
  ·rw[h0,Nat.mul_zero] at hm;omega
  ·exact h0
 rw[e];have h4:1*(LN.ex (Ql l) q).natAbs<=m*(LN.ex (Ql l) q).natAbs:=Nat.mul_le_mul_right _ ET;omega
theorem Sml.den{N:Nat}{l:List Rat}(h:Sml N 12 l):Ql l<=12:=Nat.le_of_dvd (by decide) (LN.tden_min (fun q hq=>(h q hq).1))
theorem Qen{ps:List Int}{l:List Rat}(hl:l.length=ps.length)(h:∃ q∈l,q≠0):tlQ ps l≠[]:=by
 obtain⟨q,hq,h0⟩:=h;obtain⟨i,hi,rfl⟩:=List.mem_iff_getElem.1 hq;intro e;have hm:(ps[i]'(by omega),l[i].num*((Ql l/l[i].den:Nat):Int))∈tlQ ps l:=by
  unfold tlQ Qo;refine List.mem_filterMap.2 ⟨(ps[i]'(by omega),l[i]),?_,?_⟩
  ·exact List.mem_iff_getElem.2 ⟨i,by simp;omega,by simp⟩
  ·rw[if_neg];intro hz;exact h0 (Rat.num_eq_zero.1 hz)
 rw[e] at hm;cases hm
/-! The numbers of the law. -/
theorem Ztm:LN.certPc0.map (fun p=>((lf 1024 p:Nat):Int))=LN.certLc0:=by
 unfold LN.certLc0;rw[<- Zgf];rfl
theorem Ztl:LN.certPc1.map (fun p=>((lf 1024 p:Nat):Int))=LN.certLc1:=by
 unfold LN.certLc1;rw[<- Zgf];rfl
theorem Ztk:LN.certPc2.map (fun p=>((lf 1024 p:Nat):Int))=LN.certLc2:=by
 unfold LN.certLc2;rw[<- Zgf];rfl
theorem Zj6{pr:List Int}{a dd:Int}{U V:List (List Int)}{K S:Nat}(hb:LN.certOk a (pr.map fun p=>((lf 1024 p:Nat):Int)) U V dd K S=true)(hd:pr.Nodup){ty:List (Int×Int)}(my:∀ x∈ty,x.1∈pr)(ny:(ty.map Prod.fst).Nodup)(h0:∀ x∈ty,x.2≠0)(gj:ty≠[])(hky:∀ x∈ty,x.2.natAbs<=K):S<=(LN.sumT (lf 1024) ty).natAbs:=by
 refine Nat.le_of_not_lt fun hc=>?_
 rw[<- LN.dotI_coef (lf 1024) pr hd ty my] at hc;have hz:=LN.cert_zero hb (pr.map fun p=>LN.coefP p ty) (by simp) (by
  intro x hx;obtain⟨p,_,rfl⟩:=List.mem_map.1 hx;exact LN.coefP_le _ ty ny hky p) hc
 match ty,gj with
 | x::l,_ =>
  have h5:=hz _ (List.mem_map.2 ⟨x.1,my x List.mem_cons_self,rfl⟩);rw[LN.coefP_mem _ ny x List.mem_cons_self] at h5;exact h0 x List.mem_cons_self h5
theorem Zmj:∀ k,k<10->(∀ p∈Ko k,p∈LN.certPc0)\/(∀ p∈Ko k,p∈LN.certPc1)\/(∀ p∈Ko k,p∈LN.certPc2):=by decide +kernel
theorem Zog{k:Nat}(hk:k<10){ty:List (Int×Int)}(my:∀ x∈ty,x.1∈Ko k)(ny:(ty.map Prod.fst).Nodup)(h0:∀ x∈ty,x.2≠0)(gj:ty≠[])(hky:∀ x∈ty,x.2.natAbs<=LN.KC):LN.SC<=(LN.sumT (lf 1024) ty).natAbs:=by
 rcases Zmj k hk with h|h|h
 ·exact Zj6 (by rw[Ztm];exact LN.certC0_ok) (by decide) (fun x hx=>h _ (my x hx)) ny h0 gj hky
 ·exact Zj6 (by rw[Ztl];exact LN.certC1_ok) (by decide) (fun x hx=>h _ (my x hx)) ny h0 gj hky
 ·exact Zj6 (by rw[Ztk];exact LN.certC2_ok) (by decide) (fun x hx=>h _ (my x hx)) ny h0 gj hky
theorem Qgu:Zal Tryz.prog 33 3 (.int .i64 0) 1 8:=⟨Tryz.underlying33,info_parts Qfn,rfl,by decide⟩
def Qa0 (w:World) (B:Nat) (a:OA_) (c:Nat) (l:List Int):Prop:=w.ownsRow B 3 1 (.slice a l.length c) l.length (Vk l)
theorem Qa0.rd{w:World}{B c:Nat}{a:OA_}{l:List Int}(h:Qa0 w B a c l):Rd w a (Vk l):=Zqo h
theorem Qa0.below{w w':World}{B c:Nat}{a:OA_}{l:List Int}(h:Qa0 w B a c l){D:Nat}(hb:Below D w w')(hD:w.heap.size<=D):Qa0 w' B a c l:=Kv h hb hD
theorem Qa0.nil(w:World)(B:Nat):Qa0 w B none 0 []:=World.ownsRow_nil w B _ 1
theorem Qez{b:Nat}(HU:b<=97):Num b:=Kq (D:=2) (show b<10^2 by omega) (by decide) (by decide)
theorem Zuo(b n:Nat)(HU:b<=97)(hn:n<=2000):(dec (b^n)).size<=4001:=by
 obtain⟨D,hD⟩:∃ D:Nat,D=4001:=⟨_,rfl⟩;rw[<- hD,Vu _ _ (by omega)];have h1:b^n<=(10^2)^n:=Nat.pow_le_pow_left (by omega) n;rw[<- Nat.pow_mul] at h1;exact Nat.lt_of_le_of_lt h1 (Nat.pow_lt_pow_right (by decide) (by omega))
theorem Zks(b n y:Nat)(HU:b<=97)(hn:n<=2000)(hy:y<=n):(Kd (b^y)).length<=10000 :=
 Qu _ 10000 (by decide) (Nat.le_trans (Zuo b y HU (by omega)) (by decide))
theorem Zxh(w:World)(b:Nat)(hZ:2<=b)(HU:b<=97)(L:Qe w):Kc Tryz.prog 127 #[.string (dec b)] w (.int .i64 ((b.log2+1:Nat):Int)):=by
 unfold Kc;have h:=Zc8 w b (Nat.le_trans (Qez HU) (by decide)) L;rw[if_pos (by omega)] at h;have H:=hd_ h;have Hl:Hid (∀ W:World,Calls Tryz.prog 212 #[.int .u64 b] W fun e w'=>e = .returned (.int .i64 ((b.log2+1:Nat):Int))/\w'=W):=fun W=>by
  have:=Tryz.bits_Len64 b W (by omega) (by omega)
  rw[show ((b:Nat):Int).toNat=b from rfl,Zff b (by omega) HU] at this;exact this
 clear L h;generalize dec b=s at *;generalize ((b.log2+1:Nat):Int)=r at *;go_enter Tryz.func127,Tryz.ntmps127;go_wp2_with fail;refine cm_ H.o ?_;rintro e w1 ⟨rfl,hZ⟩;have B1:=hd_ hZ;clear hZ H;go_wp2_with fail;refine cm_ (Hl.o _) ?_;rintro e w2 ⟨rfl,rfl⟩;clear Hl;go_wp2_with fail;go_ret;exact⟨rfl,B1.o⟩
theorem Zgw(W:World)(b n x y:Nat)(HU:b<=97)(hn:n<=2000)(hx:x<=n)(hy:y<=n)(a1 a2:OA_)(c1 c2:Nat)(h1:Kx W a1 (Kd (b^x)))(h2:Kx W a2 (Kd (b^y))):
  Calls Tryz.prog 129 #[.slice a1 (Kd (b^x)).length c1,.slice a2 (Kd (b^y)).length c2] W fun e w'=>∃ a c,e = .returned (.slice a (Kd (b^(x+y))).length c)/\Kx w' a (Kd (b^(x+y)))/\Bw_ W w':=by
 have l1:=Zks b n x HU hn hx;have l2:=Zks b n y HU hn hy;refine cm_ (Zd7 W a1 a2 c1 c2 _ _ h1 h2 (Kn _) (Kn _) (by omega) (by omega)) ?_;rintro e w' ⟨a,c,rfl,ho,hb⟩;rw[Kp,Kp,<- Nat.pow_add] at *
 exact⟨a,c,rfl,ho.reads,hb⟩
theorem Zsg(w:World)(b n:Nat)(hZ:2<=b)(HU:b<=97)(hn:n<=2000)(L:Qe w):Kc Tryz.prog 51 #[.string (dec b),.int .i64 n] w (.tuple #[.string (dec (b^n)),.int .i64 0]):=by
 unfold Kc;have hz:=Yh b;have ho:=Zeh b;rw[decide_eq_false (by omega)] at hz ho;have Hb:Hid (∀ W,Bw_ w W->Kc Tryz.prog 127 #[.string (dec b)] W (.int .i64 ((b.log2+1:Nat):Int))):=fun W hW=>Zxh W b hZ HU (L.below hW)
 have Hc:Hid (∀ W,Zc4 128 #[.string (dec b)] W (b^1)):=fun W=>by rw[Nat.pow_one];exact Zxw W b (Qez HU)
 have Hs:=hd_ (Zuo b n HU hn);clear L
 by_cases h0:n=0
 ·subst h0;have Hv:Hid (dec (b^0)=⟨#[49]⟩):=by show _=_;rw[Nat.pow_zero,Zt]
  generalize dec (b^0)=vv at *;clear Hb Hc hn;generalize dec b=s at *;go_enter Tryz.func51,Tryz.ntmps51;go_wp2_with fail
  go_ret2
  exact⟨by rw[Hv.o];rfl,Below.refl _ _⟩
 ·have ES:((n:Int)==0)=false:=by rw[beq_eq_false_iff_ne];omega
  have FK:¬ (n:Int)<0:=by omega
  have fE:1<=b.log2:=by
   have:=(Nat.le_log2 (n:=b) (k:=1) (by omega)).2 (by omega)
   omega
  have Fs:b.log2<=6:=by
   have:=(Nat.log2_lt (n:=b) (k:=7) (by omega)).2 (by omega)
   omega
  have cW:IntKind.i64.wrap (((b.log2+1:Nat):Int)-1)=(b.log2:Int):=by rw[show ((b.log2+1:Nat):Int)-1=(b.log2:Int) by omega];exact iw_ _ (by omega)
  have Mj:((b.log2:Int)==0)=false:=by rw[beq_eq_false_iff_ne];omega
  have Bs:Int.tdiv 66439 (b.log2:Int)=66439/(b.log2:Int):=Int.tdiv_eq_ediv_of_nonneg (by decide);have dx:(2000:Int)<=66439/(b.log2:Int):=by rw[Int.le_ediv_iff_mul_le (by omega)];omega
  have pS:66439/(b.log2:Int)<=66439:=Int.ediv_le_self _ (by decide);have od:¬ 66439/(b.log2:Int)<n:=by omega
  have NL:IntKind.i64.wrap (66439/(b.log2:Int))=66439/(b.log2:Int):=iw_ _ (by omega);unfold Zc4 at Hc;obtain⟨vv,el⟩:∃ s,dec (b^n)=s:=⟨_,rfl⟩;have fZ:=hd_ el;rw[el] at Hs ⊢;clear el;generalize dec b=s at *;go_enter Tryz.func51,Tryz.ntmps51;go_wp2_with fail;refine cm_ (Hb.o _ (Below.refl _ _)) ?_;rintro e w1 ⟨rfl,hZ⟩;have B1:=hd_ hZ;clear hZ Hb;go_wp2_with fail;have B2:=hd_ (B1.o.alloc B1.o.size (.cells #[.int .u64 1] 204));have R1:Hid (Kx (w1.alloc (.cells #[.int .u64 1] 204)) (some ⟨w1.heap.size,0,none⟩) (Kd 1)):=Zi5 (Go.heap_alloc_new w1 _);generalize w1.alloc (.cells #[.int .u64 1] 204)=w2 at *;clear B1;refine cm_ (Hc.o _) ?_;rintro e w3 ⟨a3,c3,rfl,ho,hb⟩;have B3:=bt_ B2 hb;have R2:=hd_ ho.reads;replace R1:=hd_ (R1.o.below hb nr_);clear hb ho Hc B2;have gG:Hid ((Kd 1).length=1):=hd_ (by decide +kernel);go_wp2_with fail
  go_loopw [1,7,8] (fun m o q wr=>∃ (k x y:Nat) (a1 a2:OA_) (c1 c2:Nat),m = .int .i64 k/\k<=n/\o = .slice a1 (Kd (b^x)).length c1/\q = .slice a2 (Kd (b^y)).length c2/\Hid (x+y*k=n)/\Hid (y<=n)/\Hid (Kx wr a1 (Kd (b^x)))/\Hid (Kx wr a2 (Kd (b^y)))/\Hid (Bw_ w wr)) (fun m _ _ _=>(intOf m).toNat)
  case atStart =>
   refine⟨n,0,1,some ⟨w1.heap.size,0,none⟩,a3,1,c3,rfl,Nat.le_refl _,by rw[Nat.pow_zero,gG.o],by rw[Nat.pow_one],?_,?_,R1,R2,B3⟩
   ·show _=_;omega
   ·show _<=_;omega
  case round =>
   clear R1 R2 B3;obtain⟨k,x,y,a1,a2,c1,c2,rfl,hk,rfl,rfl,Hxy,Hy,R1,R2,B⟩:=hrel;have Hx:Hid (x<=n):=by show _<=_;have:=Hxy.o;omega
   by_cases Ee:k=0
   ·subst Ee;have FW:¬ (0:Int)<((0:Nat):Int):=by omega
    have bz:Hid (x=n):=by show _=_;have:=Hxy.o;omega
    rw[bz.o] at R1 ⊢;have iQ:Hid (Kc Tryz.prog 130 #[.slice a1 (Kd (b^n)).length c1] wr (.string vv)):=by
     have:=Zan wr a1 c1 (b^n) R1.o (by have:=Zks b n n HU hn nr_;omega)
     rw[fZ.o] at this;exact this
    have Ge:¬ (20000:Int)<vv.size:=by have:=Hs.o;omega
    go_wp2_with fail;refine cm_ iQ.o ?_;rintro e w9 ⟨rfl,hb⟩;have B9:=bt_ B hb;clear hb iQ;go_wp2_with fail
    go_ret2
    exact⟨rfl,B9.o⟩
   ·have FW:(0:Int)<k:=by omega
    have hb:=Zxm k (by omega)
    by_cases hodd:k%2=1
    ·rw[decide_eq_true hodd] at hb;have Ht:Hid (Calls Tryz.prog 129 #[.slice a1 (Kd (b^x)).length c1,.slice a2 (Kd (b^y)).length c2] wr fun e w'=>∃ a c,e = .returned (.slice a (Kd (b^(x+y))).length c)/\Kx w' a (Kd (b^(x+y)))/\Bw_ wr w'):=Zgw wr b n x y HU hn Hx.o Hy.o a1 a2 c1 c2 R1.o R2.o;go_wp2_with fail;refine cm_ Ht.o ?_;rintro e w5 ⟨a5,c5,rfl,r5,hb5⟩;have B5:=bt_ B hb5;replace R1:=hd_ r5;replace R2:=hd_ (R2.o.below hb5 nr_);clear hb5 r5 B Ht
     by_cases GK:1<k
     ·have eA:(1:Int)<k:=by omega
      have Ev:Hid (x+y+(y+y)*(k/2)=n):=by
       show _=_
       have h1:=Hxy.o;obtain⟨h,rfl⟩:∃ h,k=2*h+1:=⟨k/2,by omega⟩;rw[show (2*h+1)/2=h by omega,Nat.add_mul];rw[Nat.mul_add,Nat.mul_left_comm] at h1;omega
      have Ht:Hid (Calls Tryz.prog 129 #[.slice a2 (Kd (b^y)).length c2,.slice a2 (Kd (b^y)).length c2] w5 fun e w'=>∃ a c,e = .returned (.slice a (Kd (b^(y+y))).length c)/\Kx w' a (Kd (b^(y+y)))/\Bw_ w5 w'):=Zgw w5 b n y y HU hn Hy.o Hy.o a2 a2 c2 c2 R2.o R2.o;go_wp2_with fail;refine cm_ Ht.o ?_;rintro e w6 ⟨a6,c6,rfl,r6,hb6⟩;have B6:=bt_ B5 hb6;replace R2:=hd_ r6;replace R1:=hd_ (R1.o.below hb6 nr_);clear hb6 r6 B5 Ht;go_wp2_with fail
      go_roundw
      case rel =>
       refine⟨k/2,x+y,y+y,_,_,_,_,by go_num,by omega,rfl,rfl,Ev,?_,R1,R2,B6⟩
       show _<=_
       have:=Hxy.o
       have h2:y*2<=y*k:=Nat.mul_le_mul_left _ (by omega);omega
      case measure=>simp[intOf];omega
     ·have eA:¬ (1:Int)<k:=by omega
      go_wp2_with fail
      go_roundw
      case rel =>
       refine⟨k/2,x+y,y,_,_,_,_,by go_num,by omega,rfl,rfl,?_,Hy,R1,R2,B5⟩
       show _=_
       have:=Hxy.o
       have e1:k=1:=by omega
       subst e1;have e2:(1/2:Nat)=0:=rfl;rw[e2];omega
      case measure=>simp[intOf];omega
    ·rw[decide_eq_false hodd] at hb
     by_cases GK:1<k
     ·have eA:(1:Int)<k:=by omega
      have Ev:Hid (x+(y+y)*(k/2)=n):=by
       show _=_
       have h1:=Hxy.o;obtain⟨h,rfl⟩:∃ h,k=2*h:=⟨k/2,by omega⟩;rw[show (2*h)/2=h by omega,Nat.add_mul];rw[Nat.mul_left_comm] at h1;omega
      have Ht:Hid (Calls Tryz.prog 129 #[.slice a2 (Kd (b^y)).length c2,.slice a2 (Kd (b^y)).length c2] wr fun e w'=>∃ a c,e = .returned (.slice a (Kd (b^(y+y))).length c)/\Kx w' a (Kd (b^(y+y)))/\Bw_ wr w'):=Zgw wr b n y y HU hn Hy.o Hy.o a2 a2 c2 c2 R2.o R2.o;go_wp2_with fail;refine cm_ Ht.o ?_;rintro e w6 ⟨a6,c6,rfl,r6,hb6⟩;have B6:=bt_ B hb6;replace R2:=hd_ r6;replace R1:=hd_ (R1.o.below hb6 nr_);clear hb6 r6 B Ht;go_wp2_with fail
      go_roundw
      case rel =>
       refine⟨k/2,x,y+y,_,_,_,_,by go_num,by omega,rfl,rfl,Ev,?_,R1,R2,B6⟩
       show _<=_
       have:=Hxy.o
       have h2:y*2<=y*k:=Nat.mul_le_mul_left _ (by omega);omega
      case measure=>simp[intOf];omega
     ·omega
def zl (ps xs:List Int):List (Int×Int):=ps.zip xs
theorem Qbp(x:Int):LN.ex 1 (x:Rat)=x:=by
 unfold LN.ex;rw[Rat.num_intCast,Rat.den_intCast];simp
theorem Qd1{p:Int}(h:p∈Zia):2<=p/\p<=97:=by
 have gS:∀ q∈Zia,2<=q/\q<=97:=by decide
 exact gS p h
structure Qeb (ps:List Int):Prop where
 p0:Qz ps=0
 all:∀ p∈ps,p∈Zia
 nd:ps.Nodup
 n0:0<ps.length
 n6:ps.length<=6
theorem Qeb.pr{ps:List Int}(P:Qeb ps):∀ p∈ps,2<=p/\p<=97:=fun p hp=>Qd1 (P.all p hp)
theorem Qeb.pos{ps:List Int}(P:Qeb ps):∀ p∈ps,0<p:=fun p hp=>by have:=P.pr p hp;omega
theorem Qeb.i64{ps:List Int}(P:Qeb ps):Zlo ps:=fun p hp=>by have:=P.pr p hp;omega
def rq (x:List Int):List Rat:=x.map fun x:Int=>(x:Rat)
def Qge (x y:List Int):List Int:=List.zipWith (fun a b=>a-b) x y
def Bd (N:Nat) (x:List Int):Prop:=∀ a∈x,a.natAbs<=N
theorem Bd.le{N K:Nat}{x:List Int}(h:Bd N x)(hK:N<=K):Bd K x:=fun a ha=>Nat.le_trans (h a ha) hK
theorem Bd.sm{N D:Nat}{x:List Int}(h:Bd N x)(hD:N<10^D)(h1:1<10^D):∀ q∈rq x,Sm D q:=fun q hq=>by
 obtain⟨a,ha,rfl⟩:=List.mem_map.1 hq;exact⟨by rw[Rat.num_intCast];exact Nat.lt_of_le_of_lt (h a ha) hD,by rw[Rat.den_intCast];exact h1⟩
theorem Bd.sub{N K:Nat}{x y:List Int}(h:Bd N x)(k:Bd K y):Bd (N+K) (Qge x y):=fun a ha=>by
 obtain⟨i,hi,rfl⟩:=List.mem_iff_getElem.1 ha;have EW:i<x.length/\i<y.length:=by simp[Qge] at hi;omega
 simp only[Qge,List.getElem_zipWith];have h1:=h _ (List.getElem_mem EW.1);have h2:=k _ (List.getElem_mem EW.2);omega
def Zli (p n:Int):Int:=if Zty p then (if n<0\/1000<n then 3 else 0) else 25
theorem Qfj{p:Int}(h:Zty p):2<=p/\p<=97:=by
 obtain⟨h0,h1,h2,-⟩:=h;omega
theorem Zh1(w:World)(p n:Int)(p0 : -9223372036854775808<=p)(p1:p<=9223372036854775807)(n0 : -9223372036854775808<=n)(n1:n<=9223372036854775807):
  Kc Tryz.prog 185 #[.int .i64 p,.int .i64 n] w (.int .i64 (Zli p n)):=by
 unfold Kc;have HP:=hd_ (Zfr w p p0 p1)
 by_cases h:Zty p
 ·rw[decide_eq_true h] at HP;have Hv:Hid (Zli p n=if n<0\/1000<n then 3 else 0):=by show _=_;unfold Zli;rw[if_pos h]
  generalize Zli p n=v at *;clear h
  by_cases h1:n<0
  ·have eP:Hid (v=3):=by show _=_;rw[Hv.o,if_pos (.inl h1)]
   clear Hv;go_enter Tryz.func185,Tryz.ntmps185;go_wp2_with fail;refine cm_ HP.o ?_;rintro e w1 ⟨rfl,hb⟩;have B1:=hd_ hb;clear hb HP;go_wp2_with fail;go_ret;exact⟨by rw[eP.o];rfl,B1.o⟩
  ·by_cases h2:1000<n
   ·have eP:Hid (v=3):=by show _=_;rw[Hv.o,if_pos (.inr h2)]
    clear Hv;go_enter Tryz.func185,Tryz.ntmps185;go_wp2_with fail;refine cm_ HP.o ?_;rintro e w1 ⟨rfl,hb⟩;have B1:=hd_ hb;clear hb HP;go_wp2_with fail;go_ret;exact⟨by rw[eP.o];rfl,B1.o⟩
   ·have eP:Hid (v=0):=by show _=_;rw[Hv.o,if_neg (by omega)]
    clear Hv;go_enter Tryz.func185,Tryz.ntmps185;go_wp2_with fail;refine cm_ HP.o ?_;rintro e w1 ⟨rfl,hb⟩;have B1:=hd_ hb;clear hb HP;go_wp2_with fail;go_ret;exact⟨by rw[eP.o];rfl,B1.o⟩
 ·rw[decide_eq_false h] at HP;have eP:Hid (Zli p n=25):=by show _=_;unfold Zli;rw[if_neg h]
  generalize Zli p n=v at *;clear h;go_enter Tryz.func185,Tryz.ntmps185;go_wp2_with fail;refine cm_ HP.o ?_;rintro e w1 ⟨rfl,hb⟩;have B1:=hd_ hb;clear hb HP;go_wp2_with fail;go_ret;exact⟨by rw[eP.o];rfl,B1.o⟩
def Qd9 (p n:Int) (s:ByteArray):Value := .agg #[.int .i64 p,.int .i64 n,.string s]
theorem Zqm(w:World)(n:Nat)(hn:n<=4000)(L:Qe w):Kc Tryz.prog 203 #[.int .i64 n] w (.string (dec (2^n))):=by
 unfold Kc;have HP:=hd_ (Qgc w n hn L);generalize dec (2^n)=s at *;go_enter Tryz.func203,Tryz.ntmps203;go_wp2_with fail;refine cm_ HP.o ?_;rintro e w1 ⟨rfl,hb⟩;have B1:=hd_ hb;clear hb HP;go_wp2_with fail;go_ret;exact⟨rfl,B1.o⟩
theorem Zbc{w0 w:World}{B g:Nat}{a b c:Value}(x y z:Value)(k0:w.cell? ⟨g,0,none⟩=some a)(k1:w.cell? ⟨g,1,none⟩=some b)(k2:w.cell? ⟨g,2,none⟩=some c)(hB:B<=g)(hb:Below B w0 w):
  (((w.setCell ⟨g,0,none⟩ x).setCell ⟨g,1,none⟩ y).setCell ⟨g,2,none⟩ z).cell? ⟨g,0,none⟩=some x/\(((w.setCell ⟨g,0,none⟩ x).setCell ⟨g,1,none⟩ y).setCell ⟨g,2,none⟩ z).cell? ⟨g,1,none⟩=some y/\(((w.setCell ⟨g,0,none⟩ x).setCell ⟨g,1,none⟩ y).setCell ⟨g,2,none⟩ z).cell? ⟨g,2,none⟩=some z /\
  Below B w0 (((w.setCell ⟨g,0,none⟩ x).setCell ⟨g,1,none⟩ y).setCell ⟨g,2,none⟩ z):=by
 refine⟨?_,?_,?_,?_⟩
 ·rw[World.cell?_setCell_other _ _ _ _ (by simp),World.cell?_setCell_other _ _ _ _ (by simp),World.cell?_setCell_same _ _ _ k0]
 ·rw[World.cell?_setCell_other _ _ _ _ (by simp),World.cell?_setCell_same _ _ _ (by rw[World.cell?_setCell_other _ _ _ _ (by simp)];exact k1)]
 ·rw[World.cell?_setCell_same _ _ _ (by rw[World.cell?_setCell_other _ _ _ _ (by simp),World.cell?_setCell_other _ _ _ _ (by simp)];exact k2)]
 ·exact((hb.setCell (p:=⟨g,0,none⟩) hB x).setCell (p:=⟨g,1,none⟩) hB y).setCell (p:=⟨g,2,none⟩) hB z
theorem Qfw(w:World)(p n:Nat)(hp:p=2\/p∈Zbv)(F':Zty p)(hn:n<=1000)(L:Qe w):
  Kc Tryz.prog 105 #[.int .i64 p,.int .i64 n] w (.tuple #[Qd9 p n (dec (lgN p n)),.int .i64 0]):=by
 unfold Kc Qd9;have gl:=hd_ ((Below.refl w.heap.size w).alloc nr_ (.cells #[.int .i64 0,.int .i64 0,.string ⟨#[]⟩] 124));have ge:Hid ((w.alloc (.cells #[.int .i64 0,.int .i64 0,.string ⟨#[]⟩] 124)).heap[w.heap.size]?=some (.cells #[.int .i64 0,.int .i64 0,.string ⟨#[]⟩] 124 (0,0))):=heap_alloc_new w _;have jM:=Qfj F';have HC:=hd_ (fun W=>Zh1 W p n (by omega) (by omega) (by omega) (by omega));have Gj:Zli p n=0:=by unfold Zli;rw[if_pos F',if_neg (by omega)]
 rw[Gj] at HC;have nY:=hd_ (fun W (hW:Bw_ w W)=>Zra W p n hp hn (L.below hW));clear Gj hp F' L jM hn;generalize dec (lgN p n)=s at *;go_enter Tryz.func105,Tryz.ntmps105;go_wp2_with fail;generalize w.alloc (.cells #[.int .i64 0,.int .i64 0,.string ⟨#[]⟩] 124)=W0 at *;refine cm_ (HC.o _) ?_;rintro e w1 ⟨rfl,hb⟩;have B1:=hd_ hb;have am:=bt_ gl hb;clear hb HC;go_wp2_with fail;refine cm_ (nY.o _ am.o) ?_;rintro e w2 ⟨rfl,hb⟩;have B2:=bt_ B1 hb;have gm:Hid (w2.heap[w.heap.size]?=some (.cells #[.int .i64 0,.int .i64 0,.string ⟨#[]⟩] 124 (0,0))):=by
  show _=_
  rw[B2.o.block _ (Array.getElem?_eq_some_iff.1 ge.o).1];exact ge.o
 have gK:=bt_ am hb;obtain⟨k0,k1,k2,kf⟩:=Kf gm.o;have f0:=kf 0;have f1:=kf 1;have f2:=kf 2;clear hb nY kf gm ge gl B1 B2 am;go_wp2;obtain⟨c0,c1,c2,hb3⟩:=Zbc (.int .i64 p) (.int .i64 n) (.string s) k0 k1 k2 nr_ gK.o;generalize ((w2.setCell ⟨w.heap.size,0,none⟩ (.int .i64 p)).setCell ⟨w.heap.size,1,none⟩ (.int .i64 n)).setCell ⟨w.heap.size,2,none⟩ (.string s)=w9 at *;exact bodyPost_ret (v := .tuple #[.agg #[.int .i64 p,.int .i64 n,.string s],.int .i64 0]) (by simp[results,Tryz.results105,go_sem,c0,c1,c2]) rfl ⟨rfl,hb3⟩
theorem Zq7(n:Nat):∀ (ps:List Int) (l:List Rat) (p:Int) (c:Rat),ps.length=l.length ->
  loE n (ps++[p]) (l++[c])=loE n ps l+Zii (c*xE p n) (c*yE p n)/\hiE n (ps++[p]) (l++[c])=hiE n ps l+Zij (c*xE p n) (c*yE p n)
 | [],[],p,c,_=>by
  show _+(0:Rat)=0+_/\_+(0:Rat)=0+_
  rw[Rat.add_zero,Rat.zero_add,Rat.add_zero,Rat.zero_add];exact⟨rfl,rfl⟩
 | [],_::_,_,_,h=>by simp at h
 | _::_,[],_,_,h=>by simp at h
 | q::ps,d::l,p,c,h=>by
  obtain⟨i1,i2⟩:=Zq7 n ps l p c (by simpa using h);simp only[List.cons_append,loE,hiE];rw[i1,i2,Rat.add_assoc,Rat.add_assoc];exact⟨rfl,rfl⟩
theorem Zm5(n:Nat)(ps:List Int)(l:List Rat)(k:Nat)(h:l.length=ps.length)(h1:k<ps.length)(h2:k<l.length):
  loE n (ps.take (k+1)) (l.take (k+1))=loE n (ps.take k) (l.take k)+Zii (l[k]*xE ps[k] n) (l[k]*yE ps[k] n) /\
  hiE n (ps.take (k+1)) (l.take (k+1))=hiE n (ps.take k) (l.take k)+Zij (l[k]*xE ps[k] n) (l[k]*yE ps[k] n):=by
 have e1:ps.take (k+1)=ps.take k++[ps[k]]:=by rw[List.take_add_one,List.getElem?_eq_getElem h1];rfl
 have e2:l.take (k+1)=l.take k++[l[k]]:=by rw[List.take_add_one,List.getElem?_eq_getElem h2];rfl
 rw[e1,e2];exact Zq7 n _ _ _ _ (by simp;omega)
theorem Zwr(n:Nat)(p:Int):Zii ((0:Rat)*xE p n) (0*yE p n)=0/\Zij ((0:Rat)*xE p n) (0*yE p n)=0:=by
 rw[Rat.zero_mul,Rat.zero_mul];exact⟨rfl,rfl⟩
theorem Zhe{D:Nat}{a b:Rat}(ha:Sm D a)(hb:Sm D b):Sm D (Zii a b):=by unfold Zii;split<;>assumption
theorem Zhf{D:Nat}{a b:Rat}(ha:Sm D a)(hb:Sm D b):Sm D (Zij a b):=by unfold Zij;split<;>assumption
theorem Ziu(n D:Nat)(h:n<=3*D):2^n<=10^D:=by
 refine Nat.le_trans (Nat.pow_le_pow_right (by decide) h) ?_;rw[Nat.pow_mul];exact Nat.pow_le_pow_left (by decide) D
theorem Qee{p:Int}{n:Nat}(hp:∃ q:Nat,p=q/\(q=2\/q∈Zbv))(hn:n<=1056):Sm 355 (xE p n)/\Sm 355 (yE p n):=by
 obtain⟨h1,h2⟩:=Qgk hp hn;obtain⟨D,hD⟩:∃ D,D=354:=⟨_,rfl⟩;have e:2^(n+3)<=10^D:=Ziu _ _ (by omega);have e2:2^n<=10^D:=Ziu _ _ (by omega);have e3:(10:Nat)^(D+1)=10^D*10:=Nat.pow_succ ..;have h0:0<(10:Nat)^D:=Nat.pow_pos (by decide);have E0:lgN p n<2^(n+3):=h1;rw[show 355=D+1 by omega];unfold xE yE
 by_cases h:p=2
 ·rw[if_pos h,if_pos h];have:Sm 1 (1:Rat):=⟨by decide,by decide⟩
  exact⟨this.le (by omega),this.le (by omega)⟩
 ·rw[if_neg h,if_neg h];generalize 10^D=T at *;generalize 2^(n+3)=U at *;have hz:2^n≠0:=Nat.ne_of_gt (Nat.two_pow_pos n);exact⟨Sm.mk' hz (by rw[Int.natAbs_natCast,e3];omega) (by rw[e3];omega),Sm.mk' hz (by rw[Int.natAbs_natCast,e3];omega) (by rw[e3];omega)⟩
theorem Zo3{D n:Nat}(hn:n<=1056){ps:List Int}{l:List Rat}(hp:∀ p∈ps,∃ q:Nat,p=q/\(q=2\/q∈Zbv))(hl:l.length=ps.length)(hs:∀ q∈l,Sm D q):
  ∀ k,k<=ps.length->Sm (1+k*(D+356)) (loE n (ps.take k) (l.take k))/\Sm (1+k*(D+356)) (hiE n (ps.take k) (l.take k))
 | 0,_=>by
  have:Sm 1 (0:Rat):=⟨by decide,by decide⟩
  rw[Nat.zero_mul];exact⟨this,this⟩
 | k+1,h=>by
  obtain⟨i1,i2⟩:=Zo3 hn hp hl hs k (by omega);obtain⟨e1,e2⟩:=Zm5 n ps l k hl (by omega) (by omega);obtain⟨s1,s2⟩:=Qee (hp _ (List.getElem_mem (show k<ps.length by omega))) hn;have hc:=hs _ (List.getElem_mem (show k<l.length by omega));rw[e1,e2,show 1+(k+1)*(D+356)=1+k*(D+356)+(D+355)+1 by rw[Nat.add_mul];omega];exact⟨i1.add (Zhe (hc.mul s1) (hc.mul s2)),i2.add (Zhf (hc.mul s1) (hc.mul s2))⟩
/-! The least number of bits. -/
structure Za8 (T:Nat->Bool) (n:Nat):Prop where
 at_:T n=true
 low:n=0\/T (n-1)=false
 le:n<=1000
theorem Zpz{T:Nat->Bool}(hm:∀ n,n<1000->T n=true->T (n+1)=true):∀ d n,n+d<=1000->T n=true->T (n+d)=true
 | 0,_,_,h=>h
 | d+1,n,hd,h=>hm (n+d) (by omega) (Zpz hm d n (by omega) h)
theorem Za8.uniq{T:Nat->Bool}(hm:∀ n,n<1000->T n=true->T (n+1)=true){n m:Nat}(h1:Za8 T n)(h2:Za8 T m):n=m:=by
 have gS:∀ a b,Za8 T a->Za8 T b->¬ a<b:=fun a b ha hb hc=>by
  have h3:=Zpz hm (b-1-a) a (by have:=hb.le;omega) ha.at_;rw[show a+(b-1-a)=b-1 by omega] at h3;rcases hb.low with h4|h4
  ·omega
  ·rw[h3] at h4;cases h4
 have:=gS n m h1 h2
 have:=gS m n h2 h1
 omega
def Zv0 (B:Nat) (ps:List Int) (l:List Rat):List ByteArray:=(ps.zip l).map fun x=>if x.2.num=0 then ⟨#[]⟩ else dec (lgN x.1 B)
theorem Yp(B:Nat)(ps:List Int)(l:List Rat)(h:l.length=ps.length):(Zv0 B ps l).length=ps.length:=by
 unfold Zv0;rw[List.length_map,List.length_zip,h,Nat.min_self]
theorem Zqw(B:Nat)(ps:List Int)(l:List Rat)(h:l.length=ps.length)(k:Nat)(h1:k<ps.length)(h2:k<l.length):(Zv0 B ps l).getD k ⟨#[]⟩=if l[k].num=0 then ⟨#[]⟩ else dec (lgN ps[k] B):=by
 unfold Zv0;rw[List.getD_eq_getElem?_getD,List.getElem?_map,List.getElem?_eq_getElem (by rw[List.length_zip];omega),List.getElem_zip];rfl
structure LgS (w:World) (R:Nat) (ps:List Int) (l:List Rat) (B:Nat) (a0:OA_) (c0:Nat) (a1:OA_) (c1:Nat) (a2:OA_) (c2:Nat):Prop where
 ob:w.heap[R]?=some (.cells #[.slice a0 ps.length c0,.slice a1 ps.length c1,.int .i64 B,.slice a2 ps.length c2] 197 (0,0))
 rp:Rd w a0 (Vk ps)
 rl:Rd w a1 (Kk l)
 rs:Rd w a2 (Zdp (Zv0 B ps l))
theorem LgS.below{w w':World}{R:Nat}{ps:List Int}{l:List Rat}{B:Nat}{a0 a1 a2:OA_}{c0 c1 c2:Nat}(h:LgS w R ps l B a0 c0 a1 c1 a2 c2)(hb:Bw_ w w'):LgS w' R ps l B a0 c0 a1 c1 a2 c2 :=
 ⟨by rw[hb.block R (Array.getElem?_eq_some_iff.1 h.ob).1];exact h.ob,h.rp.below hb nr_,h.rl.below hb nr_,h.rs.below hb nr_⟩
def Zpu (w:World) (R:Nat) (ps:List Int) (l:List Rat) (B:Nat):Prop:=∃ a0 c0 a1 c1 a2 c2,LgS w R ps l B a0 c0 a1 c1 a2 c2
theorem Zpu.below{w w':World}{R:Nat}{ps:List Int}{l:List Rat}{B:Nat}(h:Zpu w R ps l B)(hb:Bw_ w w'):Zpu w' R ps l B:=by
 obtain⟨a0,c0,a1,c1,a2,c2,S⟩:=h;exact⟨a0,c0,a1,c1,a2,c2,S.below hb⟩
theorem Ze5{w:World}{g:Nat}{a b c d:Value}{t:TypeId}(h:w.heap[g]?=some (.cells #[a,b,c,d] t (0,0))):
  w.cell? ⟨g,0,none⟩=some a/\w.cell? ⟨g,1,none⟩=some b/\w.cell? ⟨g,2,none⟩=some c/\w.cell? ⟨g,3,none⟩=some d/\(∀ j,w.frozen? ⟨g,j,none⟩=false):=by
 refine⟨by rw[cell_of_row w g 0 _ t (0,0) h];rfl,by rw[cell_of_row w g 1 _ t (0,0) h];rfl,by rw[cell_of_row w g 2 _ t (0,0) h];rfl,by rw[cell_of_row w g 3 _ t (0,0) h];rfl,fun j=>?_⟩;simp[World.frozen?,h]
theorem Zj9(l:List ByteArray)(j:Nat)(h:j<l.length):(Zdp l)[j]?=some (.string (l.getD j ⟨#[]⟩)):=by
 simp[Zdp,List.getD_eq_getElem?_getD,h]
theorem Qbt(w:World)(R:Nat)(ps:List Int)(l:List Rat)(B b k:Nat)(H:Zpu w R ps l B)(hl:l.length=ps.length)(hn:ps.length<=100)(hk:k<ps.length)(gU:k<l.length)(hp:∃ q:Nat,ps[k]=q/\(q=2\/q∈Zbv))(hz:l[k].num≠0)(hb:b<=B)(hB:B<=1000)(L:Qe w):
  Kc Tryz.prog 136 #[.pointer (some ⟨R,0,none⟩),.int .i64 k,.int .i64 b] w (.string (dec (lgN ps[k] b))):=by
 unfold Kc;obtain⟨a0,c0,a1,c1,a2,c2,S⟩:=H;obtain⟨k0,k1,k2,k3,-⟩:=Ze5 S.ob;have gd:=Yp B ps l hl;obtain⟨b2,o2,rfl,HU,GM⟩:=S.rs.open (by rw[Zp,gd];omega);have ct:=GM k _ (Zj9 _ k (by rw[gd];exact hk));rw[Zqw B ps l hl k hk gU,if_neg hz] at ct;obtain⟨q,hq,fk⟩:=hp;rw[hq] at ct ⊢;have hcut:lgN q B/2^(B-b)=lgN q b:=by
  have:=Zhl fk (B-b) (n:=b) (by omega)
  rwa [show b+(B-b)=B by omega] at this
 have hw:IntKind.i64.wrap ((B:Int)-b)=((B-b:Nat):Int):=by rw[show (B:Int)-b=((B-b:Nat):Int) by omega];exact iw_ _ (by omega)
 have HP:=hd_ (fun W (hW:Bw_ w W)=>Zqm W (B-b) (by omega) (L.below hW));have H7:lgN q B<2^K10:=by
  refine Nat.lt_trans (Zv5 fk (by omega)) ?_;refine Nat.lt_of_lt_of_le (Nat.mul_lt_mul_of_pos_right (show 7<2^3 by decide) (Nat.two_pow_pos B)) ?_;rw[<- Nat.pow_add];exact Nat.pow_le_pow_right (by decide) (by rw[k10];omega)
 have HD:=hd_ (fun W (hW:Bw_ w W)=>Qhr W (lgN q B) (2^(B-b)) K10 (by decide) H7 (Nat.pow_lt_pow_right (by decide) (by rw[k10];omega)) (Nat.two_pow_pos _) (L.below hW));rw[hcut] at HD;have Ma:k<100:=by omega
 clear hcut H7 S gd GM L hz hl gU fk hq;generalize dec (lgN q B)=s at *;generalize dec (lgN q b)=s2 at *;generalize dec (lgN q B%2^(B-b))=s3 at *;generalize dec (2^(B-b))=s4 at *;generalize B-b=m at *;generalize ps.length=n at *;have q0:=NW.cell k3;have q1:=NW.cell k2;have q2:=NW.cell ct;have gn:Nonempty (NW w):=⟨⟨w,Below.refl _ _⟩⟩;have I:Hid (Bw_ w w.drew):=(Below.refl _ _).drew;clear k0 k1 k2 k3 ct;go_enter Tryz.func136,Tryz.ntmps136;go_wp2_with fail;refine wn_ 14 [(2,0),(2,1),(2,2),(1,3),(2,4),(2,5),(1,6),(2,7),(2,8),(2,9),(1,10),(2,11),(2,12),(0,13),(0,14),(2,15),(2,16),(2,17),(2,18),(2,19),(2,20),(2,21)] I ?_;iterate 3 (refine wa_ rfl ?_;go_big_quiet_step (fail);refine wq_ ?_)
 refine wr_ rfl ?_;go_big_quiet_step (fail);refine wq_ ?_;iterate 2 (refine wa_ rfl ?_;go_big_quiet_step (fail);refine wq_ ?_)
 refine wr_ rfl ?_;go_big_quiet_step (fail);refine wq_ ?_;iterate 3 (refine wa_ rfl ?_;go_big_quiet_step (fail);refine wq_ ?_)
 refine wr_ rfl ?_;go_big_quiet_step (fail);refine wq_ ?_;iterate 2 (refine wa_ rfl ?_;go_big_quiet_step (fail);refine wq_ ?_)
 clear gn q0 q1 q2;refine wm_ rfl ?_;go_wp2_with fail;refine cm_ (HP.o _ I.o) ?_;rintro e w1 ⟨rfl,hZ⟩;have I1:Hid (Bw_ w w1):=I.o.trans (hZ.mono I.o.size);clear hZ I HP;go_wp2_with fail;refine⟨⟨⟨_,I1.o⟩,rfl⟩,?_⟩;refine wm_ rfl ?_;go_wp2_with fail;refine cm_ (HD.o _ I1.o) ?_;rintro e w2 ⟨rfl,hZ⟩;have I2:Hid (Bw_ w w2):=I1.o.trans (hZ.mono I1.o.size);clear hZ I1 HD;go_wp2_with fail;iterate 7 (refine wa_ rfl ?_;go_big_quiet_step (fail);refine wq_ ?_)
 simp only[RP.walkR];go_wp2_with fail;go_ret;exact⟨rfl,I2.o⟩
def Zfj (w:World) (B:Nat) (a:OA_) (c:Nat) (l:List ByteArray):Prop:=w.ownsRow B 38 1 (.slice a l.length c) l.length (Zdp l)
theorem Qe0(n:Nat)(w:World)(hn:n<=10000000):
  (Instr.makeSlice 144 (.int .i64 (n:Int)) (.int .i64 (n:Int))).run Tryz.prog w = .ok (.slice (some ⟨w.heap.size,0,none⟩) n n) (w.alloc (.cells (Zdp (List.replicate n ⟨#[]⟩)).toArray 38)):=by
 have:=run_make_row' (P:=Tryz.prog) 144 38 (.string ⟨#[]⟩) 16 Tryz.underlying144 Qfk rfl .i64 .i64 n (by omega) (by omega) w
 rw[show madeCells #[.string ⟨#[]⟩] n=(Zdp (List.replicate n ⟨#[]⟩)).toArray by apply Array.ext';rw[toList_madeCells_one];simp[Zdp]] at this;exact this
theorem Zvi(w:World)(l:List ByteArray)(hl:l.length<=100000000):Zfj (w.alloc (.cells (Zdp l).toArray 38)) w.heap.size (some ⟨w.heap.size,0,none⟩) l.length l :=
 ⟨by simp[Zp],.inr ⟨w.heap.size,l.length,(Zdp l).toArray,rfl,Nat.le_refl _,heap_alloc_new _ _,Nat.le_refl _,by unfold maxLen;omega,by simp[Zp],by rw[Nat.mul_one];exact List.take_of_length_le (by simp[Zp])⟩⟩
theorem Zfj.open{w:World}{B c:Nat}{a:OA_}{l:List ByteArray}(h:Zfj w B a c l)(hn:0<l.length):
  ∃ g,a=some ⟨g,0,none⟩/\B<=g/\g<w.heap.size/\l.length<=c/\(∀ j,j<l.length->w.cell? ⟨g,j,none⟩=some (.string (l.getD j ⟨#[]⟩)))/\(∀ j,w.frozen? ⟨g,j,none⟩=false):=by
 obtain⟨g,cap,hv,h1,h2,h3,h4,h5⟩:=Qy h hn;simp only[Value.slice.injEq] at hv;obtain⟨rfl,-,rfl⟩:=hv;exact⟨g,rfl,h1,h2,h3,fun j hj=>by rw[h4 j (by omega),Zj9 l j hj],h5⟩
theorem Zfj.store{w:World}{B c g:Nat}{l:List ByteArray}(h:Zfj w B (some ⟨g,0,none⟩) c l)(j:Nat)(x:ByteArray):
  Zfj (w.setCell ⟨g,j,none⟩ (.string x)) B (some ⟨g,0,none⟩) c (l.set j x):=by
 have:=(World.ownsRow.stored h j (.string x)).1
 have e:(Zdp l).set j (.string x)=Zdp (l.set j x):=by simp[Zdp,List.map_set]
 rw[e] at this;unfold Zfj;rw[List.length_set];exact this
theorem Zfj.rd{w:World}{B:Nat}{a:OA_}{c:Nat}{l:List ByteArray}(h:Zfj w B a c l):Rd w a (Zdp l):=by
 by_cases hn:0<l.length
 ·obtain⟨g,rfl,h1,h2,h3,h4,h5⟩:=h.open hn;refine .inr ⟨g,0,rfl,h2,fun i v hi=>?_⟩;have H7:=(List.getElem?_eq_some_iff.1 hi).1;rw[Zp] at H7;rw[Zj9 l i H7] at hi;rw[Nat.zero_add,<- hi];exact h4 i H7
 ·obtain rfl:=List.length_eq_zero_iff.1 (Nat.eq_zero_of_not_pos hn);exact .inl rfl
def Zop (B:Nat) (ps:List Int) (l:List Rat) (k:Nat):List ByteArray:=(Zv0 B ps l).take k++List.replicate (ps.length-k) ⟨#[]⟩
theorem Zoo(B:Nat)(ps:List Int)(l:List Rat)(h:l.length=ps.length)(k:Nat)(hk:k<=ps.length):(Zop B ps l k).length=ps.length:=by
 unfold Zop;rw[List.length_append,List.length_take,Yp B ps l h,List.length_replicate];omega
theorem Zzf(B:Nat)(ps:List Int)(l:List Rat)(h:l.length=ps.length)(k:Nat)(hk:k<ps.length):(Zop B ps l k).set k ((Zv0 B ps l).getD k ⟨#[]⟩)=Zop B ps l (k+1):=by
 have hl:((Zv0 B ps l).take k).length=k:=by rw[List.length_take,Yp B ps l h];omega
 unfold Zop;rw[List.set_append_right _ _ (by omega),hl,Nat.sub_self,List.take_add_one,List.getElem?_eq_getElem (by rw[Yp B ps l h];exact hk),show ps.length-k=(ps.length-(k+1))+1 by omega,List.replicate_succ,List.set_cons_zero,List.append_assoc];congr 1;rw[List.getD_eq_getElem?_getD,List.getElem?_eq_getElem (by rw[Yp B ps l h];exact hk)];rfl
theorem Qcx(B:Nat)(ps:List Int)(l:List Rat)(h:l.length=ps.length)(k:Nat)(hk:k<ps.length):(Zop B ps l k).getD k ⟨#[]⟩=⟨#[]⟩:=by
 have hl:((Zv0 B ps l).take k).length=k:=by rw[List.length_take,Yp B ps l h];omega
 unfold Zop;rw[List.getD_eq_getElem?_getD,List.getElem?_append_right (by omega),hl,List.getElem?_replicate];split<;>rfl
theorem Zzg(B:Nat)(ps:List Int)(l:List Rat)(h:l.length=ps.length):Zop B ps l ps.length=Zv0 B ps l:=by
 unfold Zop;rw[Nat.sub_self,List.replicate_zero,List.append_nil,List.take_of_length_le (by rw[Yp B ps l h];exact Nat.le_refl _)]
theorem Zv1(B:Nat)(ps:List Int)(l:List Rat):Zop B ps l 0=List.replicate ps.length ⟨#[]⟩:=by simp[Zop]
structure OpI (w wr:World) (ps:List Int) (l:List Rat) (B k:Nat) (a0:OA_) (c0:Nat) (a1:OA_) (c1:Nat):Prop where
 ob:wr.heap[w.heap.size+1]?=some (.cells #[.slice a0 ps.length c0,.slice a1 ps.length c1,.int .i64 B,.slice (some ⟨w.heap.size,0,none⟩) ps.length ps.length] 197 (0,0))
 own:Zfj wr w.heap.size (some ⟨w.heap.size,0,none⟩) ps.length (Zop B ps l k)
 bel:Bw_ w wr
theorem Zjd(w:World)(ps:List Int)(l:List Rat)(B:Nat)(a0 a1:OA_)(c0 c1:Nat)(rp:Rd w a0 (Vk ps))(rl:Rd w a1 (Kk l))(hl:l.length=ps.length)(hn:ps.length<=100)(hp:∀ p∈ps,∃ q:Nat,p=q/\(q=2\/q∈Zbv))(hB:B<=1000)(L:Qe w):
  Calls Tryz.prog 120 #[.slice a0 ps.length c0,.slice a1 ps.length c1,.int .i64 B] w fun e w'=>∃ R,e = .returned (.pointer (some ⟨R,0,none⟩))/\Zpu w' R ps l B/\w.heap.size<=R/\Bw_ w w':=by
 have Au:=hd_ rp;have Av:=hd_ rl;have HL:=hd_ L;have Hl:=hd_ hl;have BZ:=hd_ (fun (k:Nat) (hk:k<ps.length) (W:World) (hW:Bw_ w W)=>show Kc Tryz.prog 186 #[.int .i64 ps[k],.int .i64 B] W (.string (dec (lgN ps[k] B))) from by
  obtain⟨q,hq,fk⟩:=hp _ (List.getElem_mem hk);rw[hq];exact Zra W q B fk hB (L.below hW))
 have Lg:=hd_ (fun k h1 h2=>Zqw B ps l hl k h1 h2);have BV:=hd_ (fun k h=>Zzf B ps l hl k h);have Iv:=hd_ (fun k h=>Qcx B ps l hl k h);have fA:=hd_ (Zzg B ps l hl);have Ed:=hd_ (fun k h=>Zoo B ps l hl k h);clear rp rl L hp;obtain⟨n,Dm⟩:∃ n,ps.length=n:=⟨_,rfl⟩;have fl:=Qe0 n w (by omega);have gw:Hid (Zfj (w.alloc (.cells (Zdp (List.replicate n ⟨#[]⟩)).toArray 38)) w.heap.size (some ⟨w.heap.size,0,none⟩) n (Zop B ps l 0)):=by
  have:=Zvi w (List.replicate n ⟨#[]⟩) (by simp;omega)
  rw[List.length_replicate] at this;rw[Zv1,Dm];exact this
 have Hb:=hd_ ((Below.refl w.heap.size w).alloc nr_ (.cells (Zdp (List.replicate n ⟨#[]⟩)).toArray 38));have Ge:(w.alloc (.cells (Zdp (List.replicate n ⟨#[]⟩)).toArray 38)).heap.size=w.heap.size+1:=by simp
 generalize w.alloc (.cells (Zdp (List.replicate n ⟨#[]⟩)).toArray 38)=w1 at *;have D5:Hid (OpI w (w1.alloc (.cells #[.slice a0 n c0,.slice a1 n c1,.int .i64 B,.slice (some ⟨w.heap.size,0,none⟩) n n] 197)) ps l B 0 a0 c0 a1 c1):=by
  refine⟨?_,?_,Hb.o.alloc (by omega) _⟩
  ·rw[<- Ge,Dm];exact heap_alloc_new w1 _
  ·rw[Dm];exact(show Zfj _ _ _ _ _ from World.ownsRow.alloc gw.o _)
 have Hn:=hd_ Dm;rw[Dm];clear Dm gw Hb;go_enter Tryz.func120,Tryz.ntmps120;go_wp2_with fail
 go_loopw [20] (fun i wr=>∃ k:Nat,k<=n/\i = .int .i64 k/\Hid (OpI w wr ps l B k a0 c0 a1 c1)) (fun i _=>n-(intOf i).toNat)
 case atStart=>exact⟨0,Nat.zero_le _,rfl,by rw[Ge] at *;exact D5⟩
 case round =>
  obtain⟨k,hk,rfl,HI⟩:=hrel;clear D5
  by_cases H7:k<n
  ·have gi:(k:Int)<n:=by omega
   have fK:k<ps.length:=by rw[Hn.o];exact H7
   have gU:k<l.length:=by rw[Hl.o];exact fK
   obtain⟨b0,o0,rfl,Gj,fc⟩:=Au.o.open (by rw[Qp];omega);have cp:=fc k _ (Ym ps k fK);rw[<- HI.o.bel.cell (p:=⟨b0,o0+k,none⟩) Gj] at cp;obtain⟨b1,o1,rfl,hZ,gC⟩:=Av.o.open (by rw[Ks];omega);obtain⟨x0,x1⟩:=Qf gC k (by rw[List.length_map];exact gU);rw[Qb l k gU] at x0 x1;rw[<- HI.o.bel.cell (p:=⟨b1,o1+k*2,none⟩) hZ] at x0;rw[<- HI.o.bel.cell (p:=⟨b1,o1+k*2+1,none⟩) hZ] at x1;have Gf:=hd_ (fun W=>Zr8 W l[k]);have Aa:IntKind.i64.wrap ((k:Int)+1)=((k+1:Nat):Int):=by rw[<- Int.natCast_succ];exact iw_ _ (by omega)
   have Gu:=Lg.o k fK gU;have Gr:=BV.o k fK;have dC:=Iv.o k fK;have Fb:=hd_ (fun W (hW:Bw_ w W)=>BZ.o k fK W hW);have gd:=Ed.o k (by rw[Hn.o];omega);clear fc gC;unfold fr fv at Gf;unfold qs at x0 x1;generalize l[k]=q at *;generalize ps[k]=pk at *;simp only at x0 x1
   by_cases hz:q.num=0
   ·rw[hz] at Gf;rw[if_pos hz] at Gu;rw[Gu] at Gr;have es:Zop B ps l (k+1)=Zop B ps l k:=by
     rw[<- Gr];refine List.ext_getElem? fun i=>?_
     by_cases hi:k=i
     ·subst hi;rw[List.getElem?_set_self (by rw[gd];exact fK)];rw[List.getD_eq_getElem?_getD,List.getElem?_eq_getElem (by rw[gd];exact fK)] at dC;rw[List.getElem?_eq_getElem (by rw[gd];exact fK)];exact congrArg some dC.symm
     ·rw[List.getElem?_set_ne hi]
    rw[hz] at x0;have HS:=hd_ es;clear Gu Gr dC gd es hz Fb;go_wp2_with fail;refine cm_ (Gf.o _) ?_;rintro e w2 ⟨rfl,hb⟩;have gt:Hid (OpI w w2 ps l B (k+1) (some ⟨b0,o0,none⟩) c0 (some ⟨b1,o1,none⟩) c1) :=
     ⟨by rw[hb.block _ (Array.getElem?_eq_some_iff.1 HI.o.ob).1];exact HI.o.ob,by rw[HS.o];exact Kv HI.o.own hb nr_,HI.o.bel.trans (hb.mono HI.o.bel.size)⟩
    clear hb Gf HI HS;go_wp2_with fail;refine⟨⟨k+1,by omega,by go_num,gt⟩,by simp[intOf];omega⟩
   ·rw[if_neg hz] at Gu;rw[Gu] at Gr;have Jt:(q.num.sign==0)=false:=by
     rw[beq_eq_false_iff_ne];intro h;exact hz (Int.sign_eq_zero_iff_zero.1 h)
    have NV:(q.num.sign != 0)=true:=by
     rw[bne_iff_ne];intro h;exact hz (Int.sign_eq_zero_iff_zero.1 h)
    clear Gu dC gd hz;go_wp2_with fail;refine cm_ (Gf.o _) ?_;rintro e w2 ⟨rfl,hb⟩;have gt:Hid (OpI w w2 ps l B k (some ⟨b0,o0,none⟩) c0 (some ⟨b1,o1,none⟩) c1) :=
     ⟨by rw[hb.block _ (Array.getElem?_eq_some_iff.1 HI.o.ob).1];exact HI.o.ob,Kv HI.o.own hb nr_,HI.o.bel.trans (hb.mono HI.o.bel.size)⟩
    clear hb Gf HI x0 x1 cp Jt;obtain⟨k0,k1,k2,k3,-⟩:=Ze5 gt.o.ob;rw[Hn.o] at k3;have q0:=NW.cell k3;have gn:Nonempty (NW w2):=⟨⟨w2,Below.refl _ _⟩⟩;have I:Hid (Bw_ w2 w2.drew):=(Below.refl _ _).drew;clear k0 k1 k2 k3;go_wp2_with fail;refine wn_ 9 [(2,0),(2,1),(2,2),(1,3),(2,4),(2,5),(2,6),(0,7),(2,8),(0,9)] I ?_;iterate 3 (refine wa_ rfl ?_;go_big_quiet_step (fail);refine wq_ ?_)
    refine wr_ rfl ?_;go_big_quiet_step (fail);refine wq_ ?_;iterate 3 (refine wa_ rfl ?_;go_big_quiet_step (fail);refine wq_ ?_)
    clear gn q0;refine wm_ rfl ?_;go_wp2_with fail;refine cm_ (Fb.o _ (gt.o.bel.trans (I.o.mono gt.o.bel.size))) ?_;rintro e w3 ⟨rfl,hb⟩;have I3:Hid (Bw_ w2 w3):=I.o.trans (hb.mono I.o.size);clear hb I Fb;have Gd:Hid (OpI w w3 ps l B k (some ⟨b0,o0,none⟩) c0 (some ⟨b1,o1,none⟩) c1) :=
     ⟨by rw[I3.o.block _ (Array.getElem?_eq_some_iff.1 gt.o.ob).1];exact gt.o.ob,Kv gt.o.own I3.o nr_,gt.o.bel.trans (I3.o.mono gt.o.bel.size)⟩
    obtain⟨g,hg,GE,hg2,hg3,hg4,hg5⟩:=Gd.o.own.open (by rw[Ed.o k (by rw[Hn.o];omega)];omega);obtain rfl:w.heap.size=g:=by simpa using hg
    have pU:=hg4 k (by rw[Ed.o k (by rw[Hn.o];omega)];exact fK);have Mi:=hg5 k;clear hg hg3 hg4 hg5;have eY:Hid (OpI w (w3.setCell ⟨w.heap.size,k,none⟩ (.string (dec (lgN pk B)))) ps l B (k+1) (some ⟨b0,o0,none⟩) c0 (some ⟨b1,o1,none⟩) c1) :=
     ⟨by rw[Below.heap_setCell _ _ _ _ (by show w.heap.size+1≠w.heap.size;omega)];exact Gd.o.ob,by rw[<- Gr];exact Gd.o.own.store k _,Gd.o.bel.setCell (p:=⟨w.heap.size,k,none⟩) nr_ _⟩
    go_wp2_with fail;refine⟨⟨⟨_,I3.o⟩,rfl⟩,?_⟩;clear I3 gt Gd;refine wa_ rfl ?_;go_big_quiet_step (fail);refine wq_ ?_;refine wm_ rfl ?_;go_wp2_with fail;simp only[RP.walkR];go_wp2_with fail;refine⟨⟨k+1,by omega,by go_num,eY⟩,by simp[intOf];omega⟩
  ·obtain rfl:k=n:=by omega
   have gi:¬ (k:Int)<k:=by omega
   have HR:Hid (Zpu wr (w.heap.size+1) ps l B):=by
    refine⟨a0,c0,a1,c1,some ⟨w.heap.size,0,none⟩,ps.length,HI.o.ob,Au.o.below HI.o.bel nr_,Av.o.below HI.o.bel nr_,?_⟩;have:=HI.o.own
    rw[<- Hn.o,fA.o,Hn.o] at this;have h2:Zfj wr w.heap.size (some ⟨w.heap.size,0,none⟩) ps.length (Zv0 B ps l):=by rw[Hn.o];exact this
    exact h2.rd
   go_wp2_with fail;go_ret;exact⟨w.heap.size+1,rfl,HR.o,Nat.le_succ _,HI.o.bel⟩
theorem Zah{w:World}{R:Nat}{x y x' y':Value}{t:TypeId}(h:w.heap[R]?=some (.cells #[x,y] t (0,0))):
  ((w.setCell ⟨R,0,none⟩ x').setCell ⟨R,1,none⟩ y').heap[R]?=some (.cells #[x',y'] t (0,0)):=by
 have H7:=lt_of_block h;have h':w.heap[R] = .cells #[x,y] t (0,0):=by simpa [Array.getElem?_eq_getElem H7] using h
 have e1:(w.setCell ⟨R,0,none⟩ x').heap[R]?=some (.cells #[x',y] t (0,0)):=by
  show (w.heap.modify R _)[R]?=_
  rw[Array.getElem?_eq_getElem (by simpa using H7),Array.getElem_modify_self,h'];rfl
 have Gc:=lt_of_block e1;have EZ:(w.setCell ⟨R,0,none⟩ x').heap[R] = .cells #[x',y] t (0,0):=by simpa [Array.getElem?_eq_getElem Gc] using e1
 show ((w.setCell ⟨R,0,none⟩ x').heap.modify R _)[R]?=_
 rw[Array.getElem?_eq_getElem (by simpa using Gc),Array.getElem_modify_self,EZ];rfl
def Zdm (w:World) (g:Nat) (q:Rat):Prop:=w.heap[g]?=some (.cells #[.string (itx q.num),.string (dec q.den)] 101 (0,0))
theorem Zdm.below{w w':World}{g:Nat}{q:Rat}(h:Zdm w g q)(hb:Bw_ w w'):Zdm w' g q:=by
 unfold Zdm at *
 rw[hb.block g (Array.getElem?_eq_some_iff.1 h).1];exact h
structure EnI (w wr:World) (lo hi:Rat):Prop where
 e0:Zdm wr w.heap.size lo
 e1:Zdm wr (w.heap.size+1) hi
 bel:Bw_ w wr
theorem EnI.below{w wr w':World}{lo hi:Rat}(h:EnI w wr lo hi)(hb:Bw_ wr w'):EnI w w' lo hi:=⟨h.e0.below hb,h.e1.below hb,h.bel.trans (hb.mono h.bel.size)⟩
def Zd (w:World) (E:Nat) (a b:Rat):World :=
 (((w.setCell ⟨E,0,none⟩ (.string (itx a.num))).setCell ⟨E,1,none⟩ (.string (dec a.den))).setCell ⟨E+1,0,none⟩ (.string (itx b.num))).setCell ⟨E+1,1,none⟩ (.string (dec b.den))
theorem EnI.put{w wr:World}{lo hi:Rat}(h:EnI w wr lo hi)(a b:Rat):EnI w (Zd wr w.heap.size a b) a b:=by
 have h1:=Zah (x' := .string (itx a.num)) (y' := .string (dec a.den)) h.e0;have e1:((wr.setCell ⟨w.heap.size,0,none⟩ (.string (itx a.num))).setCell ⟨w.heap.size,1,none⟩ (.string (dec a.den))).heap[w.heap.size+1]?=some (.cells #[.string (itx hi.num),.string (dec hi.den)] 101 (0,0)):=by
  rw[Below.heap_setCell _ _ _ _ (by show w.heap.size+1≠w.heap.size;omega),Below.heap_setCell _ _ _ _ (by show w.heap.size+1≠w.heap.size;omega)];exact h.e1
 have h2:=Zah (x' := .string (itx b.num)) (y' := .string (dec b.den)) e1;unfold Zd;refine⟨?_,h2,?_⟩
 ·unfold Zdm;rw[Below.heap_setCell _ _ _ _ (by show w.heap.size≠w.heap.size+1;omega),Below.heap_setCell _ _ _ _ (by show w.heap.size≠w.heap.size+1;omega)];exact h1
 ·exact(((h.bel.setCell (p:=⟨w.heap.size,0,none⟩) nr_ _).setCell (p:=⟨w.heap.size,1,none⟩) nr_ _).setCell (p:=⟨w.heap.size+1,0,none⟩) (Nat.le_succ _) _).setCell (p:=⟨w.heap.size+1,1,none⟩) (Nat.le_succ _) _
theorem EnI.set{w wr:World}{lo hi:Rat}(h:EnI w wr lo hi){g:Nat}(hg:w.heap.size+2<=g)(x y:Value):EnI w ((wr.setCell ⟨g,0,none⟩ x).setCell ⟨g,1,none⟩ y) lo hi:=by
 refine⟨?_,?_,(h.bel.setCell (p:=⟨g,0,none⟩) (by show _<=g;omega) _).setCell (p:=⟨g,1,none⟩) (by show _<=g;omega) _⟩
 ·unfold Zdm;rw[Below.heap_setCell _ _ _ _ (by show w.heap.size≠g;omega),Below.heap_setCell _ _ _ _ (by show w.heap.size≠g;omega)];exact h.e0
 ·unfold Zdm;rw[Below.heap_setCell _ _ _ _ (by show w.heap.size+1≠g;omega),Below.heap_setCell _ _ _ _ (by show w.heap.size+1≠g;omega)];exact h.e1
theorem Zdm.set{w:World}{g k:Nat}{q:Rat}(h:Zdm w g q)(hk:g≠k)(x y:Value):Zdm ((w.setCell ⟨k,0,none⟩ x).setCell ⟨k,1,none⟩ y) g q:=by
 unfold Zdm;rw[Below.heap_setCell _ _ _ _ hk,Below.heap_setCell _ _ _ _ hk];exact h
theorem Zdm.put{w:World}{g:Nat}{q:Rat}(h:Zdm w g q)(a:Rat):Zdm ((w.setCell ⟨g,0,none⟩ (.string (itx a.num))).setCell ⟨g,1,none⟩ (.string (dec a.den))) g a:=Zah h
theorem Zdm.new(w:World)(q:Rat):Zdm (w.alloc (.cells #[.string (itx q.num),.string (dec q.den)] 101)) w.heap.size q:=heap_alloc_new w _
theorem Zxy:itx (0:Rat).num=⟨#[48]⟩/\dec (0:Rat).den=⟨#[49]⟩:=by
 refine⟨?_,?_⟩
 ·show itx 0=_
  rw[show itx 0=dec 0 from Kh 0];have:(dec 0).data = #[48]:=by decide +kernel
  exact ByteArray.ext this
 ·exact Zt
structure EnW (w0:World) (lo hi:Rat) where
 w:World
 h:EnI w0 w lo hi
theorem EnW.cells{w0:World}{lo hi:Rat}(p:EnW w0 lo hi):p.w.cell? ⟨w0.heap.size,0,none⟩=some (.string (itx lo.num))/\p.w.cell? ⟨w0.heap.size,1,none⟩=some (.string (dec lo.den))/\p.w.cell? ⟨w0.heap.size+1,0,none⟩=some (.string (itx hi.num))/\p.w.cell? ⟨w0.heap.size+1,1,none⟩=some (.string (dec hi.den)):=by
 obtain⟨k0,k1,-,-⟩:=Ka p.h.e0;obtain⟨k2,k3,-,-⟩:=Ka p.h.e1;exact⟨k0,k1,k2,k3⟩
theorem EnI.put0{w wr:World}{lo hi:Rat}(h:EnI w wr lo hi)(a:Rat):EnI w ((wr.setCell ⟨w.heap.size,0,none⟩ (.string (itx a.num))).setCell ⟨w.heap.size,1,none⟩ (.string (dec a.den))) a hi :=
 ⟨Zah h.e0,Zdm.set h.e1 (by omega) _ _,(h.bel.setCell (p:=⟨w.heap.size,0,none⟩) nr_ _).setCell (p:=⟨w.heap.size,1,none⟩) nr_ _⟩
theorem EnI.put1{w wr:World}{lo hi:Rat}(h:EnI w wr lo hi)(a:Rat):EnI w ((wr.setCell ⟨w.heap.size+1,0,none⟩ (.string (itx a.num))).setCell ⟨w.heap.size+1,1,none⟩ (.string (dec a.den))) lo a :=
 ⟨Zdm.set h.e0 (by omega) _ _,Zah h.e1,(h.bel.setCell (p:=⟨w.heap.size+1,0,none⟩) (Nat.le_succ _) _).setCell (p:=⟨w.heap.size+1,1,none⟩) (Nat.le_succ _) _⟩
theorem Zhc{x:Nat}(h:x<2^K10):Num x:=Ze h (by decide)
theorem Qbi{q b:Nat}(hq:q=2\/q∈Zbv)(hb:b<=1000):lgN q b+2<2^K10/\2^b+1<2^K10:=by
 have h1:=Zv5 hq (show b<=1056 by omega);have h2:8*2^b<=2^K10:=by
  rw[show 8=2^3 from rfl,<- Nat.pow_add];exact Nat.pow_le_pow_right (by decide) (by rw[k10];omega)
 have h3:8*2^b+8<=2^K10:=by
  have e:8*2^b*2<=2^K10:=by
   rw[show 8=2^3 from rfl,<- Nat.pow_add,<- Nat.pow_succ];exact Nat.pow_le_pow_right (by decide) (by rw[k10];omega)
  have:=Nat.two_pow_pos b
  omega
 have:=Nat.two_pow_pos b
 omega
theorem Qf8(w:World)(n d:Nat)(hn:n+1<2^K10)(hd:d+1<2^K10)(GS:0<d)(L:Qe w):
  Kc Tryz.prog 204 #[.string (dec n),.string (dec d)] w (.tuple #[fr (mkRat (n:Int) d),.int .i64 0]):=by
 have h:=Zqt w n d (show Num _ from Zhc (by rw[Int.natAbs_natCast];omega)) (Zhc (by omega)) GS (Zhc (by rw[Int.natAbs_natCast];exact hn)) (Zhc hd) L;rw[Kh,Zdb _ _ (by omega)] at h;exact h
theorem Zde(w:World)(R:Nat)(ps:List Int)(l:List Rat)(B b D:Nat)(H:Zpu w R ps l B)(hl:l.length=ps.length)(hn:ps.length<=100)(hp:∀ p∈ps,∃ q:Nat,p=q/\(q=2\/q∈Zbv))(hs:∀ q∈l,Sm D q)(hD:D<=300)(hb:b<=B)(hB:B<=1000)(L:Qe w):
  Kc Tryz.prog 124 #[.pointer (some ⟨R,0,none⟩),.int .i64 b] w (.tuple #[fr (loE b ps l),fr (hiE b ps l)]):=by
 unfold Kc;have HH:=hd_ H;have Hp:=hd_ hp;have Hl:=hd_ hl;have Hs:=hd_ hs;have HL:=hd_ L;obtain⟨a0,c0,a1,c1,a2,c2,S⟩:=H;obtain⟨k0,k1,k2,k3,-⟩:=Ze5 S.ob;have Ad:R<w.heap.size:=(Array.getElem?_eq_some_iff.1 S.ob).1;have Au:=hd_ S.rp;have Av:=hd_ S.rl;have IH:=hd_ (fun W (hW:Bw_ w W)=>Zqm W b (by omega) (HL.o.below hW));have Le:Hid (∀ W,Bw_ w W->W.cell? ⟨R,0,none⟩=some (.slice a0 ps.length c0)):=fun W hW=>by rw[hW.cell (p:=⟨R,0,none⟩) Ad];exact k0
 have Ig:Hid (∀ W,Bw_ w W->W.cell? ⟨R,1,none⟩=some (.slice a1 ps.length c1)):=fun W hW=>by rw[hW.cell (p:=⟨R,1,none⟩) Ad];exact k1
 have Hv:Hid (True->(loE b ps l=loE b (ps.take ps.length) (l.take ps.length))/\hiE b ps l=hiE b (ps.take ps.length) (l.take ps.length)):=fun _=>by
  rw[List.take_length,List.take_of_length_le (by omega)];exact⟨rfl,rfl⟩
 obtain⟨vlo,hvlo⟩:∃ v,loE b ps l=v:=⟨_,rfl⟩;obtain⟨vhi,hvhi⟩:∃ v,hiE b ps l=v:=⟨_,rfl⟩;rw[hvlo,hvhi] at Hv ⊢;clear S L hs hp hl hvlo hvhi k2 k3;obtain⟨n,Dm⟩:∃ n,ps.length=n:=⟨_,rfl⟩;have Hn:=hd_ Dm;rw[Dm] at hn Le Ig Hv k0 k1;clear Dm;unfold fr fv;go_enter Tryz.func124,Tryz.ntmps124;go_wp2_with fail;have mg:Hid (EnI w ((w.alloc (.cells #[.string ⟨#[48]⟩,.string ⟨#[49]⟩] 101)).alloc (.cells #[.string ⟨#[48]⟩,.string ⟨#[49]⟩] 101)) 0 0):=by
  obtain⟨z1,z2⟩:=Zxy;have h1:=Zdm.new w 0;have h2:=Zdm.new (w.alloc (.cells #[.string (itx (0:Rat).num),.string (dec (0:Rat).den)] 101)) 0;rw[z1,z2] at h1 h2;refine⟨h1.below ((Below.refl _ _).alloc nr_ _),?_,((Below.refl _ _).alloc nr_ _).alloc (by simp) _⟩;have e:(w.alloc (.cells #[.string ⟨#[48]⟩,.string ⟨#[49]⟩] 101)).heap.size=w.heap.size+1:=by simp
  rw[e] at h2;exact h2
 have dF:Hid (w.heap.size+2<=((w.alloc (.cells #[.string ⟨#[48]⟩,.string ⟨#[49]⟩] 101)).alloc (.cells #[.string ⟨#[48]⟩,.string ⟨#[49]⟩] 101)).heap.size):=by show _<=_;simp
 generalize (w.alloc (.cells #[.string ⟨#[48]⟩,.string ⟨#[49]⟩] 101)).alloc (.cells #[.string ⟨#[48]⟩,.string ⟨#[49]⟩] 101)=W0 at *;refine cm_ (IH.o _ mg.o.bel) ?_;rintro e w1 ⟨rfl,hZ⟩;have EJ:=hd_ (mg.o.below hZ);have MS:=hd_ (Nat.le_trans dF.o hZ.size);have Nv:=Ig.o _ EJ.o.bel;clear hZ mg IH k0 k1 dF;go_wp2_with fail
 go_loopw [25] (fun i wr=>∃ k:Nat,k<=n/\i = .int .i64 k/\Hid (EnI w wr (loE b (ps.take k) (l.take k)) (hiE b (ps.take k) (l.take k)))/\Hid (w.heap.size+2<=wr.heap.size)) (fun i _=>n-(intOf i).toNat)
 case atStart=>exact⟨0,Nat.zero_le _,rfl,by simpa [loE,hiE] using EJ,MS⟩
 case round =>
  obtain⟨k,hk,rfl,HE,Hz⟩:=hrel;clear EJ MS Nv
  by_cases H7:k<n
  ·have gi:(k:Int)<n:=by omega
   have fK:k<ps.length:=by rw[Hn.o];exact H7
   have gU:k<l.length:=by rw[Hl.o];exact fK
   obtain⟨b0,o0,rfl,Gj,fc⟩:=Au.o.open (by rw[Qp];omega);have eX:Hid (∀ W,Bw_ w W->W.cell? ⟨b0,o0+k,none⟩=some (.int .i64 ps[k])):=fun W hW=>by
    rw[hW.cell (p:=⟨b0,o0+k,none⟩) Gj];exact fc k _ (Ym ps k fK)
   obtain⟨b1,o1,rfl,hZ,gC⟩:=Av.o.open (by rw[Ks];omega);obtain⟨x0,x1⟩:=Qf gC k (by rw[List.length_map];exact gU);rw[Qb l k gU] at x0 x1;rw[<- HE.o.bel.cell (p:=⟨b1,o1+k*2,none⟩) hZ] at x0;rw[<- HE.o.bel.cell (p:=⟨b1,o1+k*2+1,none⟩) hZ] at x1;have Aa:IntKind.i64.wrap ((k:Int)+1)=((k+1:Nat):Int):=by rw[<- Int.natCast_succ];exact iw_ _ (by omega)
   have Gf:=hd_ (fun W=>Zr8 W l[k]);have gZ:=hd_ (Zm5 b ps l k Hl.o fK gU);have Eg:=hd_ (Zo3 (show b<=1056 by omega) Hp.o Hl.o Hs.o k (Nat.le_of_lt fK));have dL:=hd_ (Hs.o l[k] (List.getElem_mem gU));obtain⟨q,hq,fk⟩:=Hp.o _ (List.getElem_mem fK);have CJ:=hd_ (Qee (p:=ps[k]) (Hp.o _ (List.getElem_mem fK)) (show b<=1056 by omega));have AB:=hd_ (fun W (hW:Bw_ w W) (hz:l[k].num≠0)=>Qbt W R ps l B b k (HH.o.below hW) Hl.o (by rw[Hn.o];omega) fK gU (Hp.o _ (List.getElem_mem fK)) hz hb hB (HL.o.below hW));have Hq:=hd_ hq;have lU:=hd_ fk;have MA:1+k*(D+356)<=65700:=by
    have:k*(D+356)<=100*656:=Nat.mul_le_mul (by omega) (by omega)
    omega
   clear fc gC hq fk;unfold fr fv at Gf;unfold qs at x0 x1;simp only at x0 x1;generalize l[k]=c at *;generalize ps[k]=pk at *;have DY:=hd_ (show b<=1000 by omega)
   by_cases hz:c.num=0
   ·have fc:c=0:=Rat.num_eq_zero.1 hz;have C9:loE b (ps.take (k+1)) (l.take (k+1))=loE b (ps.take k) (l.take k)/\hiE b (ps.take (k+1)) (l.take (k+1))=hiE b (ps.take k) (l.take k):=by
     obtain⟨e1,e2⟩:=Zwr b pk;have:=gZ.o
     rw[fc,e1,e2,Rat.add_zero,Rat.add_zero] at this;exact this
    have bC:=hd_ C9;rw[hz] at Gf x0;have j':=hd_ (HE.o.below ((Below.refl _ _).alloc nr_ (.cells #[.string (itx 0),.string (dec c.den)] 101)));have jS:Hid (w.heap.size+2<=(wr.alloc (.cells #[.string (itx 0),.string (dec c.den)] 101)).heap.size):=by show _<=_;simp;have:=Hz.o;omega
    have k8:=Ka (heap_alloc_new wr (.cells #[.string (itx 0),.string (dec c.den)] 101));clear C9 AB gZ Eg dL CJ Hq lU eX fc hz;go_wp2_with fail;refine cm_ (Gf.o _) ?_;rintro e w2 ⟨rfl,HU⟩;have ei:=hd_ (j'.o.below HU);have dF:=hd_ (Nat.le_trans jS.o HU.size);clear HU Gf k8;go_wp2_with fail;refine⟨⟨k+1,by omega,by go_num,by rw[bC.o.1,bC.o.2];exact ei,dF⟩,by simp[intOf];omega⟩
   ·have pE:(c.num.sign==0)=false:=by
     rw[beq_eq_false_iff_ne];intro h;exact hz (Int.sign_eq_zero_iff_zero.1 h)
    have FI:=hd_ (fun W hW=>AB.o W hW hz);have j':=hd_ (HE.o.below ((Below.refl _ _).alloc nr_ (.cells #[.string (itx c.num),.string (dec c.den)] 101)));have jS:Hid (w.heap.size+2<=(wr.alloc (.cells #[.string (itx c.num),.string (dec c.den)] 101)).heap.size):=by show _<=_;simp;have:=Hz.o;omega
    have F8:=hd_ (Zdm.new wr c);obtain⟨g8,hg8⟩:∃ g8,g8=wr.heap.size:=⟨_,rfl⟩;have k8:=Ka (heap_alloc_new wr (.cells #[.string (itx c.num),.string (dec c.den)] 101));clear AB hz;go_wp2_with fail;refine cm_ (Gf.o _) ?_;rintro e w2 ⟨rfl,HU⟩;have ei:=hd_ (j'.o.below HU);have dF:=hd_ (Nat.le_trans jS.o HU.size);have aM:=hd_ (F8.o.below HU);rw[<- hg8] at aM;have mM:w.heap.size+2<=g8:=by rw[hg8];exact Hz.o
    have ME:g8<w2.heap.size:=(Array.getElem?_eq_some_iff.1 aM.o).1;clear HU Gf k8 j' jS F8;rw[<- hg8];have Pu:=hd_ mM;have AC:=hd_ ME;clear x0 x1 hg8 mM ME;obtain⟨k0,k1,-,-⟩:=Ka aM.o;have q0:=NW.cell k0;have q1:=NW.cell k1;have gn:Nonempty (NW w2):=⟨⟨w2,Below.refl _ _⟩⟩;have I:Hid (Bw_ w2 w2.drew):=(Below.refl _ _).drew;go_wp2_with fail;clear k0 k1;refine RP.wp_region_tree 5 (.rd 1 0 (.rd 1 1 (.two 2 3 (.mv 3 (.mv 4 (.mv 5 .nil))) (.mv 2 (.mv 4 (.mv 5 .nil)))))) (fun w'=>∃ p:NW w2,w'=p.w) (by kernel_rfl) (by kernel_rfl) ?_ ?_
    ·exact⟨⟨_,I.o⟩,rfl⟩
    iterate 2 (refine RP.walkT_read ?_;simp only[Zk5,dz_,Zid,tz_];go_big_quiet_step (fail);refine wq_ ?_)
    clear q0 q1 gn;refine RP.walkT_two ?_ ?_
    ·simp only[Zk5,dz_,Zid,tz_];go_wp2_with fail;obtain⟨ga,dR⟩:∃ x,x=w2.heap.size:=⟨_,rfl⟩;have I3:Hid (Bw_ w2 (w2.alloc (.cells #[.string ⟨#[]⟩,.string ⟨#[]⟩] 101)).drew):=Qg ((Below.refl _ _).alloc nr_ _) 1;have N3:Hid ((w2.alloc (.cells #[.string ⟨#[]⟩,.string ⟨#[]⟩] 101)).drew.heap[ga]?=some (.cells #[.string ⟨#[]⟩,.string ⟨#[]⟩] 101 (0,0))):=by rw[dR];exact heap_alloc_new w2 _
     have Z3:Hid ((w2.alloc (.cells #[.string ⟨#[]⟩,.string ⟨#[]⟩] 101)).drew.heap.size=w2.heap.size+1):=by show _=_;simp
     rw[<- dR];have nG:=hd_ dR;clear dR;generalize (w2.alloc (.cells #[.string ⟨#[]⟩,.string ⟨#[]⟩] 101)).drew=w3 at *;refine⟨⟨⟨_,I3.o⟩,rfl⟩,?_⟩;refine RP.walkT_move ?_;simp only[Zk5,dz_,Zid,tz_];go_wp2_with fail;obtain⟨gb,eD⟩:∃ x,x=w3.heap.size:=⟨_,rfl⟩;have I4:Hid (Bw_ w2 (w3.alloc (.cells #[.string ⟨#[]⟩,.string ⟨#[]⟩] 101))):=I3.o.alloc I3.o.size _;have N4:Hid ((w3.alloc (.cells #[.string ⟨#[]⟩,.string ⟨#[]⟩] 101)).heap[ga]?=some (.cells #[.string ⟨#[]⟩,.string ⟨#[]⟩] 101 (0,0))):=by
      show _=_
      rw[((Below.refl _ w3).alloc nr_ _).block ga (Array.getElem?_eq_some_iff.1 N3.o).1];exact N3.o
     have M4:Hid ((w3.alloc (.cells #[.string ⟨#[]⟩,.string ⟨#[]⟩] 101)).heap[gb]?=some (.cells #[.string ⟨#[]⟩,.string ⟨#[]⟩] 101 (0,0))):=by rw[eD];exact heap_alloc_new w3 _
     have Fu:ga≠gb:=by have:=Z3.o;have:=nG.o;omega
     have ft:w2.heap.size<=ga:=by have:=nG.o;omega
     have Db:w2.heap.size<=gb:=by have:=Z3.o;omega
     rw[<- eD];clear N3 I3 eD Z3;generalize w3.alloc (.cells #[.string ⟨#[]⟩,.string ⟨#[]⟩] 101)=w4 at *;have NA:=N4;have NB:=M4;have eE:=ft;have eC:=Db;have Fh:=hd_ Fu;clear N4 M4 ft Db Fu;refine⟨⟨⟨_,I4.o⟩,rfl⟩,?_⟩;refine RP.walkT_move ?_;simp only[Zk5,dz_,Zid,tz_];obtain⟨n0,n1,f0,f1⟩:=Ka NA.o;go_wp2_with fail;have I5:=hd_ ((I4.o.setCell (p:=⟨ga,0,none⟩) eE (.string (itx c.num))).setCell (p:=⟨ga,1,none⟩) eE (.string (dec c.den)));have jk:Hid (Zdm ((w4.setCell ⟨ga,0,none⟩ (.string (itx c.num))).setCell ⟨ga,1,none⟩ (.string (dec c.den))) ga c):=Zah NA.o;have Fv:Hid (((w4.setCell ⟨ga,0,none⟩ (.string (itx c.num))).setCell ⟨ga,1,none⟩ (.string (dec c.den))).heap[gb]?=some (.cells #[.string ⟨#[]⟩,.string ⟨#[]⟩] 101 (0,0))):=by
      show _=_
      rw[Below.heap_setCell _ _ _ _ (Ne.symm Fh.o),Below.heap_setCell _ _ _ _ (Ne.symm Fh.o)];exact NB.o
     clear n0 n1 f0 f1 NA NB I4;generalize (w4.setCell ⟨ga,0,none⟩ (.string (itx c.num))).setCell ⟨ga,1,none⟩ (.string (dec c.den))=w5 at *;refine⟨⟨⟨_,I5.o⟩,rfl⟩,?_⟩;refine RP.walkT_move ?_;simp only[Zk5,dz_,Zid,tz_];obtain⟨n0,n1,f0,f1⟩:=Ka Fv.o;go_wp2_with fail;have I6:=hd_ ((I5.o.setCell (p:=⟨gb,0,none⟩) eC (.string (itx c.num))).setCell (p:=⟨gb,1,none⟩) eC (.string (dec c.den)));have aI:Hid (Zdm ((w5.setCell ⟨gb,0,none⟩ (.string (itx c.num))).setCell ⟨gb,1,none⟩ (.string (dec c.den))) gb c):=Zah Fv.o;have aL:=hd_ (jk.o.set Fh.o (.string (itx c.num)) (.string (dec c.den)));clear n0 n1 f0 f1 jk Fv I5;generalize (w5.setCell ⟨gb,0,none⟩ (.string (itx c.num))).setCell ⟨gb,1,none⟩ (.string (dec c.den))=w6 at *;have FH:=hd_ (ei.o.below I6.o);have jp:=hd_ (aM.o.below I6.o);have dR:w.heap.size+2<=ga:=by have:=dF.o;omega
     have eD:w.heap.size+2<=gb:=by have:=dF.o;omega
     have Lk:Hid (g8≠ga):=by have:=AC.o;show _≠_;omega
     have Li:Hid (g8≠gb):=by have:=AC.o;show _≠_;omega
     have BP:=hd_ (Nat.le_trans dF.o I6.o.size);clear ei aM I6 eE eC dF AC;simp only[RP.walkT];have Jg:=Le.o w6 FH.o.bel;have cp:=eX.o w6 FH.o.bel
     by_cases h2:pk=2
     ·have jO:(pk != 2)=false:=by rw[h2];rfl
      have ff:Hid (c=c*xE pk b/\Sm (D+355) c):=⟨by rw[h2];unfold xE;rw[if_pos rfl,Rat.mul_one],dL.o.le (by omega)⟩;have fd:Hid (c=c*yE pk b/\Sm (D+355) c):=⟨by rw[h2];unfold yE;rw[if_pos rfl,Rat.mul_one],dL.o.le (by omega)⟩;clear FI;obtain⟨k0,k1,-,-⟩:=Ka FH.o.e0;obtain⟨k2,k3,-,-⟩:=Ka FH.o.e1;obtain⟨k4,k5,-,-⟩:=Ka aL.o;obtain⟨k6,k7,-,-⟩:=Ka aI.o;have q0:=NW.cell k0;have q1:=NW.cell k1;have q2:=NW.cell k2;have q3:=NW.cell k3;have q4:=NW.cell k4;have q5:=NW.cell k5;have q6:=NW.cell k6;have q7:=NW.cell k7;have gn:Nonempty (NW w6):=⟨⟨w6,Below.refl _ _⟩⟩;have I:Hid (Bw_ w6 w6.drew):=(Below.refl _ _).drew;have Fj:=hd_ (fun X (hX:Bw_ w6 X)=>HL.o.below (FH.o.bel.trans (hX.mono FH.o.bel.size)));have Ez:=hd_ (fun X hX=>Zkp X c c (D+355) (D+355) ff.o.2 fd.o.2 (by omega) (Fj.o X hX));have FO:=hd_ (fun X hX=>Zkq X c c (D+355) (D+355) ff.o.2 fd.o.2 (by omega) (Fj.o X hX));have Gz:=hd_ (fun X hX=>Zxx X _ _ _ _ Eg.o.1 (Zhe ff.o.2 fd.o.2) (by omega) (Fj.o X hX));have Gy:=hd_ (fun X hX=>Zxx X _ _ _ _ Eg.o.2 (Zhf ff.o.2 fd.o.2) (by omega) (Fj.o X hX));have f':loE b (ps.take k) (l.take k)+Zii c c=loE b (ps.take (k+1)) (l.take (k+1)):=by first | (rw[gZ.o.1];done) | (rw[gZ.o.1,<- ff.o.1,<- fd.o.1];done)
      have f9:hiE b (ps.take k) (l.take k)+Zij c c=hiE b (ps.take (k+1)) (l.take (k+1)):=by first | (rw[gZ.o.2];done) | (rw[gZ.o.2,<- ff.o.1,<- fd.o.1];done)
      rw[f'] at Gz;rw[f9] at Gy;clear f' f9 Fj;unfold fr fv at Ez FO Gz Gy;go_wp2_with fail;clear k0 k1 k2 k3 k4 k5 k6 k7;refine wn_ 10 [(1,0),(1,1),(1,2),(1,5),(1,6),(1,7),(0,3),(0,4),(0,8),(0,9),(0,10),(0,11)] I ?_;iterate 6 (refine wr_ rfl ?_;go_big_quiet_step (fail);refine wq_ ?_)
      clear q0 q1 q2 q3 q4 q5 q6 q7 gn;refine wm_ rfl ?_;go_wp2_with fail;refine cm_ (Ez.o _ I.o) ?_;rintro e x1 ⟨rfl,hbx⟩;have J1:Hid (Bw_ w6 x1):=I.o.trans (hbx.mono I.o.size);clear hbx I Ez;go_wp2_with fail;refine⟨⟨⟨_,J1.o⟩,rfl⟩,?_⟩;refine wm_ rfl ?_;go_wp2_with fail;refine cm_ (Gz.o _ J1.o) ?_;rintro e x2 ⟨rfl,hbx⟩;have J2:Hid (Bw_ w6 x2):=J1.o.trans (hbx.mono J1.o.size);clear hbx J1 Gz;go_wp2_with fail;refine⟨⟨⟨_,J2.o⟩,rfl⟩,?_⟩;refine wm_ rfl ?_;go_wp2_with fail;refine cm_ (FO.o _ J2.o) ?_;rintro e x3 ⟨rfl,hbx⟩;have J3:Hid (Bw_ w6 x3):=J2.o.trans (hbx.mono J2.o.size);clear hbx J2 FO;go_wp2_with fail;refine⟨⟨⟨_,J3.o⟩,rfl⟩,?_⟩;refine wm_ rfl ?_;go_wp2_with fail;refine cm_ (Gy.o _ J3.o) ?_;rintro e x4 ⟨rfl,hbx⟩;have J4:Hid (Bw_ w6 x4):=J3.o.trans (hbx.mono J3.o.size);clear hbx J3 Gy;go_wp2_with fail;refine⟨⟨⟨_,J4.o⟩,rfl⟩,?_⟩;have F7:=hd_ (FH.o.below J4.o);have Dz:=hd_ (Nat.le_trans BP.o J4.o.size);obtain⟨k0,k1,f0,f1⟩:=Ka F7.o.e0;obtain⟨k2,k3,f2,f3⟩:=Ka F7.o.e1;have D6:=hd_ (F7.o.put (loE b (ps.take (k+1)) (l.take (k+1))) (hiE b (ps.take (k+1)) (l.take (k+1))));have DA:Hid (w.heap.size+2<=(Zd x4 w.heap.size (loE b (ps.take (k+1)) (l.take (k+1))) (hiE b (ps.take (k+1)) (l.take (k+1)))).heap.size):=by
       show _<=_
       unfold Zd;rw[World.size_setCell,World.size_setCell,World.size_setCell,World.size_setCell];exact Dz.o
      unfold Zd at D6 DA;clear F7 J4 Dz;refine wm_ rfl ?_;go_wp2_with fail;refine wm_ rfl ?_;go_wp2_with fail;simp only[RP.walkR];go_wp2_with fail;refine⟨⟨k+1,by omega,by go_num,D6,DA⟩,by simp[intOf];omega⟩
     ·have jO:(pk != 2)=true:=by rw[bne_iff_ne];exact h2
      have Ob:(pk==2)=false:=by rw[beq_eq_false_iff_ne];exact h2
      have ff:Hid (c*xE pk b=c*xE pk b/\Sm (D+355) (c*xE pk b)):=⟨rfl,dL.o.mul CJ.o.1⟩;have fd:Hid (c*yE pk b=c*yE pk b/\Sm (D+355) (c*yE pk b)):=⟨rfl,dL.o.mul CJ.o.2⟩;have Ed:lgN pk b+2<2^K10/\2^b+1<2^K10:=by
       rw[Hq.o];exact Qbi lU.o DY.o
      have eT:=hd_ (fun W (hW:Bw_ w W)=>Qf8 W (lgN pk b) (2^b) (by omega) Ed.2 (Nat.two_pow_pos b) (HL.o.below hW));have dX:=hd_ (fun W (hW:Bw_ w W)=>Qf8 W (lgN pk b+1) (2^b) (by omega) Ed.2 (Nat.two_pow_pos b) (HL.o.below hW));have ED:=hd_ (fun W (hW:Bw_ w W)=>Qgz W (lgN pk b) 1 K10 (by decide) (by omega) (Nat.one_lt_two_pow (by decide)) (HL.o.below hW));rw[Zt] at ED;have CZ:mkRat ((lgN pk b:Nat):Int) (2^b)=xE pk b:=by unfold xE;rw[if_neg h2]
      have AF:mkRat ((lgN pk b+1:Nat):Int) (2^b)=yE pk b:=by unfold yE;rw[if_neg h2]
      rw[CZ] at eT;rw[AF] at dX;have Ey:=hd_ (fun W (hW:Bw_ w W)=>Qd7 W c (xE pk b) D 355 dL.o CJ.o.1 (by omega) (HL.o.below hW));have Ex:=hd_ (fun W (hW:Bw_ w W)=>Qd7 W c (yE pk b) D 355 dL.o CJ.o.2 (by omega) (HL.o.below hW));clear Ed CZ AF h2;unfold fr fv at eT dX Ey Ex;go_wp2_with fail;refine cm_ (FI.o _ FH.o.bel) ?_;rintro e w7 ⟨rfl,hbx⟩;have aG:=hd_ (FH.o.below hbx);have jh:=hd_ (aL.o.below hbx);have jf:=hd_ (aI.o.below hbx);have jo:=hd_ (jp.o.below hbx);have BO:=hd_ (Nat.le_trans BP.o hbx.size);clear hbx FI FH aL aI jp BP Jg cp;go_wp2_with fail;refine cm_ (eT.o _ aG.o.bel) ?_;rintro e w8 ⟨rfl,hbx⟩;have gV:=hd_ (hbx.alloc hbx.size (.cells #[.string (itx (xE pk b).num),.string (dec (xE pk b).den)] 101));have aF:=hd_ (aG.o.below gV.o);have jg:=hd_ (jh.o.below gV.o);have je:=hd_ (jf.o.below gV.o);have jm:=hd_ (jo.o.below gV.o);have DC:=hd_ (Nat.le_trans BO.o gV.o.size);have FX:=hd_ (Zdm.new w8 (xE pk b));have A8:=hd_ (Nat.le_trans BO.o hbx.size);clear hbx gV aG jh jf jo BO eT;go_wp2_with fail;generalize w8.alloc (.cells #[.string (itx (xE pk b).num),.string (dec (xE pk b).den)] 101)=w9 at *;generalize w8.heap.size=gx at *;refine cm_ (ED.o _ aF.o.bel) ?_;rintro e w10 ⟨rfl,hbx⟩;have EI:=hd_ (aF.o.below hbx);have cC:=hd_ (jg.o.below hbx);have cu:=hd_ (je.o.below hbx);have cE:=hd_ (jm.o.below hbx);have cg:=hd_ (FX.o.below hbx);have DF:=hd_ (Nat.le_trans DC.o hbx.size);clear hbx aF jg je jm FX DC ED;go_wp2_with fail;refine cm_ (dX.o _ EI.o.bel) ?_;rintro e w11 ⟨rfl,hbx⟩;have gV:=hd_ (hbx.alloc hbx.size (.cells #[.string (itx (yE pk b).num),.string (dec (yE pk b).den)] 101));have fP:=hd_ (EI.o.below gV.o);have cw:=hd_ (cC.o.below gV.o);have cm:=hd_ (cu.o.below gV.o);have cD:=hd_ (cE.o.below gV.o);have cf:=hd_ (cg.o.below gV.o);have D8:=hd_ (Zdm.new w11 (yE pk b));have DE:=hd_ (Nat.le_trans DF.o gV.o.size);obtain⟨k0,k1,-,-⟩:=Ka cD.o;obtain⟨k2,k3,-,-⟩:=Ka cf.o;obtain⟨k4,k5,-,-⟩:=Ka D8.o;have q0:=NW.cell k0;have q1:=NW.cell k1;have q2:=NW.cell k2;have q3:=NW.cell k3;have q4:=NW.cell k4;have q5:=NW.cell k5;clear hbx gV EI cC cu cE cg DF dX k0 k1 k2 k3 k4 k5;go_wp2_with fail;generalize w11.alloc (.cells #[.string (itx (yE pk b).num),.string (dec (yE pk b).den)] 101)=w12 at *;generalize w11.heap.size=gy at *;have gn:Nonempty (NW w12):=⟨⟨w12,Below.refl _ _⟩⟩;have I:Hid (Bw_ w12 w12.drew):=(Below.refl _ _).drew;refine wn_ 6 [(1,0),(1,1),(1,3),(1,4),(0,2),(0,5),(0,6),(0,7)] I ?_;iterate 4 (refine wr_ rfl ?_;go_big_quiet_step (fail);refine wq_ ?_)
      clear gn q0 q1 q2 q3 q4 q5;refine wm_ rfl ?_;go_wp2_with fail;refine cm_ (Ey.o _ (fP.o.bel.trans (I.o.mono fP.o.bel.size))) ?_;rintro e y1 ⟨rfl,hbx⟩;have J1:Hid (Bw_ w12 y1):=I.o.trans (hbx.mono I.o.size);clear hbx I Ey;go_wp2_with fail;refine⟨⟨⟨_,J1.o⟩,rfl⟩,?_⟩;refine wm_ rfl ?_;go_wp2_with fail;refine cm_ (Ex.o _ (fP.o.bel.trans (J1.o.mono fP.o.bel.size))) ?_;rintro e y2 ⟨rfl,hbx⟩;have J2:Hid (Bw_ w12 y2):=J1.o.trans (hbx.mono J1.o.size);clear hbx J1 Ex;go_wp2_with fail;refine⟨⟨⟨_,J2.o⟩,rfl⟩,?_⟩;have IX:=hd_ (fP.o.below J2.o);have aK:=hd_ (cw.o.below J2.o);have jd:=hd_ (cm.o.below J2.o);have iJ:=hd_ (Nat.le_trans DE.o J2.o.size);obtain⟨k0,k1,f0,f1⟩:=Ka aK.o;have jl:=hd_ (aK.o.put (c*xE pk b));have aJ:=hd_ (jd.o.set (Ne.symm Fh.o) (.string (itx (c*xE pk b).num)) (.string (dec (c*xE pk b).den)));have D7:=hd_ (IX.o.set dR (.string (itx (c*xE pk b).num)) (.string (dec (c*xE pk b).den)));have iK:Hid (w.heap.size+2<=((y2.setCell ⟨ga,0,none⟩ (.string (itx (c*xE pk b).num))).setCell ⟨ga,1,none⟩ (.string (dec (c*xE pk b).den))).heap.size):=by
       show _<=_
       rw[World.size_setCell,World.size_setCell];exact iJ.o
      clear fP cw cm cD cf D8 DE J2 IX aK jd iJ;refine wm_ rfl ?_;go_wp2_with fail;generalize (y2.setCell ⟨ga,0,none⟩ (.string (itx (c*xE pk b).num))).setCell ⟨ga,1,none⟩ (.string (dec (c*xE pk b).den))=y3 at *;clear k0 k1 f0 f1;obtain⟨k0,k1,f0,f1⟩:=Ka aJ.o;have mw:=hd_ (jl.o.set Fh.o (.string (itx (c*yE pk b).num)) (.string (dec (c*yE pk b).den)));have mu:=hd_ (aJ.o.put (c*yE pk b));have Fk:=hd_ (D7.o.set eD (.string (itx (c*yE pk b).num)) (.string (dec (c*yE pk b).den)));have BQ:Hid (w.heap.size+2<=((y3.setCell ⟨gb,0,none⟩ (.string (itx (c*yE pk b).num))).setCell ⟨gb,1,none⟩ (.string (dec (c*yE pk b).den))).heap.size):=by
       show _<=_
       rw[World.size_setCell,World.size_setCell];exact iK.o
      clear jl aJ D7 iK;refine wm_ rfl ?_;go_wp2_with fail;generalize (y3.setCell ⟨gb,0,none⟩ (.string (itx (c*yE pk b).num))).setCell ⟨gb,1,none⟩ (.string (dec (c*yE pk b).den))=y4 at *;clear k0 k1 f0 f1;simp only[RP.walkR];generalize hXc:c*xE pk b=vx at *;generalize hYc:c*yE pk b=vy at *;have ff:=hd_ (show c*xE pk b=vx/\Sm (D+355) vx from ⟨hXc,ff.o.2⟩);have fd:=hd_ (show c*yE pk b=vy/\Sm (D+355) vy from ⟨hYc,fd.o.2⟩);clear hXc hYc;obtain⟨k0,k1,-,-⟩:=Ka Fk.o.e0;obtain⟨k2,k3,-,-⟩:=Ka Fk.o.e1;obtain⟨k4,k5,-,-⟩:=Ka mw.o;obtain⟨k6,k7,-,-⟩:=Ka mu.o;have q0:=NW.cell k0;have q1:=NW.cell k1;have q2:=NW.cell k2;have q3:=NW.cell k3;have q4:=NW.cell k4;have q5:=NW.cell k5;have q6:=NW.cell k6;have q7:=NW.cell k7;have gn:Nonempty (NW y4):=⟨⟨y4,Below.refl _ _⟩⟩;have I:Hid (Bw_ y4 y4.drew):=(Below.refl _ _).drew;have Fj:=hd_ (fun X (hX:Bw_ y4 X)=>HL.o.below (Fk.o.bel.trans (hX.mono Fk.o.bel.size)));have Ez:=hd_ (fun X hX=>Zkp X vx vy (D+355) (D+355) ff.o.2 fd.o.2 (by omega) (Fj.o X hX));have FO:=hd_ (fun X hX=>Zkq X vx vy (D+355) (D+355) ff.o.2 fd.o.2 (by omega) (Fj.o X hX));have Gz:=hd_ (fun X hX=>Zxx X _ _ _ _ Eg.o.1 (Zhe ff.o.2 fd.o.2) (by omega) (Fj.o X hX));have Gy:=hd_ (fun X hX=>Zxx X _ _ _ _ Eg.o.2 (Zhf ff.o.2 fd.o.2) (by omega) (Fj.o X hX));have f':loE b (ps.take k) (l.take k)+Zii vx vy=loE b (ps.take (k+1)) (l.take (k+1)):=by first | (rw[gZ.o.1];done) | (rw[gZ.o.1,<- ff.o.1,<- fd.o.1];done)
      have f9:hiE b (ps.take k) (l.take k)+Zij vx vy=hiE b (ps.take (k+1)) (l.take (k+1)):=by first | (rw[gZ.o.2];done) | (rw[gZ.o.2,<- ff.o.1,<- fd.o.1];done)
      rw[f'] at Gz;rw[f9] at Gy;clear f' f9 Fj;unfold fr fv at Ez FO Gz Gy;go_wp2_with fail;clear k0 k1 k2 k3 k4 k5 k6 k7;refine wn_ 10 [(1,0),(1,1),(1,2),(1,5),(1,6),(1,7),(0,3),(0,4),(0,8),(0,9),(0,10),(0,11)] I ?_;iterate 6 (refine wr_ rfl ?_;go_big_quiet_step (fail);refine wq_ ?_)
      clear q0 q1 q2 q3 q4 q5 q6 q7 gn;refine wm_ rfl ?_;go_wp2_with fail;refine cm_ (Ez.o _ I.o) ?_;rintro e x1 ⟨rfl,hbx⟩;have J1:Hid (Bw_ y4 x1):=I.o.trans (hbx.mono I.o.size);clear hbx I Ez;go_wp2_with fail;refine⟨⟨⟨_,J1.o⟩,rfl⟩,?_⟩;refine wm_ rfl ?_;go_wp2_with fail;refine cm_ (Gz.o _ J1.o) ?_;rintro e x2 ⟨rfl,hbx⟩;have J2:Hid (Bw_ y4 x2):=J1.o.trans (hbx.mono J1.o.size);clear hbx J1 Gz;go_wp2_with fail;refine⟨⟨⟨_,J2.o⟩,rfl⟩,?_⟩;refine wm_ rfl ?_;go_wp2_with fail;refine cm_ (FO.o _ J2.o) ?_;rintro e x3 ⟨rfl,hbx⟩;have J3:Hid (Bw_ y4 x3):=J2.o.trans (hbx.mono J2.o.size);clear hbx J2 FO;go_wp2_with fail;refine⟨⟨⟨_,J3.o⟩,rfl⟩,?_⟩;refine wm_ rfl ?_;go_wp2_with fail;refine cm_ (Gy.o _ J3.o) ?_;rintro e x4 ⟨rfl,hbx⟩;have J4:Hid (Bw_ y4 x4):=J3.o.trans (hbx.mono J3.o.size);clear hbx J3 Gy;go_wp2_with fail;refine⟨⟨⟨_,J4.o⟩,rfl⟩,?_⟩;have F7:=hd_ (Fk.o.below J4.o);have Dz:=hd_ (Nat.le_trans BQ.o J4.o.size);obtain⟨k0,k1,f0,f1⟩:=Ka F7.o.e0;obtain⟨k2,k3,f2,f3⟩:=Ka F7.o.e1;have D6:=hd_ (F7.o.put (loE b (ps.take (k+1)) (l.take (k+1))) (hiE b (ps.take (k+1)) (l.take (k+1))));have DA:Hid (w.heap.size+2<=(Zd x4 w.heap.size (loE b (ps.take (k+1)) (l.take (k+1))) (hiE b (ps.take (k+1)) (l.take (k+1)))).heap.size):=by
       show _<=_
       unfold Zd;rw[World.size_setCell,World.size_setCell,World.size_setCell,World.size_setCell];exact Dz.o
      unfold Zd at D6 DA;clear F7 J4 Dz;refine wm_ rfl ?_;go_wp2_with fail;refine wm_ rfl ?_;go_wp2_with fail;simp only[RP.walkR];go_wp2_with fail;refine⟨⟨k+1,by omega,by go_num,D6,DA⟩,by simp[intOf];omega⟩
    ·simp only[Zk5,dz_,Zid,tz_];go_wp2_with fail;obtain⟨gb,eD⟩:∃ x,x=w2.heap.size:=⟨_,rfl⟩;have I3:Hid (Bw_ w2 (w2.alloc (.cells #[.string ⟨#[]⟩,.string ⟨#[]⟩] 101)).drew):=Qg ((Below.refl _ _).alloc nr_ _) 1;have N3:Hid ((w2.alloc (.cells #[.string ⟨#[]⟩,.string ⟨#[]⟩] 101)).drew.heap[gb]?=some (.cells #[.string ⟨#[]⟩,.string ⟨#[]⟩] 101 (0,0))):=by rw[eD];exact heap_alloc_new w2 _
     have Z3:Hid ((w2.alloc (.cells #[.string ⟨#[]⟩,.string ⟨#[]⟩] 101)).drew.heap.size=w2.heap.size+1):=by show _=_;simp
     rw[<- eD];have nF:=hd_ eD;clear eD;generalize (w2.alloc (.cells #[.string ⟨#[]⟩,.string ⟨#[]⟩] 101)).drew=w3 at *;refine⟨⟨⟨_,I3.o⟩,rfl⟩,?_⟩;refine RP.walkT_move ?_;simp only[Zk5,dz_,Zid,tz_];go_wp2_with fail;obtain⟨ga,dR⟩:∃ x,x=w3.heap.size:=⟨_,rfl⟩;have I4:Hid (Bw_ w2 (w3.alloc (.cells #[.string ⟨#[]⟩,.string ⟨#[]⟩] 101))):=I3.o.alloc I3.o.size _;have N4:Hid ((w3.alloc (.cells #[.string ⟨#[]⟩,.string ⟨#[]⟩] 101)).heap[gb]?=some (.cells #[.string ⟨#[]⟩,.string ⟨#[]⟩] 101 (0,0))):=by
      show _=_
      rw[((Below.refl _ w3).alloc nr_ _).block gb (Array.getElem?_eq_some_iff.1 N3.o).1];exact N3.o
     have M4:Hid ((w3.alloc (.cells #[.string ⟨#[]⟩,.string ⟨#[]⟩] 101)).heap[ga]?=some (.cells #[.string ⟨#[]⟩,.string ⟨#[]⟩] 101 (0,0))):=by rw[dR];exact heap_alloc_new w3 _
     have Fu:gb≠ga:=by have:=Z3.o;have:=nF.o;omega
     have ft:w2.heap.size<=gb:=by have:=nF.o;omega
     have Db:w2.heap.size<=ga:=by have:=Z3.o;omega
     rw[<- dR];clear N3 I3 dR Z3;generalize w3.alloc (.cells #[.string ⟨#[]⟩,.string ⟨#[]⟩] 101)=w4 at *;have NA:=M4;have NB:=N4;have eE:=Db;have eC:=ft;have Fh:=hd_ (Ne.symm Fu);clear N4 M4 ft Db Fu;refine⟨⟨⟨_,I4.o⟩,rfl⟩,?_⟩;refine RP.walkT_move ?_;simp only[Zk5,dz_,Zid,tz_];obtain⟨n0,n1,f0,f1⟩:=Ka NA.o;go_wp2_with fail;have I5:=hd_ ((I4.o.setCell (p:=⟨ga,0,none⟩) eE (.string (itx c.num))).setCell (p:=⟨ga,1,none⟩) eE (.string (dec c.den)));have jk:Hid (Zdm ((w4.setCell ⟨ga,0,none⟩ (.string (itx c.num))).setCell ⟨ga,1,none⟩ (.string (dec c.den))) ga c):=Zah NA.o;have Fv:Hid (((w4.setCell ⟨ga,0,none⟩ (.string (itx c.num))).setCell ⟨ga,1,none⟩ (.string (dec c.den))).heap[gb]?=some (.cells #[.string ⟨#[]⟩,.string ⟨#[]⟩] 101 (0,0))):=by
      show _=_
      rw[Below.heap_setCell _ _ _ _ (Ne.symm Fh.o),Below.heap_setCell _ _ _ _ (Ne.symm Fh.o)];exact NB.o
     clear n0 n1 f0 f1 NA NB I4;generalize (w4.setCell ⟨ga,0,none⟩ (.string (itx c.num))).setCell ⟨ga,1,none⟩ (.string (dec c.den))=w5 at *;refine⟨⟨⟨_,I5.o⟩,rfl⟩,?_⟩;refine RP.walkT_move ?_;simp only[Zk5,dz_,Zid,tz_];obtain⟨n0,n1,f0,f1⟩:=Ka Fv.o;go_wp2_with fail;have I6:=hd_ ((I5.o.setCell (p:=⟨gb,0,none⟩) eC (.string (itx c.num))).setCell (p:=⟨gb,1,none⟩) eC (.string (dec c.den)));have aI:Hid (Zdm ((w5.setCell ⟨gb,0,none⟩ (.string (itx c.num))).setCell ⟨gb,1,none⟩ (.string (dec c.den))) gb c):=Zah Fv.o;have aL:=hd_ (jk.o.set Fh.o (.string (itx c.num)) (.string (dec c.den)));clear n0 n1 f0 f1 jk Fv I5;generalize (w5.setCell ⟨gb,0,none⟩ (.string (itx c.num))).setCell ⟨gb,1,none⟩ (.string (dec c.den))=w6 at *;have FH:=hd_ (ei.o.below I6.o);have jp:=hd_ (aM.o.below I6.o);have dR:w.heap.size+2<=ga:=by have:=dF.o;omega
     have eD:w.heap.size+2<=gb:=by have:=dF.o;omega
     have Lk:Hid (g8≠ga):=by have:=AC.o;show _≠_;omega
     have Li:Hid (g8≠gb):=by have:=AC.o;show _≠_;omega
     have BP:=hd_ (Nat.le_trans dF.o I6.o.size);clear ei aM I6 eE eC dF AC;simp only[RP.walkT];have Jg:=Le.o w6 FH.o.bel;have cp:=eX.o w6 FH.o.bel
     by_cases h2:pk=2
     ·have jO:(pk != 2)=false:=by rw[h2];rfl
      have ff:Hid (c=c*xE pk b/\Sm (D+355) c):=⟨by rw[h2];unfold xE;rw[if_pos rfl,Rat.mul_one],dL.o.le (by omega)⟩;have fd:Hid (c=c*yE pk b/\Sm (D+355) c):=⟨by rw[h2];unfold yE;rw[if_pos rfl,Rat.mul_one],dL.o.le (by omega)⟩;clear FI;obtain⟨k0,k1,-,-⟩:=Ka FH.o.e0;obtain⟨k2,k3,-,-⟩:=Ka FH.o.e1;obtain⟨k4,k5,-,-⟩:=Ka aL.o;obtain⟨k6,k7,-,-⟩:=Ka aI.o;have q0:=NW.cell k0;have q1:=NW.cell k1;have q2:=NW.cell k2;have q3:=NW.cell k3;have q4:=NW.cell k4;have q5:=NW.cell k5;have q6:=NW.cell k6;have q7:=NW.cell k7;have gn:Nonempty (NW w6):=⟨⟨w6,Below.refl _ _⟩⟩;have I:Hid (Bw_ w6 w6.drew):=(Below.refl _ _).drew;have Fj:=hd_ (fun X (hX:Bw_ w6 X)=>HL.o.below (FH.o.bel.trans (hX.mono FH.o.bel.size)));have Ez:=hd_ (fun X hX=>Zkp X c c (D+355) (D+355) ff.o.2 fd.o.2 (by omega) (Fj.o X hX));have FO:=hd_ (fun X hX=>Zkq X c c (D+355) (D+355) ff.o.2 fd.o.2 (by omega) (Fj.o X hX));have Gz:=hd_ (fun X hX=>Zxx X _ _ _ _ Eg.o.1 (Zhe ff.o.2 fd.o.2) (by omega) (Fj.o X hX));have Gy:=hd_ (fun X hX=>Zxx X _ _ _ _ Eg.o.2 (Zhf ff.o.2 fd.o.2) (by omega) (Fj.o X hX));have f':loE b (ps.take k) (l.take k)+Zii c c=loE b (ps.take (k+1)) (l.take (k+1)):=by first | (rw[gZ.o.1];done) | (rw[gZ.o.1,<- ff.o.1,<- fd.o.1];done)
      have f9:hiE b (ps.take k) (l.take k)+Zij c c=hiE b (ps.take (k+1)) (l.take (k+1)):=by first | (rw[gZ.o.2];done) | (rw[gZ.o.2,<- ff.o.1,<- fd.o.1];done)
      rw[f'] at Gz;rw[f9] at Gy;clear f' f9 Fj;unfold fr fv at Ez FO Gz Gy;go_wp2_with fail;clear k0 k1 k2 k3 k4 k5 k6 k7;refine wn_ 10 [(1,0),(1,1),(1,2),(1,5),(1,6),(1,7),(0,3),(0,4),(0,8),(0,9),(0,10),(0,11)] I ?_;iterate 6 (refine wr_ rfl ?_;go_big_quiet_step (fail);refine wq_ ?_)
      clear q0 q1 q2 q3 q4 q5 q6 q7 gn;refine wm_ rfl ?_;go_wp2_with fail;refine cm_ (Ez.o _ I.o) ?_;rintro e x1 ⟨rfl,hbx⟩;have J1:Hid (Bw_ w6 x1):=I.o.trans (hbx.mono I.o.size);clear hbx I Ez;go_wp2_with fail;refine⟨⟨⟨_,J1.o⟩,rfl⟩,?_⟩;refine wm_ rfl ?_;go_wp2_with fail;refine cm_ (Gz.o _ J1.o) ?_;rintro e x2 ⟨rfl,hbx⟩;have J2:Hid (Bw_ w6 x2):=J1.o.trans (hbx.mono J1.o.size);clear hbx J1 Gz;go_wp2_with fail;refine⟨⟨⟨_,J2.o⟩,rfl⟩,?_⟩;refine wm_ rfl ?_;go_wp2_with fail;refine cm_ (FO.o _ J2.o) ?_;rintro e x3 ⟨rfl,hbx⟩;have J3:Hid (Bw_ w6 x3):=J2.o.trans (hbx.mono J2.o.size);clear hbx J2 FO;go_wp2_with fail;refine⟨⟨⟨_,J3.o⟩,rfl⟩,?_⟩;refine wm_ rfl ?_;go_wp2_with fail;refine cm_ (Gy.o _ J3.o) ?_;rintro e x4 ⟨rfl,hbx⟩;have J4:Hid (Bw_ w6 x4):=J3.o.trans (hbx.mono J3.o.size);clear hbx J3 Gy;go_wp2_with fail;refine⟨⟨⟨_,J4.o⟩,rfl⟩,?_⟩;have F7:=hd_ (FH.o.below J4.o);have Dz:=hd_ (Nat.le_trans BP.o J4.o.size);obtain⟨k0,k1,f0,f1⟩:=Ka F7.o.e0;obtain⟨k2,k3,f2,f3⟩:=Ka F7.o.e1;have D6:=hd_ (F7.o.put (loE b (ps.take (k+1)) (l.take (k+1))) (hiE b (ps.take (k+1)) (l.take (k+1))));have DA:Hid (w.heap.size+2<=(Zd x4 w.heap.size (loE b (ps.take (k+1)) (l.take (k+1))) (hiE b (ps.take (k+1)) (l.take (k+1)))).heap.size):=by
       show _<=_
       unfold Zd;rw[World.size_setCell,World.size_setCell,World.size_setCell,World.size_setCell];exact Dz.o
      unfold Zd at D6 DA;clear F7 J4 Dz;refine wm_ rfl ?_;go_wp2_with fail;refine wm_ rfl ?_;go_wp2_with fail;simp only[RP.walkR];go_wp2_with fail;refine⟨⟨k+1,by omega,by go_num,D6,DA⟩,by simp[intOf];omega⟩
     ·have jO:(pk != 2)=true:=by rw[bne_iff_ne];exact h2
      have Ob:(pk==2)=false:=by rw[beq_eq_false_iff_ne];exact h2
      have ff:Hid (c*xE pk b=c*xE pk b/\Sm (D+355) (c*xE pk b)):=⟨rfl,dL.o.mul CJ.o.1⟩;have fd:Hid (c*yE pk b=c*yE pk b/\Sm (D+355) (c*yE pk b)):=⟨rfl,dL.o.mul CJ.o.2⟩;have Ed:lgN pk b+2<2^K10/\2^b+1<2^K10:=by
       rw[Hq.o];exact Qbi lU.o DY.o
      have eT:=hd_ (fun W (hW:Bw_ w W)=>Qf8 W (lgN pk b) (2^b) (by omega) Ed.2 (Nat.two_pow_pos b) (HL.o.below hW));have dX:=hd_ (fun W (hW:Bw_ w W)=>Qf8 W (lgN pk b+1) (2^b) (by omega) Ed.2 (Nat.two_pow_pos b) (HL.o.below hW));have ED:=hd_ (fun W (hW:Bw_ w W)=>Qgz W (lgN pk b) 1 K10 (by decide) (by omega) (Nat.one_lt_two_pow (by decide)) (HL.o.below hW));rw[Zt] at ED;have CZ:mkRat ((lgN pk b:Nat):Int) (2^b)=xE pk b:=by unfold xE;rw[if_neg h2]
      have AF:mkRat ((lgN pk b+1:Nat):Int) (2^b)=yE pk b:=by unfold yE;rw[if_neg h2]
      rw[CZ] at eT;rw[AF] at dX;have Ey:=hd_ (fun W (hW:Bw_ w W)=>Qd7 W c (xE pk b) D 355 dL.o CJ.o.1 (by omega) (HL.o.below hW));have Ex:=hd_ (fun W (hW:Bw_ w W)=>Qd7 W c (yE pk b) D 355 dL.o CJ.o.2 (by omega) (HL.o.below hW));clear Ed CZ AF h2;unfold fr fv at eT dX Ey Ex;go_wp2_with fail;refine cm_ (FI.o _ FH.o.bel) ?_;rintro e w7 ⟨rfl,hbx⟩;have aG:=hd_ (FH.o.below hbx);have jh:=hd_ (aL.o.below hbx);have jf:=hd_ (aI.o.below hbx);have jo:=hd_ (jp.o.below hbx);have BO:=hd_ (Nat.le_trans BP.o hbx.size);clear hbx FI FH aL aI jp BP Jg cp;go_wp2_with fail;refine cm_ (eT.o _ aG.o.bel) ?_;rintro e w8 ⟨rfl,hbx⟩;have gV:=hd_ (hbx.alloc hbx.size (.cells #[.string (itx (xE pk b).num),.string (dec (xE pk b).den)] 101));have aF:=hd_ (aG.o.below gV.o);have jg:=hd_ (jh.o.below gV.o);have je:=hd_ (jf.o.below gV.o);have jm:=hd_ (jo.o.below gV.o);have DC:=hd_ (Nat.le_trans BO.o gV.o.size);have FX:=hd_ (Zdm.new w8 (xE pk b));have A8:=hd_ (Nat.le_trans BO.o hbx.size);clear hbx gV aG jh jf jo BO eT;go_wp2_with fail;generalize w8.alloc (.cells #[.string (itx (xE pk b).num),.string (dec (xE pk b).den)] 101)=w9 at *;generalize w8.heap.size=gx at *;refine cm_ (ED.o _ aF.o.bel) ?_;rintro e w10 ⟨rfl,hbx⟩;have EI:=hd_ (aF.o.below hbx);have cC:=hd_ (jg.o.below hbx);have cu:=hd_ (je.o.below hbx);have cE:=hd_ (jm.o.below hbx);have cg:=hd_ (FX.o.below hbx);have DF:=hd_ (Nat.le_trans DC.o hbx.size);clear hbx aF jg je jm FX DC ED;go_wp2_with fail;refine cm_ (dX.o _ EI.o.bel) ?_;rintro e w11 ⟨rfl,hbx⟩;have gV:=hd_ (hbx.alloc hbx.size (.cells #[.string (itx (yE pk b).num),.string (dec (yE pk b).den)] 101));have fP:=hd_ (EI.o.below gV.o);have cw:=hd_ (cC.o.below gV.o);have cm:=hd_ (cu.o.below gV.o);have cD:=hd_ (cE.o.below gV.o);have cf:=hd_ (cg.o.below gV.o);have D8:=hd_ (Zdm.new w11 (yE pk b));have DE:=hd_ (Nat.le_trans DF.o gV.o.size);obtain⟨k0,k1,-,-⟩:=Ka cD.o;obtain⟨k2,k3,-,-⟩:=Ka cf.o;obtain⟨k4,k5,-,-⟩:=Ka D8.o;have q0:=NW.cell k0;have q1:=NW.cell k1;have q2:=NW.cell k2;have q3:=NW.cell k3;have q4:=NW.cell k4;have q5:=NW.cell k5;clear hbx gV EI cC cu cE cg DF dX k0 k1 k2 k3 k4 k5;go_wp2_with fail;generalize w11.alloc (.cells #[.string (itx (yE pk b).num),.string (dec (yE pk b).den)] 101)=w12 at *;generalize w11.heap.size=gy at *;have gn:Nonempty (NW w12):=⟨⟨w12,Below.refl _ _⟩⟩;have I:Hid (Bw_ w12 w12.drew):=(Below.refl _ _).drew;refine wn_ 6 [(1,0),(1,1),(1,3),(1,4),(0,2),(0,5),(0,6),(0,7)] I ?_;iterate 4 (refine wr_ rfl ?_;go_big_quiet_step (fail);refine wq_ ?_)
      clear gn q0 q1 q2 q3 q4 q5;refine wm_ rfl ?_;go_wp2_with fail;refine cm_ (Ey.o _ (fP.o.bel.trans (I.o.mono fP.o.bel.size))) ?_;rintro e y1 ⟨rfl,hbx⟩;have J1:Hid (Bw_ w12 y1):=I.o.trans (hbx.mono I.o.size);clear hbx I Ey;go_wp2_with fail;refine⟨⟨⟨_,J1.o⟩,rfl⟩,?_⟩;refine wm_ rfl ?_;go_wp2_with fail;refine cm_ (Ex.o _ (fP.o.bel.trans (J1.o.mono fP.o.bel.size))) ?_;rintro e y2 ⟨rfl,hbx⟩;have J2:Hid (Bw_ w12 y2):=J1.o.trans (hbx.mono J1.o.size);clear hbx J1 Ex;go_wp2_with fail;refine⟨⟨⟨_,J2.o⟩,rfl⟩,?_⟩;have IX:=hd_ (fP.o.below J2.o);have aK:=hd_ (cw.o.below J2.o);have jd:=hd_ (cm.o.below J2.o);have iJ:=hd_ (Nat.le_trans DE.o J2.o.size);obtain⟨k0,k1,f0,f1⟩:=Ka aK.o;have jl:=hd_ (aK.o.put (c*xE pk b));have aJ:=hd_ (jd.o.set (Ne.symm Fh.o) (.string (itx (c*xE pk b).num)) (.string (dec (c*xE pk b).den)));have D7:=hd_ (IX.o.set dR (.string (itx (c*xE pk b).num)) (.string (dec (c*xE pk b).den)));have iK:Hid (w.heap.size+2<=((y2.setCell ⟨ga,0,none⟩ (.string (itx (c*xE pk b).num))).setCell ⟨ga,1,none⟩ (.string (dec (c*xE pk b).den))).heap.size):=by
       show _<=_
       rw[World.size_setCell,World.size_setCell];exact iJ.o
      clear fP cw cm cD cf D8 DE J2 IX aK jd iJ;refine wm_ rfl ?_;go_wp2_with fail;generalize (y2.setCell ⟨ga,0,none⟩ (.string (itx (c*xE pk b).num))).setCell ⟨ga,1,none⟩ (.string (dec (c*xE pk b).den))=y3 at *;clear k0 k1 f0 f1;obtain⟨k0,k1,f0,f1⟩:=Ka aJ.o;have mw:=hd_ (jl.o.set Fh.o (.string (itx (c*yE pk b).num)) (.string (dec (c*yE pk b).den)));have mu:=hd_ (aJ.o.put (c*yE pk b));have Fk:=hd_ (D7.o.set eD (.string (itx (c*yE pk b).num)) (.string (dec (c*yE pk b).den)));have BQ:Hid (w.heap.size+2<=((y3.setCell ⟨gb,0,none⟩ (.string (itx (c*yE pk b).num))).setCell ⟨gb,1,none⟩ (.string (dec (c*yE pk b).den))).heap.size):=by
       show _<=_
       rw[World.size_setCell,World.size_setCell];exact iK.o
      clear jl aJ D7 iK;refine wm_ rfl ?_;go_wp2_with fail;generalize (y3.setCell ⟨gb,0,none⟩ (.string (itx (c*yE pk b).num))).setCell ⟨gb,1,none⟩ (.string (dec (c*yE pk b).den))=y4 at *;clear k0 k1 f0 f1;simp only[RP.walkR];generalize hXc:c*xE pk b=vx at *;generalize hYc:c*yE pk b=vy at *;have ff:=hd_ (show c*xE pk b=vx/\Sm (D+355) vx from ⟨hXc,ff.o.2⟩);have fd:=hd_ (show c*yE pk b=vy/\Sm (D+355) vy from ⟨hYc,fd.o.2⟩);clear hXc hYc;obtain⟨k0,k1,-,-⟩:=Ka Fk.o.e0;obtain⟨k2,k3,-,-⟩:=Ka Fk.o.e1;obtain⟨k4,k5,-,-⟩:=Ka mw.o;obtain⟨k6,k7,-,-⟩:=Ka mu.o;have q0:=NW.cell k0;have q1:=NW.cell k1;have q2:=NW.cell k2;have q3:=NW.cell k3;have q4:=NW.cell k4;have q5:=NW.cell k5;have q6:=NW.cell k6;have q7:=NW.cell k7;have gn:Nonempty (NW y4):=⟨⟨y4,Below.refl _ _⟩⟩;have I:Hid (Bw_ y4 y4.drew):=(Below.refl _ _).drew;have Fj:=hd_ (fun X (hX:Bw_ y4 X)=>HL.o.below (Fk.o.bel.trans (hX.mono Fk.o.bel.size)));have Ez:=hd_ (fun X hX=>Zkp X vx vy (D+355) (D+355) ff.o.2 fd.o.2 (by omega) (Fj.o X hX));have FO:=hd_ (fun X hX=>Zkq X vx vy (D+355) (D+355) ff.o.2 fd.o.2 (by omega) (Fj.o X hX));have Gz:=hd_ (fun X hX=>Zxx X _ _ _ _ Eg.o.1 (Zhe ff.o.2 fd.o.2) (by omega) (Fj.o X hX));have Gy:=hd_ (fun X hX=>Zxx X _ _ _ _ Eg.o.2 (Zhf ff.o.2 fd.o.2) (by omega) (Fj.o X hX));have f':loE b (ps.take k) (l.take k)+Zii vx vy=loE b (ps.take (k+1)) (l.take (k+1)):=by first | (rw[gZ.o.1];done) | (rw[gZ.o.1,<- ff.o.1,<- fd.o.1];done)
      have f9:hiE b (ps.take k) (l.take k)+Zij vx vy=hiE b (ps.take (k+1)) (l.take (k+1)):=by first | (rw[gZ.o.2];done) | (rw[gZ.o.2,<- ff.o.1,<- fd.o.1];done)
      rw[f'] at Gz;rw[f9] at Gy;clear f' f9 Fj;unfold fr fv at Ez FO Gz Gy;go_wp2_with fail;clear k0 k1 k2 k3 k4 k5 k6 k7;refine wn_ 10 [(1,0),(1,1),(1,2),(1,5),(1,6),(1,7),(0,3),(0,4),(0,8),(0,9),(0,10),(0,11)] I ?_;iterate 6 (refine wr_ rfl ?_;go_big_quiet_step (fail);refine wq_ ?_)
      clear q0 q1 q2 q3 q4 q5 q6 q7 gn;refine wm_ rfl ?_;go_wp2_with fail;refine cm_ (Ez.o _ I.o) ?_;rintro e x1 ⟨rfl,hbx⟩;have J1:Hid (Bw_ y4 x1):=I.o.trans (hbx.mono I.o.size);clear hbx I Ez;go_wp2_with fail;refine⟨⟨⟨_,J1.o⟩,rfl⟩,?_⟩;refine wm_ rfl ?_;go_wp2_with fail;refine cm_ (Gz.o _ J1.o) ?_;rintro e x2 ⟨rfl,hbx⟩;have J2:Hid (Bw_ y4 x2):=J1.o.trans (hbx.mono J1.o.size);clear hbx J1 Gz;go_wp2_with fail;refine⟨⟨⟨_,J2.o⟩,rfl⟩,?_⟩;refine wm_ rfl ?_;go_wp2_with fail;refine cm_ (FO.o _ J2.o) ?_;rintro e x3 ⟨rfl,hbx⟩;have J3:Hid (Bw_ y4 x3):=J2.o.trans (hbx.mono J2.o.size);clear hbx J2 FO;go_wp2_with fail;refine⟨⟨⟨_,J3.o⟩,rfl⟩,?_⟩;refine wm_ rfl ?_;go_wp2_with fail;refine cm_ (Gy.o _ J3.o) ?_;rintro e x4 ⟨rfl,hbx⟩;have J4:Hid (Bw_ y4 x4):=J3.o.trans (hbx.mono J3.o.size);clear hbx J3 Gy;go_wp2_with fail;refine⟨⟨⟨_,J4.o⟩,rfl⟩,?_⟩;have F7:=hd_ (Fk.o.below J4.o);have Dz:=hd_ (Nat.le_trans BQ.o J4.o.size);obtain⟨k0,k1,f0,f1⟩:=Ka F7.o.e0;obtain⟨k2,k3,f2,f3⟩:=Ka F7.o.e1;have D6:=hd_ (F7.o.put (loE b (ps.take (k+1)) (l.take (k+1))) (hiE b (ps.take (k+1)) (l.take (k+1))));have DA:Hid (w.heap.size+2<=(Zd x4 w.heap.size (loE b (ps.take (k+1)) (l.take (k+1))) (hiE b (ps.take (k+1)) (l.take (k+1)))).heap.size):=by
       show _<=_
       unfold Zd;rw[World.size_setCell,World.size_setCell,World.size_setCell,World.size_setCell];exact Dz.o
      unfold Zd at D6 DA;clear F7 J4 Dz;refine wm_ rfl ?_;go_wp2_with fail;refine wm_ rfl ?_;go_wp2_with fail;simp only[RP.walkR];go_wp2_with fail;refine⟨⟨k+1,by omega,by go_num,D6,DA⟩,by simp[intOf];omega⟩
  ·obtain rfl:k=n:=by omega
   have gi:¬ (k:Int)<k:=by omega
   have el:=Hv.o trivial;rw[<- el.1,<- el.2] at HE;have fZ:=hd_ el;clear el Hv;have CC:∀ p:EnW w vlo vhi,p.w.cell? ⟨w.heap.size,0,none⟩=some (.string (itx vlo.num)):=fun p=>p.cells.1
   have Bv:∀ p:EnW w vlo vhi,p.w.cell? ⟨w.heap.size,1,none⟩=some (.string (dec vlo.den)):=fun p=>p.cells.2.1
   have Bu:∀ p:EnW w vlo vhi,p.w.cell? ⟨w.heap.size+1,0,none⟩=some (.string (itx vhi.num)):=fun p=>p.cells.2.2.1
   have Bt:∀ p:EnW w vlo vhi,p.w.cell? ⟨w.heap.size+1,1,none⟩=some (.string (dec vhi.den)):=fun p=>p.cells.2.2.2
   have gn:Nonempty (EnW w vlo vhi):=⟨⟨_,HE.o⟩⟩;have aE:=hd_ (HE.o.below (Qa wr 1));go_wp2_with fail;refine RP.wp_region_readers 3 [(1,0),(1,1),(0,2),(0,3)] (fun w'=>∃ p:EnW w vlo vhi,w'=p.w) (by kernel_rfl) (by kernel_rfl) ?_ ?_
   ·exact⟨⟨_,aE.o⟩,rfl⟩
   iterate 2 (refine wr_ rfl ?_;go_big_quiet_step (fail);refine wq_ ?_)
   clear gn CC Bv Bu Bt;obtain⟨k0,k1,f0,f1⟩:=Ka HE.o.e0;have EJ:=hd_ (aE.o.put0 vlo);refine wm_ rfl ?_;go_wp2_with fail;refine⟨⟨⟨_,EJ.o⟩,rfl⟩,?_⟩;have ei:Hid (EnI w ((wr.setCell ⟨w.heap.size,0,none⟩ (.string (itx vlo.num))).setCell ⟨w.heap.size,1,none⟩ (.string (dec vlo.den))).drew vlo vhi):=EJ.o;clear k0 k1 f0 f1 EJ aE HE;generalize ((wr.setCell ⟨w.heap.size,0,none⟩ (.string (itx vlo.num))).setCell ⟨w.heap.size,1,none⟩ (.string (dec vlo.den))).drew=wz at *;obtain⟨k2,k3,f2,f3⟩:=Ka ei.o.e1;have dY:=hd_ (ei.o.put1 vhi);refine wm_ rfl ?_;go_wp2_with fail;simp only[RP.walkR];generalize (wz.setCell ⟨w.heap.size+1,0,none⟩ (.string (itx vhi.num))).setCell ⟨w.heap.size+1,1,none⟩ (.string (dec vhi.den))=w9 at *;clear k2 k3 f2 f3 ei;obtain⟨c0',c1',-,-⟩:=Ka dY.o.e0;obtain⟨c2',c3',-,-⟩:=Ka dY.o.e1;go_wp2_with fail;exact bodyPost_ret (v := .tuple #[.agg #[.string (itx vlo.num),.string (dec vlo.den)],.agg #[.string (itx vhi.num),.string (dec vhi.den)]]) (by simp[results,Tryz.results124,go_sem,c0',c1',c2',c3']) rfl ⟨rfl,dY.o.bel⟩
structure Zxq (w:World) (V:List Value) (ls:List (List Int)):Prop where
 len:V.length=ls.length
 at_:∀ i,i<ls.length->∃ a' c',V[i]?=some (.slice a' (ls.getD i []).length c')/\Rd w a' (Vk (ls.getD i []))
theorem Zxq.below{w w':World}{V:List Value}{ls:List (List Int)}{B:Nat}(h:Zxq w V ls)(hb:Below B w w')(hB:w.heap.size<=B):Zxq w' V ls :=
 ⟨h.len,fun i hi=>by obtain⟨a',c',h1,h2⟩:=h.at_ i hi;exact⟨a',c',h1,h2.below hb hB⟩⟩
theorem Zxq.nil(w:World):Zxq w [] []:=⟨rfl,fun i hi=>absurd hi (Nat.not_lt_zero i)⟩
theorem Zxq.append{w:World}{V V':List Value}{ls ls':List (List Int)}(h:Zxq w V ls)(k:Zxq w V' ls'):Zxq w (V++V') (ls++ls'):=by
 refine⟨by simp[h.len,k.len],fun i hi=>?_⟩
 by_cases Dp:i<ls.length
 ·obtain⟨a',c',h1,h2⟩:=h.at_ i Dp;have e:(ls++ls').getD i []=ls.getD i []:=by rw[List.getD_eq_getElem?_getD,List.getD_eq_getElem?_getD,List.getElem?_append_left Dp]
  rw[e];exact⟨a',c',by rw[List.getElem?_append_left (by rw[h.len];exact Dp)];exact h1,h2⟩
 ·rw[List.length_append] at hi;obtain⟨a',c',h1,h2⟩:=k.at_ (i-ls.length) (by omega);have e:(ls++ls').getD i []=ls'.getD (i-ls.length) []:=by rw[List.getD_eq_getElem?_getD,List.getD_eq_getElem?_getD,List.getElem?_append_right (by omega)]
  rw[e];exact⟨a',c',by rw[List.getElem?_append_right (by rw[h.len];omega),h.len];exact h1,h2⟩
theorem Zxq.one{w:World}{V:List Value}{ls:List (List Int)}(h:Zxq w V ls):∀ u∈V,u.oneCell'=true:=fun u hu=>by
 obtain⟨i,hi,rfl⟩:=List.mem_iff_getElem.1 hu;obtain⟨a',c',h1,_⟩:=h.at_ i (by rw[<- h.len];exact hi);rw[List.getElem?_eq_getElem hi] at h1;rw[Option.some.inj h1];rfl
def Qhe (w:World) (n:Nat) (l:List Int) (e:Ending):Prop:=(mx l=0/\∃ a c,e = .returned (.tuple #[.slice a n c,.int .i64 0])/\Rd w a (Vk l))\/(mx l≠0/\e = .returned (.tuple #[.slice none 0 0,.int .i64 4]))
theorem Qhe.form{w:World}{n:Nat}{l:List Int}{e:Ending}(h:Qhe w n l e):∃ v1 v2,e = .returned (.tuple #[v1,v2]):=by
 rcases h with⟨_,a,c,h,_⟩|⟨_,h⟩
 ·exact⟨_,_,h⟩
 ·exact⟨_,_,h⟩
def Ok (c:Nat->Nat->Int) (u v:Nat):Prop:=0<=c v u/\(c v u=0->u<v)
structure Srt (c:Nat->Nat->Int) (n i:Nat) (F:Nat->Nat):Prop where
 lt:∀ k,k<n->F k<n
 inj:∀ k m,k<n->m<n->F k=F m->k=m
 hi:∀ k,i<=k->k<n->F k=k
 lo:∀ k,k<i->F k<i
 adj:∀ k,k+1<i->Ok c (F k) (F (k+1))
structure Ins (c:Nat->Nat->Int) (n i j:Nat) (F:Nat->Nat):Prop where
 lt:∀ k,k<n->F k<n
 inj:∀ k m,k<n->m<n->F k=F m->k=m
 x:F j=i
 hi:∀ k,i<k->k<n->F k=k
 lo:∀ k,k<=i->F k<=i
 a1:∀ k,k+1<j->Ok c (F k) (F (k+1))
 a2:∀ k,j<k->k+1<=i->Ok c (F k) (F (k+1))
 a3:∀ k,k+1=j->j<i->Ok c (F k) (F (j+1))
 a4:j<i->Ok c i (F (j+1))
 ji:j<=i
 n:i<n
theorem Srt.first(c:Nat->Nat->Int)(n:Nat):Srt c n 1 fun k=>k :=
 ⟨fun _ h=>h,fun _ _ _ _ h=>h,fun _ _ _=>rfl,fun _ h=>h,fun _ h=>by omega⟩
theorem Srt.start{c:Nat->Nat->Int}{n i:Nat}{F:Nat->Nat}(h:Srt c n i F)(hi:i<n):Ins c n i i F :=
 ⟨h.lt,h.inj,h.hi i nr_ hi,fun k h1 h2=>h.hi k (by omega) h2,fun k hk=>by
  rcases Nat.lt_or_ge k i with h1|h1
  ·exact Nat.le_of_lt (h.lo k h1)
  ·have:k=i:=by omega
   rw[this,h.hi i nr_ hi];exact Nat.le_refl _,h.adj,fun k h1 h2=>by omega,fun k h1 h2=>by omega,fun h1=>by omega,Nat.le_refl _,hi⟩
theorem Ins.stop{c:Nat->Nat->Int}{n i j:Nat}{F:Nat->Nat}(h:Ins c n i j F)(hs:j=0\/0<=c (F j) (F (j-1))):Srt c n (i+1) F:=by
 refine⟨h.lt,h.inj,fun k h1 h2=>h.hi k (by omega) h2,fun k hk=>Nat.lt_succ_of_le (h.lo k (by omega)),fun k hk=>?_⟩;have GV:=h.ji;have hn:=h.n;rcases Nat.lt_trichotomy (k+1) j with h1|h1|h1
 ·exact h.a1 k h1
 ·rcases hs with h0 | h0
  ·omega
  ·have e:j-1=k:=by omega
   rw[e] at h0;rw[h1];refine⟨h0,fun _=>?_⟩;have hx:=h.x;have h2:=h.lo k (by omega);have h3:F k≠F j:=fun e=>by have:=h.inj k j (by omega) (by omega) e;omega
   omega
 ·rcases Nat.lt_or_ge j k with h2 | h2
  ·exact h.a2 k h2 (by omega)
  ·have e:k=j:=by omega
   subst e;rw[h.x];exact h.a4 (by omega)
def swF (F:Nat->Nat) (j:Nat):Nat->Nat:=fun k=>if k=j then F (j+1) else if k=j+1 then F j else F k
theorem Ins.swap{c:Nat->Nat->Int}(hc:∀ u v,c v u = - c u v){n i j:Nat}{F:Nat->Nat}(h:Ins c n i (j+1) F)(hs:c (F (j+1)) (F j)<0):Ins c n i j (swF F j):=by
 have GV:=h.ji;have hn:=h.n;have hx:=h.x;have s1:swF F j j=i:=by unfold swF;rw[if_pos rfl];exact hx
 have s2:swF F j (j+1)=F j:=by unfold swF;rw[if_neg (by omega),if_pos rfl]
 have s3:∀ k,k≠j->k≠j+1->swF F j k=F k:=fun k h1 h2=>by unfold swF;rw[if_neg h1,if_neg h2]
 refine⟨fun k hk=>?_,fun k m hk hm e=>?_,s1,fun k h1 h2=>?_,fun k hk=>?_,fun k hk=>?_,fun k h1 h2=>?_,fun k h1 h2=>?_,fun h1=>?_,by omega,hn⟩
 ·unfold swF;split
  ·exact h.lt _ (by omega)
  ·split
   ·exact h.lt _ (by omega)
   ·exact h.lt _ hk
 ·unfold swF at e
  by_cases k1:k=j
  ·by_cases m1:m=j
   ·omega
   ·rw[if_pos k1,if_neg m1] at e
    by_cases m2:m=j+1
    ·rw[if_pos m2] at e;have:=h.inj _ _ (by omega) (by omega) e
     omega
    ·rw[if_neg m2] at e;have:=h.inj _ _ (by omega) hm e
     omega
  ·rw[if_neg k1] at e
   by_cases k2:k=j+1
   ·rw[if_pos k2] at e
    by_cases m1:m=j
    ·rw[if_pos m1] at e;have:=h.inj _ _ (by omega) (by omega) e
     omega
    ·rw[if_neg m1] at e
     by_cases m2:m=j+1
     ·omega
     ·rw[if_neg m2] at e;have:=h.inj _ _ (by omega) hm e
      omega
   ·rw[if_neg k2] at e
    by_cases m1:m=j
    ·rw[if_pos m1] at e;have:=h.inj _ _ hk (by omega) e
     omega
    ·rw[if_neg m1] at e
     by_cases m2:m=j+1
     ·rw[if_pos m2] at e;have:=h.inj _ _ hk (by omega) e
      omega
     ·rw[if_neg m2] at e;exact h.inj _ _ hk hm e
 ·rw[s3 k (by omega) (by omega)];exact h.hi k h1 h2
 ·unfold swF;split
  ·omega
  ·split
   ·exact h.lo _ (by omega)
   ·exact h.lo _ hk
 ·rw[s3 k (by omega) (by omega),s3 (k+1) (by omega) (by omega)];exact h.a1 k (by omega)
 ·rcases Nat.lt_or_ge (j+1) k with h3 | h3
  ·rw[s3 k (by omega) (by omega),s3 (k+1) (by omega) (by omega)];exact h.a2 k h3 h2
  ·have e:k=j+1:=by omega
   subst e;rw[s2,s3 (j+1+1) (by omega) (by omega)];exact h.a3 j rfl (by omega)
 ·subst h1;rw[s3 k (by omega) (by omega),s2];exact h.a1 k (by omega)
 ·rw[s2,<- hx];have e:=hc (F (j+1)) (F j);exact⟨by omega,fun h0=>by omega⟩
structure Qbu (W:World) (g n:Nat) (F:Nat->Nat):Prop where
 lt:g<W.heap.size
 cell:∀ k,k<n->W.cell? ⟨g,k,none⟩=some (.int .i64 (F k:Nat))
 fr:∀ k,W.frozen? ⟨g,k,none⟩=false
theorem Qbu.below{W W':World}{g n D:Nat}{F:Nat->Nat}(h:Qbu W g n F)(hb:Below D W W')(hD:W.heap.size<=D):Qbu W' g n F:=by
 have H7:=h.lt;have e:=hb.block g (by omega);have hs:=hb.size;refine⟨?_,fun k hk=>?_,fun k=>?_⟩
 ·have h2:=Array.getElem?_eq_some_iff.1 (show W.heap[g]?=some W.heap[g] from Array.getElem?_eq_getElem H7);rw[Array.getElem?_eq_getElem H7] at e;exact(Array.getElem?_eq_some_iff.1 e).1
 ·rw[hb.cell (p:=⟨g,k,none⟩) (show g<D by omega)];exact h.cell k hk
 ·have:=h.fr k
  unfold World.frozen? at this ⊢;rw[show W'.heap[(⟨g,k,none⟩:Addr).block]?=W.heap[(⟨g,k,none⟩:Addr).block]? from e];exact this
theorem Qbu.swap{W:World}{g n:Nat}{F:Nat->Nat}(h:Qbu W g n F)(j:Nat)(hj:j+1<n):
  Qbu ((W.setCell ⟨g,j+1,none⟩ (.int .i64 (F j:Nat))).setCell ⟨g,j,none⟩ (.int .i64 (F (j+1):Nat))) g n (swF F j):=by
 have h0:=h.cell j (by omega);have h1:=h.cell (j+1) hj;have ne:∀ a b:Nat,a≠b->(⟨g,a,none⟩:Addr)≠⟨g,b,none⟩:=fun a b Fu e=>by cases e;exact Fu rfl
 refine⟨by simpa using h.lt,fun k hk=>?_,fun k=>?_⟩
 ·unfold swF
  by_cases k1:k=j
  ·subst k1;rw[if_pos rfl];exact World.cell?_setCell_same _ _ _ (u := .int .i64 (F k:Nat)) (by rw[World.cell?_setCell_other _ _ _ _ (ne _ _ (by omega))];exact h0)
  ·rw[if_neg k1,World.cell?_setCell_other _ _ _ _ (ne _ _ (fun e=>k1 e.symm))]
   by_cases k2:k=j+1
   ·subst k2;rw[if_pos rfl];exact World.cell?_setCell_same _ _ _ h1
   ·rw[if_neg k2,World.cell?_setCell_other _ _ _ _ (ne _ _ (fun e=>k2 e.symm))];exact h.cell k hk
 ·have:=h.fr k
  simpa using this
structure Zxp (W:World) (ps:List Int) (g2 g3:Nat) (a0 al:OA_) (c0 cl:Nat) (LL:List (List Rat)):Prop where
 h2:W.heap[g2]?=some (.cells #[.slice a0 ps.length c0] 31 (0,0))
 h3:W.heap[g3]?=some (.cells #[.slice al LL.length cl] 54 (0,0))
 rp:Rd W a0 (Vk ps)
 rl:RdL W al (LL.map (List.map qs))
theorem Zxp.below{W W':World}{ps:List Int}{g2 g3:Nat}{a0 al:OA_}{c0 cl:Nat}{LL:List (List Rat)}(h:Zxp W ps g2 g3 a0 al c0 cl LL){D:Nat}(hb:Below D W W')(hD:W.heap.size<=D):Zxp W' ps g2 g3 a0 al c0 cl LL :=
 ⟨Zg h.h2 hb hD,Zg h.h3 hb hD,h.rp.below hb hD,h.rl.below hb hD⟩
theorem Qbu.rd{W:World}{g n:Nat}{F:Nat->Nat}(h:Qbu W g n F):Rd W (some ⟨g,0,none⟩) (Vk ((List.range n).map fun (k:Nat)=>((F k:Nat):Int))):=by
 refine .inr ⟨g,0,rfl,h.lt,fun i v hv=>?_⟩;rw[Nat.zero_add];have hi:i<n:=by
  have:=(List.getElem?_eq_some_iff.1 hv).1
  simpa [Qp] using this
 rw[Ym _ i (by simpa using hi)] at hv;cases hv
 rw[h.cell i hi];simp
def Ztv (W:World) (g:Nat) (t:TypeId) (D:List UInt8):Prop:=W.rowIs g t D.length (fun i => .int .u8 ((D.getD i 0).toNat:Nat))
theorem Ztv.cell{W:World}{g:Nat}{t:TypeId}{D:List UInt8}(h:Ztv W g t D){i:Nat}(hi:i<D.length):W.cell? ⟨g,i,none⟩=some (.int .u8 ((D.getD i 0).toNat:Nat)):=World.rowIs.cell h hi
theorem Ztv.frozen{W:World}{g:Nat}{t:TypeId}{D:List UInt8}(h:Ztv W g t D)(i:Nat):W.frozen? ⟨g,i,none⟩=false:=World.rowIs.frozen h i
theorem Ztv.set{W:World}{g:Nat}{t:TypeId}{D:List UInt8}(h:Ztv W g t D)(i x:Nat)(hx:x<256):Ztv (W.setCell ⟨g,i,none⟩ (.int .u8 (x:Nat))) g t (D.set i (UInt8.ofNat x)):=by
 unfold Ztv;rw[List.length_set];refine(World.rowIs.set h i _).congr fun j hj=>?_
 by_cases e:j=i
 ·subst e;rw[if_pos rfl];simp only[List.getD_eq_getElem?_getD,List.getElem?_set];simp only[if_true,if_pos hj,Option.getD_some];simp[Nat.mod_eq_of_lt hx]
 ·rw[if_neg e];simp only[List.getD_eq_getElem?_getD,List.getElem?_set];rw[if_neg (fun h=>e h.symm)]
theorem Ztv.text{W:World}{g:Nat}{t src dst e:TypeId}{D:List UInt8}(h:Ztv W g t D)(k n c:Nat)(hn:k+n=D.length)
  (hs:Tryz.prog.underlying src=some (.slice e)) (he:Tryz.prog.underlying e=some (.int .u8)) (hd:Tryz.prog.underlying dst=some .string) :
  (convert src dst (.slice (some ⟨g,k,none⟩) n c)).run Tryz.prog W = .ok (.string ⟨(D.drop k).toArray⟩) W:=by
 have hl:(D.drop k).length=n:=by simp;omega
 rw[<- hl];refine run_convert_bytes_back W src dst e ⟨g,k,none⟩ c (D.drop k) hs he hd fun j hj=>?_
 rw[Lib.add_plain];rw[Ztv.cell h (by omega)];rw[List.getD_eq_getElem?_getD,List.getElem?_eq_getElem (by omega)];simp
def jn (L:List ByteArray):ByteArray:=⟨(Lib.join (L.map (·.data.toList)) [32]).toArray⟩
theorem Zdg.reverse{l:List UInt8}(h:Zdg l):Zdg l.reverse:=fun c hc=>h c (List.mem_reverse.1 hc)
structure JAt (w:World) (n:Nat) (T:List UInt8) (wr:World):Prop where
 row:∃ D,Ztv wr w.heap.size 5 D/\D.length=9*n+1/\(D.getD 0 0).toNat=48/\D.drop (9*n+1-T.length)=T
 bel:Bw_ w wr
theorem JAt.set{w wr:World}{n:Nat}{T:List UInt8}(h:JAt w n T wr)(m x:Nat)(hm:m+T.length=9*n)(ET:0<m)(hx:x<256):JAt w n (UInt8.ofNat x::T) (wr.setCell ⟨w.heap.size,m,none⟩ (.int .u8 (x:Nat))):=by
 obtain⟨D,h1,h2,h3,h4⟩:=h.row;refine⟨⟨D.set m (UInt8.ofNat x),h1.set m x hx,by rw[List.length_set];exact h2,?_,?_⟩,h.bel.setCell nr_ _⟩
 ·rw[List.getD_eq_getElem?_getD,List.getElem?_set_ne (by omega),<- List.getD_eq_getElem?_getD];exact h3
 ·have e:9*n+1-(UInt8.ofNat x::T).length=m:=by simp;omega
  rw[e,List.drop_eq_getElem_cons (by simp;omega),List.getElem_set_self,List.drop_set,if_pos (by omega)];congr 1;rw[<- h4];congr 1;omega
theorem JAt.cell{w wr:World}{n:Nat}{T:List UInt8}(h:JAt w n T wr)(m:Nat)(hm:m<=9*n):(∃ x:Nat,wr.cell? ⟨w.heap.size,m,none⟩=some (.int .u8 x))/\wr.frozen? ⟨w.heap.size,m,none⟩=false:=by
 obtain⟨D,h1,h2,_,_⟩:=h.row;exact⟨⟨_,h1.cell (by omega)⟩,h1.frozen m⟩
theorem JAt.done{w wr:World}{n:Nat}{T:List UInt8}(h:JAt w n T wr)(hT:T.length=9*n)(hd:Zdg T):∃ D,Ztv wr w.heap.size 5 D/\D.length=9*n+1/\Zdg D/\Vg D=Vg T:=by
 obtain⟨D,h1,h2,h3,h4⟩:=h.row;have e:9*n+1-T.length=1:=by omega
 rw[e] at h4
 match D,h2,h3,h4 with
 | c::D,h2,h3,h4 =>
  obtain rfl:D=T:=by simpa using h4
  have hc:c.toNat=48:=by simpa using h3
  refine⟨_,h1,h2,fun y hy=>?_,?_⟩
  ·rcases List.mem_cons.1 hy with rfl | hy
   ·omega
   ·exact hd y hy
  ·rw[Za5,hc];simp
end Go.Proofs.YtbielfplgbammaaGreatDoor

namespace Go.Proofs.YtbielfplgbammaaGreatDoor.LN
def upP:List Int->List Int->Nat
 | p::ps,k::ks=>p.toNat^k.toNat*upP ps ks
 | _,_=>1
theorem Zt5:∀ (ps ks:List Int),(∀ p∈ps,0<p)->0<upP ps ks
 | [],_,_=>by simp[upP]
 | _::_,[],_=>by simp[upP]
 | p::ps,k::ks,h=>by
  have hp:=h p List.mem_cons_self;simp only[upP];exact Nat.mul_pos (Nat.pow_pos (by omega)) (Zt5 ps ks fun q hq=>h q (List.mem_cons_of_mem _ hq))
theorem Qa6:∀ (ps ks:List Int),(∀ p∈ps,0<p)->((upP ps ks:Nat):Rat)=vp ps ks*((upP ps (ks.map fun k => -k):Nat):Rat)
 | [],_,_=>by simp[upP,vp]
 | _::_,[],_=>by simp[upP,vp]
 | p::ps,k::ks,h=>by
  have ih:=Qa6 ps ks fun q hq=>h q (List.mem_cons_of_mem _ hq)
  have hx:=h p List.mem_cons_self;rw[List.map_cons];simp only[upP,vp];rw[Rat.natCast_mul,Rat.natCast_mul,ih,natCast_pow,natCast_pow];have hp:((p.toNat:Nat):Rat)=(p:Rat):=by
   rw[<- Rat.intCast_natCast,Int.toNat_of_nonneg (by omega)]
  rw[hp];have GG:(p:Rat)≠0:=by have:=Rat.intCast_pos.2 hx;grind
  have gS:(p:Rat)^k.toNat=(p:Rat)^k*(p:Rat)^(-k).toNat:=by
   rw[<- Rat.zpow_natCast,<- Rat.zpow_natCast,<- Rat.zpow_add GG];congr 1;omega
  rw[gS]
  grind
theorem Qcg{a b:Nat}{x:Rat}(hb:0<b)(e:(a:Rat)=x*(b:Rat)):sg x=if a<b then -1 else if a=b then 0 else 1:=by
 have hd:(0:Rat)<(b:Rat):=Rat.natCast_pos.2 hb;have c1:b<a↔1<x:=by
  rw[<- Rat.natCast_lt_natCast,e];constructor
  ·intro h1;refine Rat.lt_of_mul_lt_mul_right (c:=(b:Rat)) ?_ (Rat.le_of_lt hd);rw[Rat.one_mul];exact h1
  ·intro h1;have:=Rat.mul_lt_mul_of_pos_right h1 hd
   rw[Rat.one_mul] at this;exact this
 have c2:a<b↔x<1:=by
  rw[<- Rat.natCast_lt_natCast,e];constructor
  ·intro h1;refine Rat.lt_of_mul_lt_mul_right (c:=(b:Rat)) ?_ (Rat.le_of_lt hd);rw[Rat.one_mul];exact h1
  ·intro h1;have:=Rat.mul_lt_mul_of_pos_right h1 hd
   rw[Rat.one_mul] at this;exact this
 rcases Nat.lt_trichotomy a b with h|h|h
 ·rw[if_pos h];exact Zqf.2 (c2.1 h)
 ·rw[if_neg (by omega),if_pos h];refine Zuy.2 (Rat.le_antisymm (Rat.not_lt.1 fun h2=>?_) (Rat.not_lt.1 fun h2=>?_))
  ·have:=c1.2 h2;omega
  ·have:=c2.2 h2;omega
 ·rw[if_neg (by omega),if_neg (by omega)];exact Zqe.2 (c1.1 h)
theorem sz_prod{ps:List Int}{l:List Rat}{D:Nat}(hp:∀ p∈ps,0<p)(hD:0<D)(h:∀ q∈l,q.den ∣ D):
  sz ps l=Vi (upP ps (l.map (ex D))) (upP ps ((l.map (ex D)).map fun k => -k)):=by
 rw[Qeq hp hD h,Qcg (Zt5 ps _ hp) (Qa6 ps _ hp)];rfl
theorem upP_snoc:∀ (ps ks:List Int) (p k:Int),ps.length=ks.length->upP (ps++[p]) (ks++[k])=upP ps ks*p.toNat^k.toNat
 | [],[],p,k,_=>by simp[upP]
 | q::ps,m::ks,p,k,h=>by
  have ih:=upP_snoc ps ks p k (by simpa using h);simp only[List.cons_append,upP];rw[ih,Nat.mul_assoc]
theorem upP_le(K:Nat):∀ (ps ks:List Int),(∀ p∈ps,2<=p/\p<=97)->(∀ k∈ks,k<=(K:Int))->upP ps ks<10^(2*K*ps.length+1)
 | [],_,_,_=>by simp[upP]
 | _::_,[],_,_=>by
  simp only[upP];exact Nat.one_lt_pow (by omega) (by decide)
 | p::ps,k::ks,h,h2=>by
  have ih:=upP_le K ps ks (fun q hq=>h q (List.mem_cons_of_mem _ hq)) fun q hq=>h2 q (List.mem_cons_of_mem _ hq)
  obtain⟨a,b⟩:=h p List.mem_cons_self;have hk:=h2 k List.mem_cons_self;simp only[upP];have h3:p.toNat^k.toNat<=100^k.toNat:=Nat.pow_le_pow_left (by omega) _;have h4:100^k.toNat<=100^K:=Nat.pow_le_pow_right (by decide) (by omega);have h5:(100:Nat)^K=10^(2*K):=by rw[show (100:Nat)=10^2 from rfl,<- Nat.pow_mul]
  rw[h5] at h4;have e:10^(2*K*(p::ps).length+1)=10^(2*K)*10^(2*K*ps.length+1):=by rw[<- Nat.pow_add];congr 1;rw[List.length_cons,Nat.mul_add];omega
  rw[e];exact Nat.mul_lt_mul_of_le_of_lt (Nat.le_trans h3 h4) ih (Nat.pow_pos (by decide))
end Go.Proofs.YtbielfplgbammaaGreatDoor.LN

namespace Go.Proofs.YtbielfplgbammaaGreatDoor
open Go.RowKit
structure Qf1 (ps ks:List Int) (k u d:Nat):Prop where
 up:u=LN.upP (ps.take k) (ks.take k)
 dn:d=LN.upP (ps.take k) ((ks.map fun z => -z).take k)
 le:∀ z∈ks.take k,z<=500 /\ -500<=z
theorem Zcv{α:Type}(l:List α)(k:Nat)(h:k<l.length):l.take (k+1)=l.take k++[l[k]]:=List.take_succ_eq_append_getElem h
theorem Qf1.next{ps ks:List Int}{k u d:Nat}(h:Qf1 ps ks k u d)(h1:k<ps.length)(hk:k<ks.length)(hz:ks[k]<=500 /\ -500<=ks[k]):
  Qf1 ps ks (k+1) (u*ps[k].toNat^ks[k].toNat) (d*ps[k].toNat^(-ks[k]).toNat):=by
 refine⟨?_,?_,?_⟩
 ·rw[Zcv ps k h1,Zcv ks k hk,LN.upP_snoc _ _ _ _ (by simp;omega),<- h.up]
 ·have GK:k<(ks.map fun z => -z).length:=by simpa using hk
  rw[Zcv ps k h1,Zcv _ k GK,LN.upP_snoc _ _ _ _ (by simp;omega),<- h.dn,List.getElem_map]
 ·intro z fG;rw[Zcv ks k hk] at fG;rcases List.mem_append.1 fG with h3|h3
  ·exact h.le z h3
  ·obtain rfl:=List.mem_singleton.1 h3;exact hz
theorem Qf1.num{ps ks:List Int}{k u d:Nat}(h:Qf1 ps ks k u d)(hp:∀ p∈ps,2<=p/\p<=97)(hn:ps.length<=100):Num u/\Num d:=by
 have hl:(ps.take k).length<=100:=by simp;omega
 have hb:2*500*(ps.take k).length+1<=1000000:=by omega
 have ju:∀ p∈ps.take k,2<=p/\p<=97:=fun p dO=>hp p (List.mem_of_mem_take dO)
 refine⟨?_,?_⟩
 ·rw[h.up];exact Kq (LN.upP_le 500 _ _ ju fun z hz=>by have:=h.le z hz;omega) (by omega) hb
 ·rw[h.dn];refine Kq (LN.upP_le 500 _ _ ju fun z hz=>?_) (by omega) hb;rw[<- List.map_take] at hz;obtain⟨y,hy,rfl⟩:=List.mem_map.1 hz;have:=h.le y hy
  omega
end Go.Proofs.YtbielfplgbammaaGreatDoor

namespace Go.Proofs.YtbielfplgbammaaGreatDoor
open Go.RowKit Go.Proofs.YtbielfplgbammaaGreatDoor.RP
end Go.Proofs.YtbielfplgbammaaGreatDoor

namespace Go.Proofs.YtbielfplgbammaaGreatDoor
open Go.RowKit
end Go.Proofs.YtbielfplgbammaaGreatDoor

namespace Go.Proofs.YtbielfplgbammaaGreatDoor
open Go.ChangeShapes Go.WideShapes Go.ChangeAt Go.RowKit Go.Joins
section
variable {H:Type} {enc:TypeId×Value->H} {W:World}
end
end Go.Proofs.YtbielfplgbammaaGreatDoor

namespace Go.Proofs.YtbielfplgbammaaGreatDoor
open Go.RowKit
theorem Zvk{w:World}{B1 B2 s1 s2 n1 n2:Nat}{e1 e2:TypeId}{v1 v2:Value}{x1 x2:List Value}(h1:w.ownsRow B1 e1 s1 v1 n1 x1)(h2:w.ownsRow B2 e2 s2 v2 n2 x2)(gj:e1≠e2):
  ∀ k,v1.ownBlock=some k->v2.ownBlock≠some k:=by
 intro k hk GK;rcases h1.2 with⟨rfl,_⟩|⟨g,cap,cur,rfl,_,hg,_⟩
 ·simp[Value.ownBlock] at hk
 ·rcases h2.2 with⟨rfl,_⟩ | ⟨g2,cap2,cur2,rfl,_,hg2,_⟩
  ·simp[Value.ownBlock] at GK
  ·simp only[Value.ownBlock,Option.some.injEq] at hk GK;subst hk;subst GK;rw[hg] at hg2;simp only[Option.some.injEq,Obj.cells.injEq] at hg2;exact gj hg2.2.1
structure Qec (w:World) (B:Nat) (b:OA_) (d:Nat) (n:Nat) (L:List (OA_×Nat)) (ls:List (List Rat)):Prop where
 len:L.length=ls.length
 row:w.ownsRow B 35 1 (.slice b L.length d) L.length (L.map fun x => .slice x.1 n x.2)
 each:∀ i (h1:i<L.length) (h2:i<ls.length),Zd0 w B L[i].1 L[i].2 ls[i]
 lens:∀ l∈ls,l.length=n
theorem Qec.below{w w':World}{B d n:Nat}{b:OA_}{L:List (OA_×Nat)}{ls:List (List Rat)}(h:Qec w B b d n L ls)(hb:Bw_ w w'):Qec w' B b d n L ls :=
 ⟨h.len,Kv h.row hb nr_,fun i h1 h2=>(h.each i h1 h2).below hb nr_,h.lens⟩
end Go.Proofs.YtbielfplgbammaaGreatDoor

namespace Go.Proofs.YtbielfplgbammaaGreatDoor
open Go.RowKit Go.Proofs.YtbielfplgbammaaGreatDoor.RP
theorem Qec.put{w1 w3:World}{B d n c:Nat}{b a:OA_}{L:List (OA_×Nat)}{ls:List (List Rat)}{l:List Rat}{v':Value}(h:Qec w1 B b d n L ls)(ho:Zd0 w1 B a c l)(hl:l.length=n)
  (gk:w3.ownsRow B 35 1 v' (L.length+1) ((L.map fun x=>Value.slice x.1 n x.2)++[.slice a n c])) (hg:(w1.alloc (.cells #[.slice a n c] 35)).grownBy w3 (Value.slice b L.length d).ownBlock) :
  ∃ b' d',v' = .slice b' (L.length+1) d'/\Qec w3 B b' d' n (L++[(a,c)]) (ls++[l]):=by
 obtain⟨b',d',rfl⟩:=Qj gk;have hA:Bw_ w1 (w1.alloc (.cells #[.slice a n c] 35)):=(Below.refl _ _).alloc nr_ _;have Gg:=Kv h.row hA nr_;have Gx:∀ (a2:OA_) (c2:Nat) (l2:List Rat),Zd0 w1 B a2 c2 l2->Zd0 w3 B a2 c2 l2:=fun a2 c2 l2 h2=>by
  have h3:=Zyw (h2.below hA nr_);refine Zqp (World.ownsRow.kept h3 hg ?_);have Du:=Zvk Gg h3 (by decide);cases hv:(Value.slice b L.length d).ownBlock with
  | none=>cases hv2:(Value.slice a2 l2.length c2).ownBlock<;>simp
  | some k=>exact .inr (Du k hv)
 refine⟨b',d',rfl,?_,?_,?_,?_⟩
 ·simp[h.len]
 ·rw[List.length_append,List.map_append];exact gk
 ·intro i h1 h2
  by_cases hi:i<L.length
  ·have Ef:i<ls.length:=by rw[<- h.len];exact hi
   rw[List.getElem_append_left Ef];simp only[List.getElem_append_left hi];exact Gx _ _ _ (h.each i hi Ef)
  ·have e:i=L.length:=by simp at h1;omega
   subst e;rw[List.getElem_append_right (by rw[h.len];exact Nat.le_refl _)];simp only[List.getElem_append_right nr_,h.len,Nat.sub_self,List.getElem_cons_zero];exact Gx _ _ _ ho
 ·intro m hm;rcases List.mem_append.1 hm with hm|hm
  ·exact h.lens m hm
  ·rw[List.mem_singleton.1 hm];exact hl
end Go.Proofs.YtbielfplgbammaaGreatDoor

namespace Go.Proofs.YtbielfplgbammaaGreatDoor
open Go.RowKit
end Go.Proofs.YtbielfplgbammaaGreatDoor

namespace Go.Proofs.YtbielfplgbammaaGreatDoor
open Go.RowKit
def Ztw {α:Type} (pf : α->Bool):List α->Nat->Int
 | [],_ => -1
 | x::l,k=>if pf x=true then (k:Int) else Ztw pf l (k+1)
theorem Zq2{α:Type}(pf : α->Bool):∀ (l:List α) (k:Nat),decide (0<=Ztw pf l k)=l.any pf
 | [],_=>by simp[Ztw]
 | x::l,k=>by
  unfold Ztw;rw[List.any_cons]
  by_cases h:pf x=true
  ·rw[if_pos h,h];simp
  ·rw[if_neg h,Zq2 pf l (k+1)];simp only[Bool.not_eq_true] at h;rw[h,Bool.false_or]
theorem Zk1 {f : FuncId} {fn : Func} {c : Code} (hf : Tryz.prog.funcs[f]? = some fn) (hname : (fn.name == "runtime.NumGoroutine") = false) (hb : fn.body = some c) : ∀ args w, (callFunc f args).run Tryz.prog w = .ok (.enter f args) w := enters_of hf hname hb
def sgE (lo hi:Rat):Int:=if 0<=lo.num.sign then 1 else if hi.num.sign<=0 then -1 else 0
theorem Zey(q:Rat):0<=q.num.sign↔0<=q:=by
 rw[<- Rat.num_nonneg];rcases Int.lt_trichotomy q.num 0 with h|h|h
 ·rw[Int.sign_eq_neg_one_of_neg h];omega
 ·rw[h];decide
 ·rw[Int.sign_eq_one_of_pos h];omega
theorem Zi0(q:Rat):q.num.sign<=0↔q<=0:=by
 have h1:q<=0↔q.num<=0:=by
  have:=Zey (-q)
  rw[Rat.neg_num,Int.sign_neg] at this;constructor
  ·intro h;have h2:0 <= -q:=by grind
   have h3:=Rat.num_nonneg.2 h2;rw[Rat.neg_num] at h3;omega
  ·intro h;have h2:0<=(-q).num:=by rw[Rat.neg_num];omega
   have h3:=Rat.num_nonneg.1 h2
   grind
 rw[h1];rcases Int.lt_trichotomy q.num 0 with h|h|h
 ·rw[Int.sign_eq_neg_one_of_neg h];omega
 ·rw[h];decide
 ·rw[Int.sign_eq_one_of_pos h];omega
theorem Zu0(n:Nat)(ps:List Int)(l:List Rat):sgE (loE n ps l) (hiE n ps l)=Zat n ps l:=by
 unfold sgE Zat
 by_cases h1:0<=loE n ps l
 ·rw[if_pos ((Zey _).2 h1),if_pos h1]
 ·rw[if_neg fun h=>h1 ((Zey _).1 h),if_neg h1]
  by_cases h2:hiE n ps l<=0
  ·rw[if_pos ((Zi0 _).2 h2),if_pos h2]
  ·rw[if_neg fun h=>h2 ((Zi0 _).1 h),if_neg h2]
theorem Zq6(w:World)(a b:Rat):Kc Tryz.prog 123 #[fr a,fr b] w (.int .i64 (sgE a b)):=by
 have H3:=hd_ (Qaw.mk' w (itx a.num) (dec a.den) (itx b.num) (dec b.den));have Ha:=hd_ (fun W=>Zr8 W a);have Hb:=hd_ (fun W=>Zr8 W b);have Hv:Hid (sgE a b=if 0<=a.num.sign then 1 else if b.num.sign<=0 then -1 else 0):=rfl;generalize sgE a b=v at *;unfold Kc;unfold fr fv at Ha Hb ⊢;generalize a.num.sign=sa at *;generalize b.num.sign=sb at *
 by_cases h1:0<=sa
 ·have eP:Hid (v=1):=by show _=_;rw[Hv.o,if_pos h1]
  clear Hv Hb;go_enter Tryz.func123,Tryz.ntmps123;obtain⟨k0,k1,-,-⟩:=Ka H3.o.fa;go_wp2_with fail;generalize (w.alloc (.cells #[.string (itx a.num),.string (dec a.den)] 101)).alloc (.cells #[.string (itx b.num),.string (dec b.den)] 101)=W0 at *;clear k0 k1;refine cm_ (Ha.o _) ?_;rintro e w1 ⟨rfl,hZ⟩;have B1:=hd_ (H3.o.bel.trans (hZ.mono H3.o.bel.size));clear hZ Ha;go_wp2_with fail;go_ret;exact⟨by rw[eP.o];rfl,B1.o⟩
 ·by_cases h2:sb<=0
  ·have eP:Hid (v = -1):=by show _=_;rw[Hv.o,if_neg h1,if_pos h2]
   clear Hv;go_enter Tryz.func123,Tryz.ntmps123;obtain⟨k0,k1,-,-⟩:=Ka H3.o.fa;go_wp2_with fail;generalize (w.alloc (.cells #[.string (itx a.num),.string (dec a.den)] 101)).alloc (.cells #[.string (itx b.num),.string (dec b.den)] 101)=W0 at *;clear k0 k1;refine cm_ (Ha.o _) ?_;rintro e w1 ⟨rfl,hZ⟩;have H4:=hd_ (H3.o.next hZ);clear hZ Ha H3;obtain⟨k2,k3,-,-⟩:=Ka H4.o.fb;go_wp2_with fail;clear k2 k3;refine cm_ (Hb.o _) ?_;rintro e w2 ⟨rfl,hZ⟩;have B1:=hd_ (H4.o.bel.trans (hZ.mono H4.o.bel.size));clear hZ Hb;go_wp2_with fail;go_ret;exact⟨by rw[eP.o];rfl,B1.o⟩
  ·have eP:Hid (v=0):=by show _=_;rw[Hv.o,if_neg h1,if_neg h2]
   clear Hv;go_enter Tryz.func123,Tryz.ntmps123;obtain⟨k0,k1,-,-⟩:=Ka H3.o.fa;go_wp2_with fail;generalize (w.alloc (.cells #[.string (itx a.num),.string (dec a.den)] 101)).alloc (.cells #[.string (itx b.num),.string (dec b.den)] 101)=W0 at *;clear k0 k1;refine cm_ (Ha.o _) ?_;rintro e w1 ⟨rfl,hZ⟩;have H4:=hd_ (H3.o.next hZ);clear hZ Ha H3;obtain⟨k2,k3,-,-⟩:=Ka H4.o.fb;go_wp2_with fail;clear k2 k3;refine cm_ (Hb.o _) ?_;rintro e w2 ⟨rfl,hZ⟩;have B1:=hd_ (H4.o.bel.trans (hZ.mono H4.o.bel.size));clear hZ Hb;go_wp2_with fail;go_ret;exact⟨by rw[eP.o];rfl,B1.o⟩
theorem Zzx(w:World)(a:OA_)(c:Nat)(l:List Rat)(hr:Rd w a (Kk l))(hl:l.length<=1000000)(f:FuncId)(lb:Array Value)(eg:∀ args w,(callFunc f args).run Tryz.prog w = .ok (.enter f args) w)(pf:Rat->Bool)
  (CC:∀ W,Bw_ w W->∀ x∈l,Kc Tryz.prog f (#[fr x]++lb) W (.bool (pf x))) :
  Kc Tryz.prog 257 #[.slice a l.length c,.func (.func f) #[] lb] w (.int .i64 (Ztw pf l 0)):=by
 unfold Kc;have Hr:=hd_ hr;have OU:=hd_ CC;clear hr CC;generalize hm:l.length=m at *;have Hm:=hd_ hm;clear hm;generalize hv:Ztw pf l 0=v at *;have fZ:Hid (v=Ztw pf l 0):=hv.symm;clear hv;go_enter Tryz.func257,Tryz.ntmps257;go_wp2_with fail
 go_loopw [8] (fun i wr=>∃ k:Nat,k<=m/\i = .int .i64 k/\Hid (v=Ztw pf (l.drop k) k)/\Hid (Bw_ w wr)) (fun i _=>m-(intOf i).toNat)
 case atStart=>exact⟨0,Nat.zero_le _,rfl,fZ,Below.refl _ _⟩
 case round =>
  clear fZ;obtain⟨k,hk,rfl,Hx,B⟩:=hrel
  by_cases H7:k<m
  ·have gi:(k:Int)<m:=by omega
   have Ga:k<l.length:=by rw[Hm.o];exact H7
   obtain⟨b,off,rfl,hb,hcells⟩:=Hr.o.open (by rw[Ks];omega);obtain⟨x0,x1⟩:=Qf hcells k (by rw[List.length_map];exact Ga);rw[Qb l k Ga] at x0 x1;rw[<- B.o.cell (p:=⟨b,off+k*2,none⟩) hb] at x0;rw[<- B.o.cell (p:=⟨b,off+k*2+1,none⟩) hb] at x1;have Hd:Hid (l.drop k=l[k]::l.drop (k+1)):=List.drop_eq_getElem_cons Ga;have Hc:=hd_ (OU.o wr B.o l[k] (List.getElem_mem Ga));unfold fr fv at Hc;unfold qs at x0 x1;simp only at x0 x1;clear hcells;generalize l[k]=x at *;cases hf:pf x with
   | false =>
    have Hn:Hid (v=Ztw pf (l.drop (k+1)) (k+1)):=by show _=_;rw[Hx.o,Hd.o,Ztw,if_neg (by rw[hf];decide)]
    rw[hf] at Hc;go_wp2_with fail;refine cm_ Hc.o ?_;rintro e w1 ⟨rfl,hZ⟩;have B1:=bt_ B hZ;clear hZ Hc B x0 x1;go_wp2_with fail
    go_roundw
    case rel=>exact⟨k+1,by omega,by go_num,Hn,B1⟩
    case measure=>simp[intOf];omega
   | true =>
    have Hn:Hid (v=k):=by show _=_;rw[Hx.o,Hd.o,Ztw,if_pos hf]
    rw[hf] at Hc;go_wp2_with fail;refine cm_ Hc.o ?_;rintro e w1 ⟨rfl,hZ⟩;have B1:=bt_ B hZ;clear hZ Hc B x0 x1;go_wp2_with fail;go_ret;exact⟨by rw[Hn.o];rfl,B1.o⟩
  ·have gi:¬ (k:Int)<m:=by omega
   have Hn:Hid (v = -1):=by show _=_;rw[Hx.o,List.drop_of_length_le (by rw[Hm.o];omega)];rfl
   go_wp2_with fail;go_ret;exact⟨by rw[Hn.o];rfl,B.o⟩
theorem Qai(w:World)(a:OA_)(c:Nat)(l:List Rat)(hr:Rd w a (Kk l))(hl:l.length<=1000000)(f:FuncId)(lb:Array Value)(eg:∀ args w,(callFunc f args).run Tryz.prog w = .ok (.enter f args) w)(pf:Rat->Bool)
  (CC:∀ W,Bw_ w W->∀ x∈l,Kc Tryz.prog f (#[fr x]++lb) W (.bool (pf x))) :
  Kc Tryz.prog 201 #[.slice a l.length c,.func (.func f) #[] lb] w (.bool (l.any pf)):=by
 unfold Kc;have Hc:=hd_ (Zzx w a c l hr hl f lb eg pf CC);have Hv:=hd_ (Zq2 pf l 0);unfold Kc at Hc;clear hr CC;generalize l.length=m at *;generalize Ztw pf l 0=v at *;generalize l.any pf=z at *;go_enter Tryz.func201,Tryz.ntmps201;go_wp2_with fail;refine cm_ Hc.o ?_;rintro e w1 ⟨rfl,hZ⟩;have B1:=hd_ hZ;clear hZ Hc;go_wp2_with fail;go_ret;exact⟨by rw[<- Hv.o];rfl,B1.o⟩
def nzQ (q:Rat):Bool:=q.num.sign != 0
theorem Zx0(w:World)(q:Rat):Kc Tryz.prog 202 #[fr q] w (.bool (nzQ q)):=by
 unfold Kc;have gl:=hd_ ((Below.refl w.heap.size w).alloc nr_ (.cells #[.string (itx q.num),.string (dec q.den)] 101));have Hs:=hd_ (fun W=>Zr8 W q);have Hv:Hid (nzQ q=(q.num.sign != 0)):=rfl;have F:=Zdm.new w q;generalize nzQ q=v at *;unfold fr fv at Hs ⊢;generalize q.num.sign=s at *;go_enter Tryz.func202,Tryz.ntmps202;obtain⟨k0,k1,-,-⟩:=Ka F;clear F;go_wp2_with fail;generalize w.alloc (.cells #[.string (itx q.num),.string (dec q.den)] 101)=W0 at *;clear k0 k1;refine cm_ (Hs.o _) ?_;rintro e w1 ⟨rfl,hZ⟩;have B1:=bt_ gl hZ;clear hZ Hs;go_wp2_with fail;go_ret;exact⟨by rw[Hv.o];rfl,B1.o⟩
theorem Zq5(w:World)(a:OA_)(c:Nat)(l:List Rat)(hr:Rd w a (Kk l))(hl:l.length<=1000000):
  Kc Tryz.prog 119 #[.slice a l.length c] w (.bool (!l.any nzQ)):=by
 unfold Kc;have Hc:=hd_ (Qai w a c l hr hl 202 #[] (Zk1 Tryz.func202 (by kernel_rfl) rfl) nzQ fun W _ x _=>Zx0 W x);unfold Kc at Hc;clear hr hl;generalize l.length=m at *;generalize l.any nzQ=z at *;go_enter Tryz.func119,Tryz.ntmps119;go_wp2_with fail;refine cm_ Hc.o ?_;rintro e w1 ⟨rfl,hZ⟩;have B1:=hd_ hZ;clear hZ Hc;go_wp2_with fail;go_ret;exact⟨rfl,B1.o⟩
def Qf4 (w w':World) (ps:List Int) (l:List Rat) (T:Nat->Bool) (e:Ending):Prop :=
 ∃ R B n,e = .returned (.tuple #[.pointer (some ⟨R,0,none⟩),.int .i64 (n:Nat),.bool true])/\Zpu w' R ps l B/\n<=B/\B<=1000/\Za8 T n/\Bw_ w w'
theorem Zm1(w:World)(ps:List Int)(l:List Rat)(a0 a1:OA_)(c0 c1 D:Nat)(rp:Rd w a0 (Vk ps))(rl:Rd w a1 (Kk l))(hl:l.length=ps.length)(hn:ps.length<=100)(hp:∀ p∈ps,∃ q:Nat,p=q/\(q=2\/q∈Zbv))(hs:∀ q∈l,Sm D q)(hD:D<=300)
  (f:FuncId) (lb:Array Value) (eg:∀ args w,(callFunc f args).run Tryz.prog w = .ok (.enter f args) w) (T:Nat->Bool)
  (hT:∀ W,Bw_ w W->∀ b,b<=1000->Kc Tryz.prog f (#[fr (loE b ps l),fr (hiE b ps l)]++lb) W (.bool (T b))) (GL:T 1000=true) (L:Qe w) :
  Calls Tryz.prog 134 #[.slice a0 ps.length c0,.slice a1 ps.length c1,.func (.func f) #[] lb] w fun e w'=>Qf4 w w' ps l T e:=by
 have IK:=hd_ (fun W (hW:Bw_ w W) B hB=>Zjd W ps l B a0 a1 c0 c1 (rp.below hW nr_) (rl.below hW nr_) hl hn hp hB (L.below hW));have EH:=hd_ (fun W (hW:Bw_ w W) R B b (H:Zpu W R ps l B) (hb:b<=B) (hB:B<=1000)=>Zde W R ps l B b D H hl hn hp hs hD hb hB (L.below hW));have HT:=hd_ hT;have fV:=hd_ GL;clear rp rl hs hp hT GL L;unfold fr fv at EH HT;generalize FK:ps.length=n at *;have Hn:=hd_ FK;clear FK;go_enter Tryz.func134,Tryz.ntmps134;go_wp2_with fail;refine cm_ (IK.o _ (Below.refl _ _) 32 (by decide)) ?_;rintro e w1 ⟨R0,rfl,hg,hR,hb⟩;have Az:=hd_ hg;have B1:=hd_ hb;clear hg hR hb;go_wp2_with fail
 go_loopw [9,10] (fun m p wr=>∃ (B R:Nat),32<=B/\B<=1000/\m = .int .i64 B/\p = .pointer (some ⟨R,0,none⟩)/\Hid (Zpu wr R ps l B)/\Hid (Bw_ w wr)) (fun m _ _=>1000-(intOf m).toNat)
 case atStart=>exact⟨32,R0,Nat.le_refl _,by decide,rfl,rfl,Az,B1⟩
 case round =>
  obtain⟨B,R,GN,hB2,rfl,rfl,HG,HB⟩:=hrel;clear Az B1;go_wp2_with fail;refine cm_ (EH.o _ HB.o R B B HG.o nr_ hB2) ?_;rintro e w2 ⟨rfl,hb⟩;have G5:=bt_ HB hb;have IV:=hd_ (HG.o.below hb);clear hb HG HB;have Hc:=hd_ (HT.o w2 G5.o B hB2);cases hf:T B with
  | false =>
   rw[hf] at Hc;have MB:B<1000:=by
    rcases Nat.lt_or_ge B 1000 with h|h
    ·exact h
    ·obtain rfl:B=1000:=by omega
     rw[fV.o] at hf;cases hf
   obtain⟨B',hB'⟩:∃ B',min (2*B) 1000=B':=⟨_,rfl⟩;have hm:min (2*(B:Int)) 1000=(B':Nat):=by omega
   have hw:IntKind.i64.wrap (2*(B:Int))=2*(B:Int):=iw_ _ (by omega);have gj:((B:Int)==1000)=false:=by rw[beq_eq_false_iff_ne];omega
   have IJ:=hd_ (fun W hW=>IK.o W hW B' (by omega));have Gt:32<=B':=by omega
   have FL:B'<=1000:=by omega
   have gL:B<B':=by omega
   clear hf hB';go_wp2_with fail;refine cm_ Hc.o ?_;rintro e w3 ⟨rfl,hb⟩;have FS:=bt_ G5 hb;clear hb Hc G5 IV;go_wp2_with fail;refine cm_ (IJ.o _ FS.o) ?_;rintro e w4 ⟨R',rfl,hg,hR,hb⟩;have CX:=hd_ hg;have Fy:=bt_ FS hb;clear hg hR hb FS IJ;go_wp2_with fail;refine⟨⟨B',R',Gt,FL,rfl,rfl,CX,Fy⟩,by simp[intOf];omega⟩
  | true =>
   rw[hf] at Hc;have Ew:=hd_ hf;clear hf;go_wp2_with fail;refine cm_ Hc.o ?_;rintro e w3 ⟨rfl,hb⟩;have FS:=bt_ G5 hb;have Nb:=hd_ (IV.o.below hb);clear hb Hc G5 IV;go_wp2_with fail
   go_loopw [11,12] (fun u v wr=>∃ (fI:Int) (t:Nat),-1<=fI/\fI<t/\t<=B/\u = .int .i64 fI/\v = .int .i64 t/\Hid (T t=true/\(fI = -1\/T fI.toNat=false))/\Hid (Zpu wr R ps l B)/\Hid (Bw_ w wr)) (fun u v _=>(intOf v-intOf u).toNat)
   case atStart=>exact⟨-1,B,Int.le_refl _,by omega,Nat.le_refl _,rfl,rfl,⟨Ew.o,.inl rfl⟩,Nb,FS⟩
   case round =>
    obtain⟨fI,t,Br,hf2,ht,rfl,rfl,HX,HG,HB⟩:=hrel;clear Nb FS;have fh:IntKind.i64.wrap ((t:Int)-fI)=(t:Int)-fI:=iw_ _ (by omega)
    by_cases hc:1<(t:Int)-fI
    ·obtain⟨m,hm⟩:∃ m:Nat,((m:Nat):Int)=(fI+t)/2:=⟨((fI+t)/2).toNat,by omega⟩;have fX:IntKind.i64.wrap (fI+(t:Int))=fI+t:=iw_ _ (by omega);have hq:Int.tdiv (fI+(t:Int)) 2=(m:Nat):=by rw[Int.tdiv_eq_ediv_of_nonneg (by omega)];omega
     have AN:(fI+(t:Int))/2=(m:Nat):=hm.symm;have fJ:fI<m:=by omega
     have Cb:m<t:=by omega
     clear hm;go_wp2_with fail;refine cm_ (EH.o _ HB.o R B m HG.o (by omega) hB2) ?_;rintro e w4 ⟨rfl,hb⟩;have Fy:=bt_ HB hb;have CX:=hd_ (HG.o.below hb);clear hb HG HB;have Hc:=hd_ (HT.o w4 Fy.o m (by omega));cases hf:T m with
     | true =>
      rw[hf] at Hc;have GR:Hid (T m=true/\(fI = -1\/T fI.toNat=false)):=⟨hf,HX.o.2⟩;clear hf HX;go_wp2_with fail;refine cm_ Hc.o ?_;rintro e w5 ⟨rfl,hb⟩;have IZ:=bt_ Fy hb;have IU:=hd_ (CX.o.below hb);clear hb Hc Fy CX;go_wp2_with fail;refine⟨⟨fI,m,Br,fJ,by omega,rfl,rfl,GR,IU,IZ⟩,by simp[intOf];omega⟩
     | false =>
      rw[hf] at Hc;have GR:Hid (T t=true/\((m:Int) = -1\/T ((m:Int)).toNat=false)):=⟨HX.o.1,.inr (by rw[Int.toNat_natCast];exact hf)⟩;clear hf HX;go_wp2_with fail;refine cm_ Hc.o ?_;rintro e w5 ⟨rfl,hb⟩;have IZ:=bt_ Fy hb;have IU:=hd_ (CX.o.below hb);clear hb Hc Fy CX;go_wp2_with fail;refine⟨⟨(m:Int),t,by omega,by omega,ht,rfl,rfl,GR,IU,IZ⟩,by simp[intOf];omega⟩
    ·have J7:fI=(t:Int)-1:=by omega
     have HL:Hid (Za8 T t):=by
      refine⟨HX.o.1,?_,by omega⟩;rcases HX.o.2 with h|h
      ·left;omega
      ·by_cases h0:t=0
       ·left;exact h0
       ·right;rw[show t-1=fI.toNat by omega];exact h
     clear J7 HX;go_wp2_with fail
     go_ret3
     exact⟨R,B,t,rfl,HG.o,ht,hB2,HL.o,HB.o⟩
def Yb (l:List (Int×Int×ByteArray)):List Value:=l.flatMap fun x=>[.int .i64 x.1,.int .i64 x.2.1,.string x.2.2]
theorem Zld(l:List (Int×Int×ByteArray)):(Yb l).length=l.length*3:=by
 unfold Yb
 induction l with
 | nil=>rfl
 | cons x l ih=>rw[List.flatMap_cons,List.length_append,ih,List.length_cons];simp;omega
theorem Zle(l m:List (Int×Int×ByteArray)):Yb (l++m)=Yb l++Yb m:=by simp[Yb]
def Zdl (n:Nat) (ps:List Int) (l:List Rat):List (Int×Int×ByteArray):=(ps.zip l).filterMap fun x=>if x.2.num=0 then none else some (x.1,(n:Int),dec (lgN x.1 n))
theorem Zxf(n:Nat)(ps:List Int)(l:List Rat)(k:Nat)(h1:k<ps.length)(h2:k<l.length):
  Zdl n (ps.take (k+1)) (l.take (k+1))=Zdl n (ps.take k) (l.take k)++(if l[k].num=0 then [] else [(ps[k],(n:Int),dec (lgN ps[k] n))]):=by
 unfold Zdl;have e:∀ n,(ps.take n).zip (l.take n)=(ps.zip l).take n:=fun n=>(List.take_zipWith ..).symm
 rw[e,e,List.take_add_one,List.getElem?_eq_getElem (by rw[List.length_zip];omega),List.filterMap_append];congr 1;rw[List.getElem_zip]
 by_cases h:l[k].num=0
 ·rw[if_pos h]
  show List.filterMap _ [(ps[k],l[k])]=[]
  rw[List.filterMap_cons,if_pos h];rfl
 ·rw[if_neg h]
  show List.filterMap _ [(ps[k],l[k])]=_
  rw[List.filterMap_cons,if_neg h];rfl
theorem Qfp:(Tryz.prog.info? 124).map (fun i=>(i.zero,i.size,i.bytes))=some (some (.agg #[.int .i64 0,.int .i64 0,.string ⟨#[]⟩]),3,32):=by kernel_rfl
theorem Qhp:Zal Tryz.prog 44 124 (.agg #[.int .i64 0,.int .i64 0,.string ⟨#[]⟩]) 3 32:=⟨Tryz.underlying44,info_parts Qfp,rfl,by decide⟩
theorem Zth(w:World)(a b:Rat):Kc Tryz.prog 135 #[fr a,fr b] w (.bool (sgE a b != 0)):=by
 have H3:=hd_ (Qaw.mk' w (itx a.num) (dec a.den) (itx b.num) (dec b.den));have Hs:=hd_ (fun W=>Zq6 W a b);unfold Kc;unfold fr fv at Hs ⊢;generalize sgE a b=v at *;go_enter Tryz.func135,Tryz.ntmps135;obtain⟨k0,k1,-,-⟩:=Ka H3.o.fa;obtain⟨k2,k3,-,-⟩:=Ka H3.o.fb;go_wp2_with fail;generalize (w.alloc (.cells #[.string (itx a.num),.string (dec a.den)] 101)).alloc (.cells #[.string (itx b.num),.string (dec b.den)] 101)=W0 at *;clear k0 k1 k2 k3;refine cm_ (Hs.o _) ?_;rintro e w1 ⟨rfl,hZ⟩;have B1:=hd_ (H3.o.bel.trans (hZ.mono H3.o.bel.size));clear hZ Hs;go_wp2_with fail;go_ret;exact⟨rfl,B1.o⟩
def Ztx (sg n:Int) (a:OA_) (m c:Nat):Value := .agg #[.int .i64 sg,.int .i64 n,.slice a m c]
def Qhu (w w':World) (ps:List Int) (l:List Rat) (e:Ending):Prop :=
 ∃ (n:Nat) (a:OA_) (c:Nat),e = .returned (.tuple #[Ztx (Zat n ps l) n a (Zdl n ps l).length c,.int .i64 0])/\Za8 (fun b=>Zat b ps l != 0) n/\Rd w' a (Yb (Zdl n ps l))/\Bw_ w w'
structure DcI (w w3 wr:World) (sg:Int) (n m:Nat) (a:OA_) (c:Nat) (bl:List (Int×Int×ByteArray)):Prop where
 res:wr.heap[w.heap.size]?=some (.cells #[.int .i64 0,.int .i64 0,.slice none 0 0] 46 (0,0))
 ob:wr.heap[w3.heap.size]?=some (.cells #[.int .i64 sg,.int .i64 n,.slice a m c] 46 (0,0))
 own:wr.ownsRow (w3.heap.size+1) 124 3 (.slice a m c) m (Yb bl)
 bel:Bw_ w3 wr
 sz:w3.heap.size+1<=wr.heap.size
theorem DcI.below{w w3 wr w':World}{sg:Int}{n m:Nat}{a:OA_}{c:Nat}{bl:List (Int×Int×ByteArray)}(h:DcI w w3 wr sg n m a c bl)(hb:Bw_ wr w'):DcI w w3 w' sg n m a c bl :=
 ⟨by rw[hb.block _ (Array.getElem?_eq_some_iff.1 h.res).1];exact h.res,by rw[hb.block _ (Array.getElem?_eq_some_iff.1 h.ob).1];exact h.ob,Kv h.own hb nr_,h.bel.trans (hb.mono h.bel.size),Nat.le_trans h.sz hb.size⟩
theorem Zge(w:World)(a0 a1:OA_)(c0 c1:Nat)(ps:List Int)(l:List Rat)(rp:Rd w a0 (Vk ps))(rl:Rd w a1 (Kk l))(hi:Zlo ps)(hl:l.length=ps.length)(hn:ps.length<=100)(hs:∀ q∈l,Sm 30 q)(GG:Qz ps=0)(L:Qe w):
  Kc Tryz.prog 78 #[.slice a0 ps.length c0,.slice a1 ps.length c1] w (.int .i64 0):=by
 have NU:Ssz (l.map qs):=fun x hx=>by
  obtain⟨q,hq,rfl⟩:=List.mem_map.1 hx;have h1:=Zce q.num 30 (by decide) (hs q hq).1;have h2:=(Vu q.den 30 (by decide)).2 (hs q hq).2;refine⟨Nat.le_trans h1 (by decide),Nat.le_trans h2 (by decide)⟩
 have h:=Zd9 w a0 a1 c0 c1 ps (l.map qs) rp hi (by omega) rl (by rw[List.length_map];omega) NU L;rw[List.length_map,hl] at h;have h0:Zpm ps (l.map qs)=0:=by unfold Zpm;rw[if_pos GG,Zda hs hl]
 rw[h0] at h;exact h
theorem Zme{w:World}{R:Nat}{x y z z':Value}{t:TypeId}(h:w.heap[R]?=some (.cells #[x,y,z] t (0,0))):
  (w.setCell ⟨R,2,none⟩ z').heap[R]?=some (.cells #[x,y,z'] t (0,0)):=by
 have H7:=lt_of_block h;have h':w.heap[R] = .cells #[x,y,z] t (0,0):=by simpa [Array.getElem?_eq_getElem H7] using h
 show (w.heap.modify R _)[R]?=_
 rw[Array.getElem?_eq_getElem (by simpa using H7),Array.getElem_modify_self,h'];rfl
theorem Qcp{w:World}{B e:Nat}{a:OA_}{c m:Nat}{vs:List Value}{sz:Nat}(h:w.ownsRow B e sz (.slice a m c) m vs):Rd w a vs:=by
 by_cases hn:0<m
 ·obtain⟨g,cap,hv,h1,h2,h3,h4,h5⟩:=Qy h hn;simp only[Value.slice.injEq] at hv;obtain⟨rfl,-,-⟩:=hv;refine .inr ⟨g,0,rfl,h2,fun i v hi=>?_⟩;have H7:=(List.getElem?_eq_some_iff.1 hi).1;have gd:=h.1;rw[Nat.zero_add,h4 i (by omega)];exact hi
 ·obtain rfl:m=0:=by omega
  have gd:=h.1;exact .inl (List.length_eq_zero_iff.1 (by omega))
theorem DcI.push{w w3 W w5:World}{sg:Int}{n mm c d:Nat}{a a3:OA_}{bl:List (Int×Int×ByteArray)}{x:Int×Int×ByteArray}{news:List Value}(h:DcI w w3 W sg n mm a c bl)(hw:w.heap.size<w3.heap.size)
  (hnews:news=[.int .i64 x.1,.int .i64 x.2.1,.string x.2.2])
  (hg:(W.alloc (.cells news.toArray 124)).grownBy w5 (Value.slice a mm c).ownBlock) (ho:w5.ownsRow (w3.heap.size+1) 124 3 (.slice a3 (mm+1) d) (mm+1) (Yb bl++news)) :
  (∃ v,w5.cell? ⟨w3.heap.size,2,none⟩=some v)/\w5.frozen? ⟨w3.heap.size,2,none⟩=false/\DcI w w3 (w5.setCell ⟨w3.heap.size,2,none⟩ (.slice a3 (mm+1) d)) sg n (mm+1) a3 d (bl++[x]):=by
 have gk:∀ k,(Value.slice a mm c).ownBlock=some k->w3.heap.size+1<=k:=fun k hk=>(World.ownsRow.lt h.own k hk).1
 have Gx:∀ k o,k<w3.heap.size+1->W.heap[k]?=some o->w5.heap[k]?=some o:=fun k o hk ho=>by
  rw[hg.block k (by simp;have:=h.sz;omega) (fun e=>by have:=gk k e.symm;omega)];rw[((Below.refl W.heap.size W).alloc nr_ _).block k (by have:=h.sz;omega)];exact ho
 have mG:=Gx _ _ (Nat.lt_succ_self _) h.ob;obtain⟨-,-,k2,kf⟩:=Kf mG;refine⟨⟨_,k2⟩,kf 2,?_,Zme mG,?_,?_,?_⟩
 ·rw[Below.heap_setCell _ _ _ _ (by show w.heap.size≠w3.heap.size;omega)];exact Gx _ _ (by omega) h.res
 ·have:=ownsRow_setCell_below (a:=⟨w3.heap.size,2,none⟩) ho (Nat.lt_succ_self _) (.slice a3 (mm+1) d)
  rw[Zle];subst hnews;exact this
 ·refine Below.setCell (p:=⟨w3.heap.size,2,none⟩) ?_ nr_ _;exact(h.bel.alloc h.bel.size _).grown hg (by simp;have:=h.sz;omega) (fun k hk=>by have:=gk k hk;omega)
 ·rw[World.size_setCell];have:=hg.size
  simp at this;have:=h.sz
  omega
theorem Znb(w:World)(a0 a1:OA_)(c0 c1 D:Nat)(ps:List Int)(l:List Rat)(rp:Rd w a0 (Vk ps))(rl:Rd w a1 (Kk l))(hi:Zlo ps)(hl:l.length=ps.length)(hn:ps.length<=100)(hp:∀ p∈ps,∃ q:Nat,p=q/\(q=2\/q∈Zbv))(hs:∀ q∈l,Sm D q)(hD:D<=30)
  (GG:Qz ps=0) (hnz:l.any nzQ=true) (GL:Zat 1000 ps l≠0) (L:Qe w) :
  Calls Tryz.prog 56 #[.slice a0 ps.length c0,.slice a1 ps.length c1] w fun e w'=>Qhu w w' ps l e:=by
 have Ck:=hd_ (fun W (hW:Bw_ w W)=>Zge W a0 a1 c0 c1 ps l (rp.below hW nr_) (rl.below hW nr_) hi hl hn (fun q hq=>(hs q hq).le hD) GG (L.below hW));have jR:=hd_ (fun W (hW:Bw_ w W)=>Zq5 W a1 c1 l (rl.below hW nr_) (by omega));rw[hnz,hl] at jR;have EA:=hd_ (fun W (hW:Bw_ w W)=>Zm1 W ps l a0 a1 c0 c1 D (rp.below hW nr_) (rl.below hW nr_) hl hn hp hs (by omega) 135 #[] (Zk1 Tryz.func135 (by kernel_rfl) rfl) (fun b=>Zat b ps l != 0) (fun W' _ b _=>by
  have:=Zth W' (loE b ps l) (hiE b ps l)
  rw[Zu0] at this;exact this) (by rw[bne_iff_ne];exact GL) (L.below hW))
 have EH:=hd_ (fun W (hW:Bw_ w W) R B b (H:Zpu W R ps l B) (hb:b<=B) (hB:B<=1000)=>Zde W R ps l B b D H hl hn hp hs (by omega) hb hB (L.below hW));have bS:=hd_ (fun W b=>Zq6 W (loE b ps l) (hiE b ps l));have AB:=hd_ (fun W (hW:Bw_ w W) R B b k (H:Zpu W R ps l B) (hk:k<ps.length) (gU:k<l.length) (hz:l[k].num≠0) (hb:b<=B) (hB:B<=1000)=>Qbt W R ps l B b k H hl hn hk gU (hp _ (List.getElem_mem hk)) hz hb hB (L.below hW));have Au:=hd_ rp;have Av:=hd_ rl;have Hl:=hd_ hl;have ge:Hid ((w.alloc (.cells #[.int .i64 0,.int .i64 0,.slice none 0 0] 46)).heap[w.heap.size]?=some (.cells #[.int .i64 0,.int .i64 0,.slice none 0 0] 46 (0,0))):=heap_alloc_new w _;have gl:=hd_ ((Below.refl w.heap.size w).alloc nr_ (.cells #[.int .i64 0,.int .i64 0,.slice none 0 0] 46));clear rp rl hs hp GG hnz GL L hi;unfold fr fv at EH bS;obtain⟨n,FK⟩:∃ n,ps.length=n:=⟨_,rfl⟩;have Hn:=hd_ FK;rw[FK] at hn Ck jR EA ⊢;clear FK hl;go_enter Tryz.func56,Tryz.ntmps56;go_wp2_with fail;generalize w.alloc (.cells #[.int .i64 0,.int .i64 0,.slice none 0 0] 46)=W0 at *;refine cm_ (Ck.o _ gl.o) ?_;rintro e w1 ⟨rfl,hb⟩;have B1:=bt_ gl hb;have C1:=hd_ hb;clear hb Ck gl;go_wp2_with fail;refine cm_ (jR.o _ B1.o) ?_;rintro e w2 ⟨rfl,hb⟩;have B2:=bt_ B1 hb;have C2:=bt_ C1 hb;clear hb jR B1 C1;go_wp2_with fail;refine cm_ (EA.o _ B2.o) ?_;rintro e w3a ⟨R,B,m,rfl,hg,hm,hB,hN,hb⟩;have B3:=bt_ B2 hb;have C3:=bt_ C2 hb;have HG:=hd_ hg;have HN:=hd_ hN;clear hb EA B2 C2 hg hN;go_wp2_with fail;refine cm_ (EH.o _ B3.o R B m HG.o hm hB) ?_;rintro e w3b ⟨rfl,hb⟩;have B4:=bt_ B3 hb;have C4:=bt_ C3 hb;have CX:=hd_ (HG.o.below hb);clear hb EH B3 C3 HG;go_wp2_with fail;refine cm_ (bS.o _ m) ?_;rintro e w3 ⟨rfl,hb⟩;have B5:=bt_ B4 hb;have C5:=bt_ C4 hb;have IU:=hd_ (CX.o.below hb);clear hb bS B4 C4 CX;have db:sgE (loE m ps l) (hiE m ps l)=Zat m ps l:=Zu0 m ps l;have Gf:=hd_ db;rw[db];clear db;obtain⟨sg,hsgd⟩:∃ sg,Zat m ps l=sg:=⟨_,rfl⟩;have ah:Hid (sg=Zat m ps l):=hsgd.symm;rw[hsgd];clear hsgd;have D5:Hid (DcI w w3 (w3.alloc (.cells #[.int .i64 sg,.int .i64 m,.slice none 0 0] 46)) sg m 0 none 0 (Zdl m (ps.take 0) (l.take 0))):=by
  have C':w3.heap[w.heap.size]?=some (.cells #[.int .i64 0,.int .i64 0,.slice none 0 0] 46 (0,0)):=by
   rw[C5.o.block _ (Array.getElem?_eq_some_iff.1 ge.o).1];exact ge.o
  refine⟨?_,heap_alloc_new w3 _,World.ownsRow_nil ..,(Below.refl _ _).alloc nr_ _,by simp⟩;rw[((Below.refl w3.heap.size w3).alloc nr_ _).block _ (Array.getElem?_eq_some_iff.1 C').1];exact C'
 have MU:Hid (w.heap.size<w3.heap.size):=by
  have:=(Array.getElem?_eq_some_iff.1 ge.o).1
  have:=C5.o.size
  show _<_
  omega
 clear ge C5;go_wp2_with fail
 go_loopw [43] (fun i wr=>∃ (k:Nat) (a:OA_) (c mm:Nat),k<=n/\i = .int .i64 k/\mm<=k/\Hid (mm=(Zdl m (ps.take k) (l.take k)).length)/\Hid (DcI w w3 wr sg m mm a c (Zdl m (ps.take k) (l.take k)))) (fun i _=>n-(intOf i).toNat)
 case atStart=>exact⟨0,none,0,0,Nat.zero_le _,rfl,Nat.le_refl _,rfl,D5⟩
 case round =>
  obtain⟨k,a,c,mm,hk,rfl,AU,Hmm,HI⟩:=hrel;clear D5
  by_cases H7:k<n
  ·have gi:(k:Int)<n:=by omega
   have fK:k<ps.length:=by rw[Hn.o];exact H7
   have gU:k<l.length:=by rw[Hl.o,Hn.o];exact H7
   have Bw:=bt_ B5 HI.o.bel;obtain⟨b0,o0,rfl,Gj,fc⟩:=Au.o.open (by rw[Qp];omega);have eX:Hid (∀ W,Bw_ w W->W.cell? ⟨b0,o0+k,none⟩=some (.int .i64 ps[k])):=fun W hW=>by
    rw[hW.cell (p:=⟨b0,o0+k,none⟩) Gj];exact fc k _ (Ym ps k fK)
   obtain⟨b1,o1,rfl,hZ,gC⟩:=Av.o.open (by rw[Ks];omega);obtain⟨x0,x1⟩:=Qf gC k (by rw[List.length_map];exact gU);rw[Qb l k gU] at x0 x1;rw[<- Bw.o.cell (p:=⟨b1,o1+k*2,none⟩) hZ] at x0;rw[<- Bw.o.cell (p:=⟨b1,o1+k*2+1,none⟩) hZ] at x1;have Aa:IntKind.i64.wrap ((k:Int)+1)=((k+1:Nat):Int):=by rw[<- Int.natCast_succ];exact iw_ _ (by omega)
   have dG:=hd_ (fun W=>Zr8 W l[k]);have j7:=hd_ (Zxf m ps l k fK gU);have FI:=hd_ (fun W (hW:Bw_ w3 W) (hz:l[k].num≠0)=>AB.o W (bu_ B5 hW) R B m k (IU.o.below hW) fK gU hz hm hB);clear fc gC;unfold fr fv at dG;unfold qs at x0 x1;simp only at x0 x1;generalize l[k]=q at *;generalize ps[k]=pk at *;have IR:=hd_ (HI.o.below ((Below.refl _ _).alloc nr_ (.cells #[.string (itx q.num),.string (dec q.den)] 101)));have k8:=Ka (heap_alloc_new wr (.cells #[.string (itx q.num),.string (dec q.den)] 101))
   by_cases hz:q.num=0
   ·have BA:=j7.o;rw[if_pos hz,List.append_nil] at BA;have DX:=hd_ BA;rw[hz] at dG x0 k8 IR;clear FI BA j7 hz;go_wp2_with fail;refine cm_ (dG.o _) ?_;rintro e w4 ⟨rfl,hb⟩;have gt:=hd_ (IR.o.below hb);clear hb dG k8 IR HI;go_wp2_with fail;refine⟨⟨k+1,a,c,mm,by omega,by go_num,by omega,by rw[DX.o];exact Hmm,by rw[DX.o];exact gt⟩,by simp[intOf];omega⟩
   ·have NV:(q.num.sign != 0)=true:=by
     rw[bne_iff_ne];intro h;exact hz (Int.sign_eq_zero_iff_zero.1 h)
    have BA:=j7.o;rw[if_neg hz] at BA;have DX:=hd_ BA;have I':=hd_ (fun W hW=>FI.o W hW hz);clear FI BA j7 hz;go_wp2_with fail;refine cm_ (dG.o _) ?_;rintro e w4 ⟨rfl,hb⟩;have gt:=hd_ (IR.o.below hb);clear hb dG k8 IR HI x0 x1;obtain⟨k0,k1,k2,-⟩:=Kf gt.o.ob;have cp:=eX.o w4 (bu_ B5 gt.o.bel);have q0:=NW.cell k2;have q1:=NW.cell cp;have gn:Nonempty (NW w4):=⟨⟨w4,Below.refl _ _⟩⟩;have I:Hid (Bw_ w4 w4.drew):=(Below.refl _ _).drew;clear k0 k1 k2 cp;go_wp2_with fail;refine wn_ 13 [(2,0),(1,1),(2,2),(2,3),(2,4),(1,5),(2,6),(2,7),(2,8),(2,9),(0,10),(0,11),(0,12),(0,13),(2,14),(0,15)] I ?_;refine wa_ rfl ?_;go_big_quiet_step (fail);refine wq_ ?_;refine wr_ rfl ?_;go_big_quiet_step (fail);refine wq_ ?_;iterate 3 (refine wa_ rfl ?_;go_big_quiet_step (fail);refine wq_ ?_)
    refine wr_ rfl ?_;go_big_quiet_step (fail);refine wq_ ?_;iterate 4 (refine wa_ rfl ?_;go_big_quiet_step (fail);refine wq_ ?_)
    clear gn q0 q1;refine wm_ rfl ?_;go_wp2_with fail;refine cm_ (I'.o _ (gt.o.bel.trans (I.o.mono gt.o.bel.size))) ?_;rintro e x1 ⟨rfl,hb⟩;have I1:Hid (Bw_ w4 x1):=I.o.trans (hb.mono I.o.size);clear hb I I';go_wp2_with fail;refine⟨⟨⟨_,I1.o⟩,rfl⟩,?_⟩;refine wm_ rfl ?_;go_wp2_with fail;refine⟨⟨⟨_,I1.o⟩,rfl⟩,?_⟩;refine wm_ rfl ?_;go_wp2_with fail;refine⟨⟨⟨_,I1.o.alloc I1.o.size _⟩,rfl⟩,?_⟩;have Gd:=hd_ (gt.o.below I1.o);have fy:=hd_ Gd.o.sz;refine wm_ rfl ?_
    go_wp2_with (at_builtin;refine Kw rfl (.tmp 52) (.tmp 63) 44 rfl Qhp _ 1 [.int .i64 pk,.int .i64 m,.string (dec (lgN pk m))] rfl rfl Gd.o.own fy.o rfl (by simp[Value.oneCell']) (by omega) (by omega) ?_)
    intro v' w5 gk gL GD;obtain⟨a3,d3,rfl⟩:=Qj gk;obtain⟨⟨v2,hv2⟩,hf2,hI5⟩:=Gd.o.push (x:=(pk,(m:Int),dec (lgN pk m))) MU.o rfl gL gk;rw[<- DX.o] at hI5;have OY:=hd_ hI5;have lY:Hid (mm+1=(Zdl m (ps.take (k+1)) (l.take (k+1))).length):=by
     show _=_
     rw[DX.o,List.length_append,<- Hmm.o];rfl
    clear gk gL GD hI5 Gd I1;go_wp2_with fail;refine wa_ rfl ?_;go_big_quiet_step (fail);refine wq_ ?_;refine wm_ rfl ?_;go_wp2_with fail;simp only[RP.walkR];go_wp2_with fail;refine⟨⟨k+1,a3,d3,mm+1,by omega,by go_num,by omega,lY,OY⟩,by simp[intOf];omega⟩
  ·obtain rfl:k=n:=by omega
   have gi:¬ (k:Int)<k:=by omega
   have Ea:Zdl m (ps.take k) (l.take k)=Zdl m ps l:=by
    rw[<- Hn.o,List.take_length,List.take_of_length_le (by rw[Hl.o,Hn.o];omega)]
   have ef:=hd_ Ea;obtain⟨k0,k1,k2,-⟩:=Kf HI.o.ob;obtain⟨r0,r1,r2,rf⟩:=Kf HI.o.res;have f0:=rf 0;have f1:=rf 1;have f2:=rf 2;have Bw:=bt_ B5 HI.o.bel;have IF:Hid (Rd (((wr.setCell ⟨w.heap.size,0,none⟩ (.int .i64 sg)).setCell ⟨w.heap.size,1,none⟩ (.int .i64 m)).setCell ⟨w.heap.size,2,none⟩ (.slice a mm c)) a (Yb (Zdl m ps l))):=by
    have:=HI.o.own
    rw[Ea] at this;have Bg:w.heap.size<w3.heap.size+1:=Nat.lt_succ_of_lt MU.o;exact Qcp (ownsRow_setCell_below (ownsRow_setCell_below (ownsRow_setCell_below this (a:=⟨w.heap.size,0,none⟩) Bg _) (a:=⟨w.heap.size,1,none⟩) Bg _) (a:=⟨w.heap.size,2,none⟩) Bg _)
   rw[Ea] at Hmm;clear Ea rf AB;go_wp2;obtain⟨z0,z1,z2,hb3⟩:=Zbc (.int .i64 sg) (.int .i64 m) (.slice a mm c) r0 r1 r2 nr_ Bw.o;generalize ((wr.setCell ⟨w.heap.size,0,none⟩ (.int .i64 sg)).setCell ⟨w.heap.size,1,none⟩ (.int .i64 m)).setCell ⟨w.heap.size,2,none⟩ (.slice a mm c)=w9 at *;exact bodyPost_ret (v := .tuple #[.agg #[.int .i64 sg,.int .i64 m,.slice a mm c],.int .i64 0]) (by simp[results,Tryz.results56,go_sem,z0,z1,z2]) rfl ⟨m,a,c,by rw[<- Hmm.o,<- (show sg=Zat m ps l from ah.o)];rfl,HN.o,IF.o,hb3⟩
theorem Zkv{p:Int}(hp:p∈Vj){n:Nat}(hn:n<=64):lgN p n<2^80:=by
 obtain⟨q,rfl,hq⟩:=Zfh (Zax hp);have h:=Zhl hq (64-n) (n:=n) (by omega);rw[show n+(64-n)=64 by omega] at h;have Ae:∀ p∈Vj,lgN p 64<2^80:=by decide +kernel
 have h2:=Ae _ hp;rw[<- h];exact Nat.lt_of_le_of_lt (Nat.div_le_self _ _) h2
theorem Zw6(x:Nat):Vi x x=0:=by unfold Vi;rw[if_neg (Nat.lt_irrefl x),if_pos rfl]
theorem Zpn(w:World)(p:Int)(n:Nat)(hp:p∈Vj)(hn:n<=64):Kc Tryz.prog 65 #[Qd9 p n (dec (lgN p n))] w (.bool true):=by
 unfold Kc Qd9;have Mp:=Zka p hp;have Ge:=Zkv hp hn;have Cl:=hd_ (fun V=>Zfs V p hp);obtain⟨sF,hs,he⟩:=Qch hp hn;obtain⟨m,rfl⟩:=Int.eq_ofNat_of_zero_le (show 0<=p by omega);rw[Int.toNat_natCast] at hs;have ET:0<m:=by omega
 have oN:blN m<=7:=Zxg (by omega);have HL:=hd_ (fun V=>Zzh V m n 160 ET (by omega) (by omega) (by omega) (by decide) (by decide) sF hs);rw[he,show ((160:Nat):Int)=160 from rfl] at HL;have HR:=hd_ (fun V=>Zea V ((lgN m n:Nat):Int) (by rw[Int.natAbs_natCast];exact Zf7 (Nat.lt_trans Ge (by decide +kernel))));simp only[Zhq,Int.natAbs_natCast,Kh] at HR;have aY:Qx (lgN m n):=Zcc (Nat.lt_trans Ge (by decide +kernel));have HO:=hd_ (fun V r1 s1 r2 s2 (k1:IsX V r1 s1 (lgN m n)) (k2:IsX V r2 s2 (lgN m n))=>Zar V r1 r2 s1 s2 _ _ k1.1 k2.1 (Nat.le_trans aY (by decide)));simp only[Zw6] at HO;clear hp Mp Ge hs he oN aY;generalize lgN m n=x at *;generalize dec x=s at *;have Ae:¬ (64:Int)<n:=by omega
 have ES:¬ (n:Int)<0:=by omega
 have NB:=hd_ (Kj w #[.int .i64 m,.int .i64 n,.string s] 124 _ rfl);have B:=hd_ ((Below.refl w.heap.size w).alloc nr_ (.cells #[.int .i64 m,.int .i64 n,.string s] 124));obtain⟨k0,k1,k2,-⟩:=Kf NB.o;go_enter Tryz.func65,Tryz.ntmps65;go_wp2_with fail;generalize w.alloc (.cells #[.int .i64 m,.int .i64 n,.string s] 124)=W0 at *;clear k0 k1 k2;refine cm_ (HR.o _) ?_;rintro e w1 ⟨a,c,rfl,hi,hb⟩;have gH:=hb.trans (((Below.refl w1.heap.size w1).alloc nr_ (.cells #[.bool false,.slice a (wN x).length c] 119)).mono hb.size);have T3:=hd_ (Kj w1 #[.bool false,.slice a (wN x).length c] 119 _ rfl);have X1:=hd_ (hi.below ((Below.refl w1.heap.size w1).alloc nr_ (.cells #[.bool false,.slice a (wN x).length c] 119)) nr_);replace NB:=hk_ NB gH;replace B:=bt_ B gH;obtain⟨k0,k1,k2,-⟩:=Kf NB.o;obtain⟨k3,k4,-,-⟩:=Ka T3.o;clear gH hi hb HR;go_wp2_with fail;generalize hg3:w1.heap.size=g3 at *;generalize w1.alloc (.cells #[.bool false,.slice a (wN x).length c] 119)=W1 at *;clear k0 k1 k2 k3 k4 hg3;refine cm_ (Cl.o _) ?_;rintro e w2 ⟨rfl,hb⟩;replace X1:=hd_ (X1.o.below hb nr_);replace NB:=hk_ NB hb;replace T3:=hk_ T3 hb;replace B:=bt_ B hb;obtain⟨k0,k1,k2,-⟩:=Kf NB.o;clear hb Cl;go_wp2_with fail;clear k0 k1 k2
 go_loopw [5] (fun wd wr=>wd = .int .i64 160/\Hid (wr=w2)) (fun _ _=>0)
 case atStart=>exact⟨rfl,rfl⟩
 case round =>
  obtain⟨rfl,Hw⟩:=hrel;have hw:=Hw.o;subst hw;clear Hw;obtain⟨k0,k1,k2,-⟩:=Kf NB.o;go_wp2_with fail;clear k0 k1 k2;refine cm_ (HL.o _) ?_;rintro e w3 ⟨a3,c3,rfl,hi,hb⟩;have X3:=hd_ hi;replace X1:=hd_ (X1.o.below hb nr_);replace T3:=hk_ T3 hb;replace B:=bt_ B hb;obtain⟨k3,k4,-,-⟩:=Ka T3.o;clear hb hi HL;go_wp2_with fail;refine cm_ (HO.o _ _ _ _ _ X3.o X1.o) ?_;rintro e w4 ⟨rfl,hb⟩;replace B:=bt_ B hb;clear hb HO;go_wp2_with fail;go_ret;exact⟨rfl,B.o⟩
def nzL (ps:List Int) (l:List Rat):List (Int×Rat):=(ps.zip l).filter fun x=>x.2.num != 0
theorem Zpo(n:Nat):∀ (ps:List Int) (l:List Rat),Zdl n ps l=(nzL ps l).map fun x=>(x.1,(n:Int),dec (lgN x.1 n))
 | [],_=>by simp[Zdl,nzL]
 | _::_,[]=>by simp[Zdl,nzL]
 | p::ps,c::l=>by
  have ih:=Zpo n ps l;unfold Zdl nzL at *
  rw[List.zip_cons_cons,List.filterMap_cons,List.filter_cons]
  by_cases h:c.num=0
  ·rw[if_pos h,if_neg (by simp[h])];exact ih
  ·rw[if_neg h,if_pos (by simp[h]),List.map_cons]
   dsimp only
   rw[ih]
theorem Zqs(ps:List Int)(l:List Rat)(k:Nat)(h1:k<ps.length)(h2:k<l.length):
  nzL (ps.take (k+1)) (l.take (k+1))=nzL (ps.take k) (l.take k)++(if l[k].num=0 then [] else [(ps[k],l[k])]):=by
 unfold nzL;have e:∀ n,(ps.take n).zip (l.take n)=(ps.zip l).take n:=fun n=>(List.take_zipWith ..).symm
 rw[e,e,List.take_add_one,List.getElem?_eq_getElem (by rw[List.length_zip];omega),List.filter_append];congr 1;rw[List.getElem_zip]
 by_cases h:l[k].num=0
 ·rw[if_pos h];simp[List.filter,h]
 ·rw[if_neg h];simp[List.filter,h]
theorem Zkn{ps:List Int}{l:List Rat}{x:Int×Rat}(h:x∈nzL ps l):x.1∈ps/\x.2∈l/\x.2.num≠0:=by
 unfold nzL at h;obtain⟨h1,h2⟩:=List.mem_filter.1 h;have h3:=List.of_mem_zip h1;exact⟨h3.1,h3.2,by simpa using h2⟩
def atB (sg:Int) (n:Nat) (p:Int) (c:Rat):Nat:=lgN p n+if p≠2/\(decide (c.num<0)==decide (sg=1))=true then 1 else 0
def Zdj (sg:Int) (n:Nat) (T:List (Int×Rat)):Int×Nat:=T.foldl (fun s x=>Ztt s (x.2.num*(atB sg n x.1 x.2:Int),x.2.den*1)) (0,1)
theorem Zl1(sg:Int)(n:Nat)(T:List (Int×Rat))(x:Int×Rat):Zdj sg n (T++[x])=Ztt (Zdj sg n T) (x.2.num*(atB sg n x.1 x.2:Int),x.2.den*1):=by
 unfold Zdj;rw[List.foldl_append];rfl
def Zno (sg:Int) (n:Nat):List (Int×Rat)->Rat
 | []=>0
 | x::T=>x.2*((atB sg n x.1 x.2:Nat):Rat)+Zno sg n T
theorem Zl2(sg:Int)(n:Nat)(x:Int×Rat):∀ T,Zno sg n (T++[x])=Zno sg n T+x.2*((atB sg n x.1 x.2:Nat):Rat)
 | []=>by simp only[List.nil_append,Zno];grind
 | y::T=>by simp only[List.cons_append,Zno,Zl2 sg n x T];grind
theorem Qcr(q:Rat):(q.num:Rat)=q*(q.den:Rat):=by
 have h:=Zb9 q.num q.den q.den_pos;rw[Rat.mkRat_self] at h;exact h.symm
structure SmX (G:Nat) (sg:Int) (n k:Nat) (T:List (Int×Rat)) (s:Int×Nat):Prop where
 v:(s.1:Rat)=Zno sg n T*(s.2:Rat)
 p:0<s.2
 b1:s.1.natAbs<=G^k
 b2:s.2<=G^k
theorem Zqb(G:Nat)(sg:Int)(n:Nat):SmX G sg n 0 [] (Zdj sg n []):=by
 refine⟨?_,Nat.one_pos,Nat.zero_le _,Nat.le_refl _⟩
 show ((0:Int):Rat)=0*((1:Nat):Rat)
 rw[Rat.zero_mul];rfl
theorem Zqc{A C Q G:Nat}{sg:Int}{n k:Nat}{T:List (Int×Rat)}{x:Int×Rat}(h:SmX G sg n k T (Zdj sg n T))(hq:x.2.num.natAbs<=A)(hd:x.2.den<=Q)(ha:atB sg n x.1 x.2<=C)(hQ:A*C<=Q)(hQ1:1<=Q)(hG:2*Q<=G):
  SmX G sg n (k+1) (T++[x]) (Zdj sg n (T++[x]))/\(x.2.num*(atB sg n x.1 x.2:Int)).natAbs<=G^(k+1) /\
   ((Zdj sg n T).1*((x.2.den*1:Nat):Int)).natAbs<=G^(k+1)/\(x.2.num*(atB sg n x.1 x.2:Int)*(((Zdj sg n T).2:Nat):Int)).natAbs<=G^(k+1):=by
 obtain⟨hv,hp,hZ,HU⟩:=h;have Bf:=Qcr x.2;have oG:=x.2.den_pos;have hX:1<=G^k:=Nat.pow_pos (by omega);have N8:(x.2.num*(atB sg n x.1 x.2:Int)).natAbs<=Q:=by
  rw[Int.natAbs_mul,Int.natAbs_natCast];exact Nat.le_trans (Nat.mul_le_mul hq ha) hQ
 have mU:(((x.2.num*(atB sg n x.1 x.2:Int):Int)):Rat)=x.2*((atB sg n x.1 x.2:Nat):Rat)*((x.2.den:Nat):Rat):=by
  rw[Rat.intCast_mul,Rat.intCast_natCast,Bf]
  grind
 have hs:Zno sg n (T++[x])=Zno sg n T+x.2*((atB sg n x.1 x.2:Nat):Rat):=Zl2 sg n x T;have hx:Zdj sg n (T++[x])=Ztt (Zdj sg n T) (x.2.num*(atB sg n x.1 x.2:Int),x.2.den*1):=Zl1 sg n T x;rw[Nat.mul_one] at hx ⊢;have gS:∀ (z:Int) (d:Nat),Zdj sg n T=(z,d)->SmX G sg n (k+1) (T++[x]) (Ztt (z,d) (x.2.num*(atB sg n x.1 x.2:Int),x.2.den))/\(x.2.num*(atB sg n x.1 x.2:Int)).natAbs<=G^(k+1)/\(z*((x.2.den:Nat):Int)).natAbs<=G^(k+1)/\(x.2.num*(atB sg n x.1 x.2:Int)*((d:Nat):Int)).natAbs<=G^(k+1):=by
  intro z d hzd;rw[hzd] at hv hp hZ HU
  dsimp only at hv hp hZ HU
  clear hzd hx;generalize x.2.num*(atB sg n x.1 x.2:Int)=q at *;generalize x.2.den=e at *;have po:(z*((e:Nat):Int)).natAbs<=G^k*Q:=by
   rw[Int.natAbs_mul,Int.natAbs_natCast];exact Nat.mul_le_mul hZ hd
  have pF:(q*((d:Nat):Int)).natAbs<=G^k*Q:=by
   rw[Int.natAbs_mul,Int.natAbs_natCast,Nat.mul_comm];exact Nat.mul_le_mul HU N8
  have fY:d*e<=G^k*Q:=Nat.mul_le_mul HU hd;have JZ:0<d*e:=Nat.mul_pos hp oG;have y1:G^k<=G^k*Q:=Nat.le_mul_of_pos_right _ hQ1;have y2:Q<=G^k*Q:=Nat.le_mul_of_pos_left _ hX;have y3:2*(G^k*Q)<=G^(k+1):=by
   rw[Nat.pow_succ,<- Nat.mul_assoc,Nat.mul_comm 2,Nat.mul_assoc];exact Nat.mul_le_mul_left _ hG
  have FE:∀ a b:Int,(a+b).natAbs<=a.natAbs+b.natAbs:=Int.natAbs_add_le;refine⟨?_,by omega,by omega,by omega⟩;unfold Ztt
  dsimp only
  by_cases h:d=e
  ·subst h;rw[if_pos rfl];refine⟨?_,hp,?_,?_⟩
   ·dsimp only
    rw[hs,Rat.intCast_add,hv,mU]
    grind
   ·dsimp only
    have:=FE z q
    omega
   ·dsimp only
    omega
  ·rw[if_neg h];refine⟨?_,JZ,?_,?_⟩
   ·dsimp only
    rw[hs,Rat.intCast_add,Rat.intCast_mul,Rat.intCast_mul,Rat.intCast_natCast,Rat.intCast_natCast,hv,mU,Rat.natCast_mul]
    grind
   ·dsimp only
    have:=FE (z*(e:Int)) (q*(d:Int))
    omega
   ·dsimp only
    omega
 rw[hx];exact gS _ _ rfl
theorem Zuh{n:Nat}:∀ (ps:List Int) (l:List Rat),Zno 1 n (nzL ps l)=loE n ps l*2^n
 | [],_=>by simp[nzL,Zno,loE,Rat.zero_mul]
 | _::_,[]=>by simp[nzL,Zno,loE,Rat.zero_mul]
 | p::ps,c::l=>by
  have ih:=Zuh (n:=n) ps l;have hx:=Zit p n;have hy:=Zis p n;have fB:=Za9 p n;unfold nzL at *
  rw[List.zip_cons_cons,List.filter_cons];simp only[loE]
  by_cases h0:c.num=0
  ·rw[if_neg (by simp[h0]),ih];have c0:c=0:=Rat.num_eq_zero.1 h0;obtain⟨m1,-⟩:=Za1 fB (show (0:Rat)<=c by rw[c0];decide);rw[m1,c0,Rat.zero_mul,Rat.zero_add]
  ·rw[if_pos (by simp[h0])];simp only[Zno];rw[ih];rcases Decidable.em (c<0) with hc|hc
   ·obtain⟨m1,-⟩:=Zds fB hc;have hn:c.num<0:=LN.num_neg'.2 hc;have ha:atB 1 n p c=LN.hiL (lf n) p:=by
     unfold atB LN.hiL;rw[decide_eq_true hn]
     by_cases h2:p=2
     ·rw[if_neg (by simp[h2]),if_pos h2];rfl
     ·rw[if_pos ⟨h2,rfl⟩,if_neg h2];rfl
    rw[m1,ha,<- hy]
    grind
   ·have hc:=Rat.not_lt.1 hc;obtain⟨m1,-⟩:=Za1 fB hc;have hn:¬ c.num<0:=fun h=>absurd (LN.num_neg'.1 h) (Rat.not_lt.2 hc)
    have ha:atB 1 n p c=lgN p n:=by
     unfold atB;rw[decide_eq_false hn,if_neg (by simp)];rfl
    rw[m1,ha,<- hx]
    grind
theorem Zui{n:Nat}:∀ (ps:List Int) (l:List Rat),Zno (-1) n (nzL ps l)=hiE n ps l*2^n
 | [],_=>by simp[nzL,Zno,hiE,Rat.zero_mul]
 | _::_,[]=>by simp[nzL,Zno,hiE,Rat.zero_mul]
 | p::ps,c::l=>by
  have ih:=Zui (n:=n) ps l;have hx:=Zit p n;have hy:=Zis p n;have fB:=Za9 p n;unfold nzL at *
  rw[List.zip_cons_cons,List.filter_cons];simp only[hiE]
  by_cases h0:c.num=0
  ·rw[if_neg (by simp[h0]),ih];have c0:c=0:=Rat.num_eq_zero.1 h0;obtain⟨-,m1⟩:=Za1 fB (show (0:Rat)<=c by rw[c0];decide);rw[m1,c0,Rat.zero_mul,Rat.zero_add]
  ·rw[if_pos (by simp[h0])];simp only[Zno];rw[ih];rcases Decidable.em (c<0) with hc|hc
   ·obtain⟨-,m1⟩:=Zds fB hc;have hn:c.num<0:=LN.num_neg'.2 hc;have ha:atB (-1) n p c=lgN p n:=by
     unfold atB;rw[decide_eq_true hn,if_neg (by simp)];rfl
    rw[m1,ha,<- hx]
    grind
   ·have hc:=Rat.not_lt.1 hc;obtain⟨-,m1⟩:=Za1 fB hc;have hn:¬ c.num<0:=fun h=>absurd (LN.num_neg'.1 h) (Rat.not_lt.2 hc)
    have ha:atB (-1) n p c=LN.hiL (lf n) p:=by
     unfold atB LN.hiL;rw[decide_eq_false hn]
     by_cases h2:p=2
     ·rw[if_neg (by simp[h2]),if_pos h2];rfl
     ·rw[if_pos ⟨h2,by decide⟩,if_neg h2];rfl
    rw[m1,ha,<- hy]
    grind
def Zyp (sg z:Int):Bool:=decide (z=0)||(decide (z<0)==decide (sg<0))
theorem Zqh{G n k:Nat}{ps:List Int}{l:List Rat}(h:SmX G 1 n k (nzL ps l) (Zdj 1 n (nzL ps l))):Zyp 1 (Zdj 1 n (nzL ps l)).1=decide (0<=loE n ps l):=by
 have hv:=h.v;have hp:(0:Rat)<((Zdj 1 n (nzL ps l)).2:Rat):=Rat.natCast_pos.2 h.p;rw[Zuh] at hv;have h2:=Zb n;generalize (Zdj 1 n (nzL ps l)).1=z at *;generalize ((Zdj 1 n (nzL ps l)).2:Rat)=d at *;generalize (2:Rat)^n=t at *;generalize loE n ps l=x at *;have C8:0<t*d:=Rat.mul_pos h2 hp;have e:(z:Rat)=x*(t*d):=by rw[hv,Rat.mul_assoc]
 have gS:0<=z↔0<=x:=by
  constructor
  ·intro hz;refine Rat.not_lt.1 fun hx=>?_
   have h3:=Rat.mul_pos (show 0 < -x by grind) C8;have h4:(0:Rat)<=(z:Rat):=by rw[<- Rat.intCast_zero];exact Rat.intCast_le_intCast.2 hz
   grind
  ·intro hx;have h3:=Rat.mul_nonneg hx (Rat.le_of_lt C8);rw[<- e,<- Rat.intCast_zero] at h3;exact Rat.intCast_le_intCast.1 h3
 unfold Zyp;rw[decide_eq_false (show ¬ (1:Int)<0 by decide)]
 by_cases hx:0<=x
 ·have hz:=gS.2 hx;rw[decide_eq_true hx,decide_eq_false (show ¬ z<0 by omega)];simp
 ·have hz:¬ 0<=z:=fun h=>hx (gS.1 h)
  rw[decide_eq_false hx,decide_eq_true (show z<0 by omega),decide_eq_false (show ¬ z=0 by omega)];rfl
theorem Zqi{G n k:Nat}{ps:List Int}{l:List Rat}(h:SmX G (-1) n k (nzL ps l) (Zdj (-1) n (nzL ps l))):Zyp (-1) (Zdj (-1) n (nzL ps l)).1=decide (hiE n ps l<=0):=by
 have hv:=h.v;have hp:(0:Rat)<((Zdj (-1) n (nzL ps l)).2:Rat):=Rat.natCast_pos.2 h.p;rw[Zui] at hv;have h2:=Zb n;generalize (Zdj (-1) n (nzL ps l)).1=z at *;generalize ((Zdj (-1) n (nzL ps l)).2:Rat)=d at *;generalize (2:Rat)^n=t at *;generalize hiE n ps l=x at *;have C8:0<t*d:=Rat.mul_pos h2 hp;have e:(z:Rat)=x*(t*d):=by rw[hv,Rat.mul_assoc]
 have gS:z<=0↔x<=0:=by
  constructor
  ·intro hz;refine Rat.not_lt.1 fun hx=>?_
   have h3:=Rat.mul_pos hx C8;have h4:(z:Rat)<=0:=by rw[<- Rat.intCast_zero];exact Rat.intCast_le_intCast.2 hz
   grind
  ·intro hx;have h3:=Rat.mul_nonneg (show 0 <= -x by grind) (Rat.le_of_lt C8);have h4:(z:Rat)<=0:=by grind
   rw[<- Rat.intCast_zero] at h4;exact Rat.intCast_le_intCast.1 h4
 unfold Zyp;rw[decide_eq_true (show (-1:Int)<0 by decide)]
 by_cases hx:x<=0
 ·have hz:=gS.2 hx;rw[decide_eq_true hx];rcases Int.lt_or_eq_of_le hz with h|h
  ·rw[decide_eq_true h];simp
  ·rw[decide_eq_true h];rfl
 ·have hz:¬ z<=0:=fun h=>hx (gS.1 h)
  rw[decide_eq_false hx,decide_eq_false (show ¬ z<0 by omega),decide_eq_false (show ¬ z=0 by omega)];rfl
structure Qd3 (w W:World):Prop where
 e0:W.heap[w.heap.size]?=some (.cells #[.string ⟨#[]⟩,.string ⟨#[]⟩] 101 (0,0))
 e1:W.heap[w.heap.size+1]?=some (.cells #[.string ⟨#[]⟩,.string ⟨#[]⟩] 101 (0,0))
 bel:Bw_ w W
theorem Qd3.mk'(w:World):Qd3 w ((w.alloc (.cells #[.string ⟨#[]⟩,.string ⟨#[]⟩] 101)).alloc (.cells #[.string ⟨#[]⟩,.string ⟨#[]⟩] 101)):=by
 have h1:=heap_alloc_new w (.cells #[.string ⟨#[]⟩,.string ⟨#[]⟩] 101);have h2:=heap_alloc_new (w.alloc (.cells #[.string ⟨#[]⟩,.string ⟨#[]⟩] 101)) (.cells #[.string ⟨#[]⟩,.string ⟨#[]⟩] 101);refine⟨?_,?_,((Below.refl _ _).alloc nr_ _).alloc (by simp) _⟩
 ·rw[((Below.refl (w.alloc (.cells #[.string ⟨#[]⟩,.string ⟨#[]⟩] 101)).heap.size _).alloc nr_ _).block _ (Array.getElem?_eq_some_iff.1 h1).1];exact h1
 ·have e:(w.alloc (.cells #[.string ⟨#[]⟩,.string ⟨#[]⟩] 101)).heap.size=w.heap.size+1:=by simp
  rw[e] at h2;exact h2
theorem Qd3.below{w W W':World}(h:Qd3 w W)(hb:Bw_ W W'):Qd3 w W' :=
 ⟨by rw[hb.block _ (Array.getElem?_eq_some_iff.1 h.e0).1];exact h.e0,by rw[hb.block _ (Array.getElem?_eq_some_iff.1 h.e1).1];exact h.e1,h.bel.trans (hb.mono h.bel.size)⟩
theorem Zo0{w W:World}(h:Qd3 w W)(x y z u:Value):∃ w9,(((W.setCell ⟨w.heap.size,0,none⟩ x).setCell ⟨w.heap.size,1,none⟩ y).setCell ⟨w.heap.size+1,0,none⟩ z).setCell ⟨w.heap.size+1,1,none⟩ u=w9 /\
  w9.heap[w.heap.size]?=some (.cells #[x,y] 101 (0,0))/\w9.heap[w.heap.size+1]?=some (.cells #[z,u] 101 (0,0))/\Bw_ w w9:=by
 have h1:=Zah (x':=x) (y':=y) h.e0;have e1:((W.setCell ⟨w.heap.size,0,none⟩ x).setCell ⟨w.heap.size,1,none⟩ y).heap[w.heap.size+1]?=some (.cells #[.string ⟨#[]⟩,.string ⟨#[]⟩] 101 (0,0)):=by
  rw[Below.heap_setCell _ _ _ _ (by show w.heap.size+1≠w.heap.size;omega),Below.heap_setCell _ _ _ _ (by show w.heap.size+1≠w.heap.size;omega)];exact h.e1
 refine⟨_,rfl,?_,Zah e1,(((h.bel.setCell (p:=⟨w.heap.size,0,none⟩) nr_ _).setCell (p:=⟨w.heap.size,1,none⟩) nr_ _).setCell (p:=⟨w.heap.size+1,0,none⟩) (Nat.le_succ _) _).setCell (p:=⟨w.heap.size+1,1,none⟩) (Nat.le_succ _) _⟩;rw[Below.heap_setCell _ _ _ _ (by show w.heap.size≠w.heap.size+1;omega),Below.heap_setCell _ _ _ _ (by show w.heap.size≠w.heap.size+1;omega)];exact h1
theorem Zte(w:World)(a0 a1:OA_)(c0 c1 D b:Nat)(ps:List Int)(l:List Rat)(rp:Rd w a0 (Vk ps))(rl:Rd w a1 (Kk l))(hi:Zlo ps)(hl:l.length=ps.length)(hn:ps.length<=100)(hp:∀ p∈ps,∃ q:Nat,p=q/\(q=2\/q∈Zbv))(hs:∀ q∈l,Sm D q)(hD:D<=30)
  (GG:Qz ps=0) (hb:b<=1000) (L:Qe w) :
  Kc Tryz.prog 107 #[.slice a0 ps.length c0,.slice a1 ps.length c1,.int .i64 b] w (.tuple #[fr (loE b ps l),fr (hiE b ps l),.int .i64 0]):=by
 unfold Kc;have HE:=hd_ (Qd3.mk' w);have Ck:=hd_ (Zge _ a0 a1 c0 c1 ps l (rp.below HE.o.bel nr_) (rl.below HE.o.bel nr_) hi hl hn (fun q hq=>(hs q hq).le hD) GG (L.below HE.o.bel));have IK:=hd_ (fun W (hW:Bw_ w W)=>Zjd W ps l b a0 a1 c0 c1 (rp.below hW nr_) (rl.below hW nr_) hl hn hp hb (L.below hW));have EH:=hd_ (fun W (hW:Bw_ w W) R (H:Zpu W R ps l b)=>Zde W R ps l b b D H hl hn hp hs (by omega) nr_ hb (L.below hW));clear rp rl hs hp GG L hi hl;generalize loE b ps l=lo at *;generalize hiE b ps l=hi at *;unfold fr fv at EH ⊢;generalize ps.length=n at *;go_enter Tryz.func107,Tryz.ntmps107;go_wp2_with fail;generalize (w.alloc (.cells #[.string ⟨#[]⟩,.string ⟨#[]⟩] 101)).alloc (.cells #[.string ⟨#[]⟩,.string ⟨#[]⟩] 101)=W0 at *;refine cm_ Ck.o ?_;rintro e w1 ⟨rfl,hbx⟩;have EJ:=hd_ (HE.o.below hbx);clear hbx Ck HE;go_wp2_with fail;refine cm_ (IK.o _ EJ.o.bel) ?_;rintro e w2 ⟨R,rfl,hg,hR,hbx⟩;have ei:=hd_ (EJ.o.below hbx);have HG:=hd_ hg;clear hbx hg hR IK EJ;go_wp2_with fail;refine cm_ (EH.o _ ei.o.bel R HG.o) ?_;rintro e w3 ⟨rfl,hbx⟩;have dY:=hd_ (ei.o.below hbx);clear hbx HG EH ei;obtain⟨k0,k1,f0,f1⟩:=Ka dY.o.e0;obtain⟨k2,k3,f2,f3⟩:=Ka dY.o.e1;go_wp2_with fail;obtain⟨w9,hw9,h0,h1,BC⟩:=Zo0 dY.o (.string (itx lo.num)) (.string (dec lo.den)) (.string (itx hi.num)) (.string (dec hi.den));rw[hw9];have HI:Hid (EnI w w9 lo hi):=⟨h0,h1,BC⟩;clear hw9 h0 h1 BC k0 k1 k2 k3 f0 f1 f2 f3 dY;have CC:∀ p:EnW w lo hi,p.w.cell? ⟨w.heap.size,0,none⟩=some (.string (itx lo.num)):=fun p=>p.cells.1
 have Bv:∀ p:EnW w lo hi,p.w.cell? ⟨w.heap.size,1,none⟩=some (.string (dec lo.den)):=fun p=>p.cells.2.1
 have Bu:∀ p:EnW w lo hi,p.w.cell? ⟨w.heap.size+1,0,none⟩=some (.string (itx hi.num)):=fun p=>p.cells.2.2.1
 have Bt:∀ p:EnW w lo hi,p.w.cell? ⟨w.heap.size+1,1,none⟩=some (.string (dec hi.den)):=fun p=>p.cells.2.2.2
 have gn:Nonempty (EnW w lo hi):=⟨⟨_,HI.o⟩⟩;have aE:=hd_ (HI.o.below (Qa w9 1));refine RP.wp_region_readers 3 [(1,0),(1,1),(0,2),(0,3),(2,4)] (fun w'=>∃ p:EnW w lo hi,w'=p.w) (by kernel_rfl) (by kernel_rfl) ?_ ?_
 ·exact⟨⟨_,aE.o⟩,rfl⟩
 iterate 2 (refine wr_ rfl ?_;go_big_quiet_step (fail);refine wq_ ?_)
 clear gn CC Bv Bu Bt;obtain⟨k0,k1,f0,f1⟩:=Ka HI.o.e0;have EJ:=hd_ (aE.o.put0 lo);refine wm_ rfl ?_;go_wp2_with fail;refine⟨⟨⟨_,EJ.o⟩,rfl⟩,?_⟩;have ei:Hid (EnI w ((w9.setCell ⟨w.heap.size,0,none⟩ (.string (itx lo.num))).setCell ⟨w.heap.size,1,none⟩ (.string (dec lo.den))).drew lo hi):=EJ.o;clear k0 k1 f0 f1 EJ aE HI;generalize ((w9.setCell ⟨w.heap.size,0,none⟩ (.string (itx lo.num))).setCell ⟨w.heap.size,1,none⟩ (.string (dec lo.den))).drew=wz at *;obtain⟨k2,k3,f2,f3⟩:=Ka ei.o.e1;have dY:=hd_ (ei.o.put1 hi);refine wm_ rfl ?_;go_wp2_with fail;refine wa_ rfl ?_;go_big_quiet_step (fail);refine wq_ ?_;simp only[RP.walkR];generalize (wz.setCell ⟨w.heap.size+1,0,none⟩ (.string (itx hi.num))).setCell ⟨w.heap.size+1,1,none⟩ (.string (dec hi.den))=wy at *;clear k2 k3 f2 f3 ei;obtain⟨z0,z1,-,-⟩:=Ka dY.o.e0;obtain⟨z2,z3,-,-⟩:=Ka dY.o.e1;go_wp2_with fail;exact bodyPost_ret (v := .tuple #[.agg #[.string (itx lo.num),.string (dec lo.den)],.agg #[.string (itx hi.num),.string (dec hi.den)],.int .i64 0]) (by simp[results,Tryz.results107,go_sem,z0,z1,z2,z3]) rfl ⟨rfl,dY.o.bel⟩
def scE (k:Nat) (x:Rat):Int:=Zsq (x*((1200*10^k:Nat):Rat))
theorem Qba(N:Nat):((N:Nat):Rat).num=N/\((N:Nat):Rat).den=1:=⟨Rat.num_natCast N,Rat.den_natCast N⟩
theorem Zg6(w:World)(x:Rat)(D k:Nat)(hx:Sm D x)(hD:D<=900000)(hk:k<=9)(L:Qe w):
  Kc Tryz.prog 188 #[fr x,.int .i64 k] w (.string (itx (scE k x))):=by
 unfold Kc;obtain⟨N,hN⟩:∃ N,1200*10^k=N:=⟨_,rfl⟩;have Mw:N<=1200000000000:=by
  rw[<- hN];exact Nat.le_trans (Nat.mul_le_mul_left 1200 (Nat.pow_le_pow_right (show 0<10 by decide) hk)) (by decide)
 have lk:Sm 13 ((N:Nat):Rat):=by
  obtain⟨h1,h2⟩:=Qba N;refine⟨by rw[h1,Int.natAbs_natCast];exact Nat.lt_of_le_of_lt Mw (by decide),by rw[h2];decide⟩
 have gl:=hd_ ((Below.refl w.heap.size w).alloc nr_ (.cells #[.string (itx x.num),.string (dec x.den)] 101));have F:=hd_ (Zdm.new w x);have Gb:=hd_ (fun W (hW:Bw_ w W)=>show Kc Tryz.prog 13 #[.int .i64 N] W (.string (dec N)) from by
  have:=Zaz W N (by omega) (by omega) (L.below hW)
  rw[Kh] at this;exact this)
 have dH:=hd_ (fun W (hW:Bw_ w W)=>Qd7 W x ((N:Nat):Rat) D 13 hx lk (by omega) (L.below hW));have bJ:=hd_ (fun W (hW:Bw_ w W)=>Zy8 W (x*((N:Nat):Rat)) (D+13) (hx.mul lk) (by omega) (L.below hW));have hv:scE k x=Zsq (x*((N:Nat):Rat)):=by unfold scE;rw[hN]
 rw[hv];have Cf:fr ((N:Nat):Rat) = .agg #[.string (dec N),.string ⟨#[49]⟩]:=by
  obtain⟨h1,h2⟩:=Qba N;unfold fr fv;rw[h1,h2,Kh,Zt]
 rw[Cf] at dH;have HN:Hid (∀ j,j<=k->1200*10^j<=N):=fun j hj=>by rw[<- hN];exact Nat.mul_le_mul_left _ (Nat.pow_le_pow_right (by decide) hj)
 have nW:=hd_ hN;clear L hx hN hv Cf lk;generalize Zsq (x*((N:Nat):Rat))=res at *;generalize x*((N:Nat):Rat)=y at *;unfold fr fv at dH bJ ⊢;go_enter Tryz.func188,Tryz.ntmps188;go_wp2_with fail;generalize hW0:w.alloc (.cells #[.string (itx x.num),.string (dec x.den)] 101)=W0 at *
 go_loopw [5,7] (fun b i wr=>∃ (j M:Nat),j<=k/\M<=1200000000000/\b = .int .i64 M/\i = .int .i64 j/\Hid (M=1200*10^j)/\Hid (wr=W0)) (fun _ i _=>k-(intOf i).toNat)
 case atStart=>exact⟨0,1200,Nat.zero_le _,by decide,rfl,rfl,rfl,rfl⟩
 case round =>
  obtain⟨j,M,hj,hM,rfl,rfl,HM,fW⟩:=hrel;have Jl:=fW.o;subst Jl;clear fW
  by_cases H7:j<k
  ·have gi:(j:Int)<k:=by omega
   have Bb:1200*10^(j+1)=M*10:=by rw[HM.o,Nat.pow_succ,Nat.mul_assoc]
   have gQ:M*10<=1200000000000:=by rw[<- Bb];exact Nat.le_trans (HN.o (j+1) H7) Mw
   have hw:IntKind.i64.wrap ((M:Int)*10)=((M*10:Nat):Int):=by rw[show (M:Int)*10=((M*10:Nat):Int) by omega];exact iw_ _ (by omega)
   have ou:IntKind.i64.wrap ((j:Int)+1)=((j+1:Nat):Int):=by rw[<- Int.natCast_succ];exact iw_ _ (by omega)
   have az:Hid (M*10=1200*10^(j+1)):=Bb.symm;clear Bb;go_wp2_with fail;refine⟨⟨j+1,M*10,by omega,gQ,by go_num,by go_num,az,trivial⟩,by simp[intOf];omega⟩
  ·obtain rfl:j=k:=by omega
   have gi:¬ (j:Int)<j:=by omega
   have oV:M=N:=by rw[HM.o];exact nW.o
   subst oV;obtain⟨k0,k1,-,-⟩:=Ka F.o;have q0:=NW.cell k0;have q1:=NW.cell k1;have gn:Nonempty (NW wr):=⟨⟨wr,Below.refl _ _⟩⟩;have I:Hid (Bw_ wr wr.drew):=(Below.refl _ _).drew;clear HM HN nW k0 k1;go_wp2_with fail;refine wn_ 5 [(1,0),(2,1),(0,2),(0,3),(0,4),(0,5),(2,6)] I ?_;refine wr_ rfl ?_;go_big_quiet_step (fail);refine wq_ ?_;refine wa_ rfl ?_;go_big_quiet_step (fail);refine wq_ ?_;clear gn q0 q1;refine wm_ rfl ?_;go_wp2_with fail;refine cm_ (Gb.o _ (bu_ gl I.o)) ?_;rintro e w1 ⟨rfl,hb⟩;have I1:Hid (Bw_ wr w1):=I.o.trans (hb.mono I.o.size);clear hb I Gb;go_wp2_with fail;refine⟨⟨⟨_,I1.o⟩,rfl⟩,?_⟩;refine wm_ rfl ?_;go_wp2_with fail;refine⟨⟨⟨_,I1.o⟩,rfl⟩,?_⟩;refine wm_ rfl ?_;go_wp2_with fail;refine cm_ (dH.o _ (bu_ gl I1.o)) ?_;rintro e w2 ⟨rfl,hb⟩;have I2:Hid (Bw_ wr w2):=I1.o.trans (hb.mono I1.o.size);clear hb I1 dH;go_wp2_with fail;refine⟨⟨⟨_,I2.o⟩,rfl⟩,?_⟩;refine wm_ rfl ?_;go_wp2_with fail;refine cm_ (bJ.o _ (bu_ gl I2.o)) ?_;rintro e w3 ⟨rfl,hb⟩;have I3:Hid (Bw_ w w3):=gl.o.trans ((bu_ I2 hb).mono gl.o.size);clear hb I2 bJ;go_wp2_with fail;refine wa_ rfl ?_;go_big_quiet_step (fail);refine wq_ ?_;simp only[RP.walkR];go_wp2_with fail;go_ret;exact⟨rfl,I3.o⟩
def Zdq (k:Nat) (a b:Rat):Bool:=(itx (scE k a)).toList==(itx (scE k b)).toList
theorem Zpk(w:World)(a b:Rat)(D k g:Nat)(ha:Sm D a)(hb:Sm D b)(hD:D<=900000)(hk:k<=9)(hg:w.cell? ⟨g,0,none⟩=some (.int .i64 k))(L:Qe w):
  Kc Tryz.prog 187 #[fr a,fr b,.pointer (some ⟨g,0,none⟩)] w (.bool (Zdq k a b)):=by
 have H3:=hd_ (Qaw.mk' w (itx a.num) (dec a.den) (itx b.num) (dec b.den));have Ha:=hd_ (fun W (hW:Bw_ w W)=>Zg6 W a D k ha hD hk (L.below hW));have Hb:=hd_ (fun W (hW:Bw_ w W)=>Zg6 W b D k hb hD hk (L.below hW));have Hv:Hid (Zdq k a b=((itx (scE k a)).toList==(itx (scE k b)).toList)):=rfl;have dm:=block_lt_of_cell hg;have Hg:=hd_ hg;clear ha hb hD L hg;generalize Zdq k a b=v at *;generalize itx (scE k a)=sa at *;generalize itx (scE k b)=sb at *;unfold Kc;unfold fr fv at Ha Hb ⊢;go_enter Tryz.func187,Tryz.ntmps187;go_wp2_with fail;generalize (w.alloc (.cells #[.string (itx a.num),.string (dec a.den)] 101)).alloc (.cells #[.string (itx b.num),.string (dec b.den)] 101)=W0 at *;have fp:W0.cell? ⟨g,0,none⟩=some (.int .i64 k):=(H3.o.bel.cell (p:=⟨g,0,none⟩) dm).trans Hg.o;obtain⟨k0,k1,-,-⟩:=Ka H3.o.fa;obtain⟨k2,k3,-,-⟩:=Ka H3.o.fb;have q0:=NW.cell k0;have q1:=NW.cell k1;have q2:=NW.cell k2;have q3:=NW.cell k3;have q4:=NW.cell fp;have gn:Nonempty (NW W0):=⟨⟨W0,Below.refl _ _⟩⟩;have I:Hid (Bw_ W0 W0.drew):=(Below.refl _ _).drew;clear k0 k1 k2 k3 fp;refine wn_ 5 [(1,0),(1,1),(1,3),(1,4),(0,2),(0,5),(2,6),(2,7)] I ?_;iterate 4 (refine wr_ rfl ?_;go_big_quiet_step (fail);refine wq_ ?_)
 clear gn q0 q1 q2 q3 q4;refine wm_ rfl ?_;go_wp2_with fail;refine cm_ (Ha.o _ (H3.o.bel.trans (I.o.mono H3.o.bel.size))) ?_;rintro e w1 ⟨rfl,hbx⟩;have I1:Hid (Bw_ W0 w1):=I.o.trans (hbx.mono I.o.size);clear hbx I Ha;go_wp2_with fail;refine⟨⟨⟨_,I1.o⟩,rfl⟩,?_⟩;refine wm_ rfl ?_;go_wp2_with fail;refine cm_ (Hb.o _ (H3.o.bel.trans (I1.o.mono H3.o.bel.size))) ?_;rintro e w2 ⟨rfl,hbx⟩;have I2:Hid (Bw_ w w2):=H3.o.bel.trans ((bu_ I1 hbx).mono H3.o.bel.size);clear hbx I1 Hb;go_wp2_with fail;iterate 2 (refine wa_ rfl ?_;go_big_quiet_step (fail);refine wq_ ?_)
 simp only[RP.walkR];go_wp2_with fail;go_ret;exact⟨by rw[Hv.o];rfl,I2.o⟩
def Qhv (w w':World) (ps:List Int) (l:List Rat) (k:Nat) (e:Ending):Prop :=
 ∃ n:Nat,e = .returned (.tuple #[.int .i64 n,.string (itx (scE k (loE n ps l))),.int .i64 0])/\Za8 (fun b=>Zdq k (loE b ps l) (hiE b ps l)) n/\Bw_ w w'
theorem Ztj(w:World)(a0 a1:OA_)(c0 c1 D k:Nat)(ps:List Int)(l:List Rat)(rp:Rd w a0 (Vk ps))(rl:Rd w a1 (Kk l))(hi:Zlo ps)(hl:l.length=ps.length)(hn:ps.length<=100)(hp:∀ p∈ps,∃ q:Nat,p=q/\(q=2\/q∈Zbv))(hs:∀ q∈l,Sm D q)(hD:D<=30)
  (GG:Qz ps=0) (hk:k<=9) (GL:Zdq k (loE 1000 ps l) (hiE 1000 ps l)=true) (L:Qe w) :
  Calls Tryz.prog 109 #[.slice a0 ps.length c0,.slice a1 ps.length c1,.int .i64 k] w fun e w'=>Qhv w w' ps l k e:=by
 have B0:=hd_ ((Below.refl w.heap.size w).alloc nr_ (.cells #[.int .i64 k] 3));have N0:Hid ((w.alloc (.cells #[.int .i64 k] 3)).cell? ⟨w.heap.size,0,none⟩=some (.int .i64 k)):=cell_of_row _ _ 0 _ 3 (0,0) (heap_alloc_new w _);have Ck:=hd_ (Zge _ a0 a1 c0 c1 ps l (rp.below B0.o nr_) (rl.below B0.o nr_) hi hl hn (fun q hq=>(hs q hq).le hD) GG (L.below B0.o));have Gv:∀ b,b<=1000->Sm 100000 (loE b ps l)/\Sm 100000 (hiE b ps l):=fun b hb=>by
  have h:=Zo3 (show b<=1056 by omega) hp hl hs ps.length nr_;rw[List.take_length,List.take_of_length_le (by omega)] at h;have HU:1+ps.length*(D+356)<=100000:=by
   have:ps.length*(D+356)<=100*386:=Nat.mul_le_mul hn (by omega)
   omega
  exact⟨h.1.le HU,h.2.le HU⟩
 have EA:=hd_ (fun W (hW:Bw_ w W) (hc:W.cell? ⟨w.heap.size,0,none⟩=some (.int .i64 k))=>Zm1 W ps l a0 a1 c0 c1 D (rp.below hW nr_) (rl.below hW nr_) hl hn hp hs (by omega) 187 #[.pointer (some ⟨w.heap.size,0,none⟩)] (Zk1 Tryz.func187 (by kernel_rfl) rfl) (fun b=>Zdq k (loE b ps l) (hiE b ps l)) (fun W' jH b hb =>
  Zpk W' (loE b ps l) (hiE b ps l) 100000 k w.heap.size (Gv b hb).1 (Gv b hb).2 (by decide) hk ((jH.cell (block_lt_of_cell hc)).trans hc) (L.below (bv_ hW jH))) GL (L.below hW))
 have EH:=hd_ (fun W (hW:Bw_ w W) R B b (H:Zpu W R ps l B) (hb:b<=B) (hB:B<=1000)=>Zde W R ps l B b D H hl hn hp hs (by omega) hb hB (L.below hW));have LP:=hd_ (fun W (hW:Bw_ w W) b (hb:b<=1000)=>Zg6 W (loE b ps l) 100000 k (Gv b hb).1 (by decide) hk (L.below hW));clear rp rl hs hp GG L hi GL Gv;unfold fr fv at EH LP;obtain⟨n,FK⟩:∃ n,ps.length=n:=⟨_,rfl⟩;rw[FK] at hn Ck EA ⊢;clear FK hl;go_enter Tryz.func109,Tryz.ntmps109;go_wp2_with fail;generalize w.alloc (.cells #[.int .i64 k] 3)=W0 at *;refine cm_ Ck.o ?_;rintro e w1 ⟨rfl,hb⟩;have B1:=bt_ B0 hb;have MI:=(hb.cell (block_lt_of_cell N0.o)).trans N0.o;have N1:=hd_ MI;have Ee:¬ ((k:Int)<0):=by omega
 have JO:¬ (9<(k:Int)):=by omega
 clear hb Ck N0 B0;go_wp2_with fail;refine cm_ (EA.o _ B1.o N1.o) ?_;rintro e w2 ⟨R,B,m,rfl,hg,hm,hB,hN,hb⟩;have B2:=bt_ B1 hb;have MH:=(hb.cell (block_lt_of_cell N1.o)).trans N1.o;have N2:=hd_ MH;have HG:=hd_ hg;have HN:=hd_ hN;clear hb EA B1 hg hN MI N1 MH;go_wp2_with fail;refine cm_ (EH.o _ B2.o R B m HG.o hm hB) ?_;rintro e w3 ⟨rfl,hb⟩;have B3:=bt_ B2 hb;have lC:=(hb.cell (block_lt_of_cell N2.o)).trans N2.o;have N3:=hd_ lC;have cz:=Lib.cell?_alloc_some (.cells #[.string (itx (hiE m ps l).num),.string (dec (hiE m ps l).den)] 101) (Lib.cell?_alloc_some (.cells #[.string (itx (loE m ps l).num),.string (dec (loE m ps l).den)] 101) lC);have B4:=hd_ ((B3.o.alloc B3.o.size (.cells #[.string (itx (loE m ps l).num),.string (dec (loE m ps l).den)] 101)).alloc (Nat.le_trans B3.o.size (by simp)) (.cells #[.string (itx (hiE m ps l).num),.string (dec (hiE m ps l).den)] 101));clear hb EH B2 HG N2 lC;go_wp2_with fail;refine cm_ (LP.o _ B4.o m (by omega)) ?_;rintro e w4 ⟨rfl,hb⟩;have B5:=bt_ B4 hb;clear hb LP B4 B3 N3 cz;go_wp2_with fail
 go_ret3
 exact⟨m,rfl,HN.o,B5.o⟩
theorem Zxa(w:World)(a1 a2:OA_)(c1 c2 n1 n2 k N:Nat)(hN:0<N)(hk:0<k)(JO:k<=9)(hs:k<(dec N).size)(GU:(dec N).size<=1000000)(hc:Calls Tryz.prog 109 #[.slice a1 n1 c1,.slice a2 n2 c2,.int .i64 k] w fun e w'=>(∃ m:Int,e = .returned (.tuple #[.int .i64 m,.string (dec N),.int .i64 0]))/\Bw_ w w'):
  Kc Tryz.prog 44 #[.slice a1 n1 c1,.slice a2 n2 c2,.int .i64 k] w (.tuple #[.string ((dec N).extract 0 ((dec N).size-k)++⟨#[46]⟩++(dec N).extract ((dec N).size-k) (dec N).size),.int .i64 0]):=by
 unfold Kc;have HC:=hd_ hc;have HA:=hd_ (fun W=>show Kc Tryz.prog 110 #[.string (dec N)] W (.string (dec N)) from by
  have:=Zfi W (N:Int)
  rw[Kh,Int.natAbs_natCast] at this;exact this)
 have HS:=hd_ (fun W=>show Kc Tryz.prog 59 #[.string (dec N)] W (.int .i64 1) from by
  have:=Zx W (N:Int)
  rw[Kh,Zf8 hN] at this;exact this)
 clear hc hN;generalize dec N=s at *;obtain⟨z,hz⟩:∃ z,s.size=z:=⟨_,rfl⟩;have Hz:=hd_ hz;rw[hz] at hs GU;clear hz;go_enter Tryz.func44,Tryz.ntmps44;go_wp2_with fail;refine cm_ HC.o ?_;rintro e w1 ⟨⟨m,rfl⟩,hb⟩;have B1:=hd_ hb;clear hb HC;go_wp2_with fail;refine cm_ (HA.o _) ?_;rintro e w2 ⟨rfl,hb⟩;have B2:=bt_ B1 hb;clear hb HA B1;have hz:=Hz.o;have Ge:¬ ((s.size:Int)<=k):=by rw[hz];omega
 have Ee:(0:Int)<k:=by omega
 have hw:IntKind.i64.wrap ((s.size:Int)-k)=((s.size-k:Nat):Int):=by rw[hz,show (z:Int)-k=((z-k:Nat):Int) by omega];exact iw_ _ (by omega)
 clear hz;have oD:((s.size-k:Nat):Int)<=s.size:=by omega
 have Mn:¬ (9223372036854775807<s.size-k+1):=by rw[Hz.o];omega
 have Mm:¬ (9223372036854775807<s.size-k+1+(s.size-(s.size-k))):=by rw[Hz.o];omega
 go_wp2_with fail;refine RP.wp_region_readers 14 [(2,0),(2,1),(2,2),(2,3),(2,4),(2,5),(2,6),(2,7),(2,8),(2,9),(2,10),(2,11),(2,12),(2,13),(0,14)] (fun _=>True) (by kernel_rfl) (by kernel_rfl) ?_ ?_
 ·trivial
 iterate 14 (refine wa_ rfl ?_;go_big_quiet_step (fail);refine wq_ ?_)
 refine wm_ rfl ?_;go_wp2_with fail;simp only[RP.walkR];go_wp2_with fail;refine cm_ (HS.o _) ?_;rintro e w3 ⟨rfl,hb⟩;have B3:=hd_ ((Qg B2.o 1).trans (hb.mono (Qg B2.o 1).size));clear hb HS B2;go_wp2_with fail
 go_ret2
 exact⟨rfl,B3.o⟩
theorem Zkd{k:Nat}{x y:Rat}(h:x<=y):scE k x<=scE k y:=by
 unfold scE Zsq;have h1:x*((1200*10^k:Nat):Rat)<=y*((1200*10^k:Nat):Rat):=Rat.mul_le_mul_of_nonneg_right h (by exact_mod_cast Nat.zero_le _);exact Rat.floor_monotone (Rat.add_le_add_right.2 h1)
theorem Zmf{k:Nat}{x y:Rat}:Zdq k x y=true↔scE k x=scE k y:=by
 unfold Zdq;constructor
 ·intro h;have h1:=eq_of_beq h;refine Zou ?_;exact ByteArray.ext (Array.ext' (by simpa [ByteArray.toList_eq] using h1))
 ·intro h;rw[h];exact beq_self_eq_true _
theorem Zu1{k n m:Nat}{ps:List Int}{l:List Rat}(h:∀ p∈ps,∃ q:Nat,p=q/\(q=2\/q∈Zbv))(_hn:n<=1000)(hm:m<=1000)(h1:Zdq k (loE n ps l) (hiE n ps l)=true)(Ej:n<=m):
  scE k (loE m ps l)=scE k (loE n ps l)/\Zdq k (loE m ps l) (hiE m ps l)=true:=by
 obtain⟨u1,u2⟩:=Zk2 (n:=n) (l:=l) h (m-n) (by omega);rw[show n+(m-n)=m by omega] at u1 u2;have h2:=Zmf.1 h1;have h3:=Zwt m ps l;have a1:=Zkd (k:=k) u1;have a2:=Zkd (k:=k) h3;have a3:=Zkd (k:=k) u2;refine⟨by omega,Zmf.2 (by omega)⟩
theorem Qew{k n m:Nat}{ps:List Int}{l:List Rat}(h:∀ p∈ps,∃ q:Nat,p=q/\(q=2\/q∈Zbv))(hn:n<=1000)(hm:m<=1000)(h1:Zdq k (loE n ps l) (hiE n ps l)=true)(h2:Zdq k (loE m ps l) (hiE m ps l)=true):
  scE k (loE m ps l)=scE k (loE n ps l):=by
 rcases Nat.le_total n m with h3|h3
 ·exact(Zu1 h hn hm h1 h3).1
 ·exact(Zu1 h hm hn h2 h3).1.symm
/-! The numbers. -/
def kP:List Int:=[2,3]
def kA:List Rat:=[-19,12]
def kB:List Rat:=[-1,1]
theorem Zwc:∀ p∈kP,∃ q:Nat,p=q/\(q=2\/q∈Zbv):=by
 intro p hp;simp only[kP,List.mem_cons,List.not_mem_nil,or_false] at hp;rcases hp with rfl|rfl
 ·exact⟨2,rfl,.inl rfl⟩
 ·exact⟨3,rfl,.inr (by decide)⟩
theorem Qbm:∀ p∈kP,p∈Zia:=by decide
theorem Qgo:lgN 3 3=12:=by decide +kernel
theorem Zwb:Zat 9 kP kA=1:=by decide +kernel
theorem Qe9:Zat 8 kP kA=0:=by decide +kernel
theorem Qgn:loE 7 kP kA = -1/16:=by decide +kernel
theorem Qgp:hiE 7 kP kA=1/32:=by decide +kernel
theorem Qbl:Zdq 3 (loE 30 kP kB) (hiE 30 kP kB)=true:=by decide +kernel
theorem Qc4:scE 3 (loE 30 kP kB)=701955:=by decide +kernel
theorem Qfb:Zdl 9 kP kA=[(2,9,dec 512),(3,9,dec 811)]:=by
 have h1:lgN 2 9=512:=by decide +kernel
 have h2:lgN 3 9=811:=by decide +kernel
 show List.filterMap _ [((2:Int),(-19:Rat)),(3,12)]=_
 rw[List.filterMap_cons,List.filterMap_cons];rw[if_neg (by decide +kernel),if_neg (by decide +kernel),h1,h2];rfl
theorem Qc3{n:Nat}(h:Za8 (fun b=>Zat b kP kA != 0) n):n=9:=by
 refine Za8.uniq (T:=fun b=>Zat b kP kA != 0) (fun b hb hx=>?_) h ⟨?_,.inr ?_,by decide⟩
 ·show (Zat (b+1) kP kA != 0)=true
  rw[bne_iff_ne];refine Zpg (d:=1) Qbm (by omega) ?_;have NF:(Zat b kP kA != 0)=true:=hx
  rwa [bne_iff_ne] at NF
 ·show (Zat 9 kP kA != 0)=true
  rw[Zwb];rfl
 ·show (Zat 8 kP kA != 0)=false
  rw[Qe9];rfl
theorem Qfa{n:Nat}(h:Za8 (fun b=>Zdq 3 (loE b kP kB) (hiE b kP kB)) n):scE 3 (loE n kP kB)=701955:=by
 rw[Qew Zwc (show 30<=1000 by decide) h.le Qbl h.at_,Qc4]
theorem Qgq:Zdq 3 (loE 1000 kP kB) (hiE 1000 kP kB)=true:=(Zu1 Zwc (by decide) (by decide) Qbl (by decide)).2
theorem Qe8:Zat 1000 kP kA≠0:=Zpg (n:=9) (d:=991) Qbm (by decide) (by rw[Zwb];decide)
theorem Zok(w:World)(n:Int)(d:Nat)(hn : -1000<=n)(Ca:n<=1000)(hd:0<d)(fT:d<=1000)(L:Qe w):
  Kc Tryz.prog 106 #[.int .i64 n,.int .i64 d] w (fr (mkRat n d)):=by
 have hz:∀ x:Nat,x<=2000->Num x:=fun x hx=>Zhc (Nat.lt_of_le_of_lt hx (Nat.lt_of_lt_of_le (show 2000<2^11 by decide) (Nat.pow_le_pow_right (by decide) (by rw[k10];decide))))
 have gl:=hd_ ((Below.refl w.heap.size w).alloc nr_ (.cells #[.string ⟨#[]⟩,.string ⟨#[]⟩] 101));have ge:Hid ((w.alloc (.cells #[.string ⟨#[]⟩,.string ⟨#[]⟩] 101)).heap[w.heap.size]?=some (.cells #[.string ⟨#[]⟩,.string ⟨#[]⟩] 101 (0,0))):=heap_alloc_new w _;have HO:=hd_ (Zqr _ n d (by omega) (by omega) (by omega) (hz _ (by omega)) (hz _ (by omega)) hd (hz _ (by omega)) (hz _ (by omega)) (L.below gl.o));rw[Zdb n d (by omega)] at HO;clear L hz;generalize mkRat n d=q at *;unfold Kc;unfold fr fv at HO ⊢;go_enter Tryz.func106,Tryz.ntmps106;go_wp2_with fail;generalize w.alloc (.cells #[.string ⟨#[]⟩,.string ⟨#[]⟩] 101)=W0 at *;refine cm_ HO.o ?_;rintro e w1 ⟨rfl,hb⟩;have GM:=Kg ge.o hb;have Ds:=Ki GM (.cells #[.string (itx q.num),.string (dec q.den)] 101);have B2:=hd_ ((bu_ gl hb).alloc (Nat.le_trans gl.o.size hb.size) (.cells #[.string (itx q.num),.string (dec q.den)] 101));obtain⟨k0,k1,f0,f1⟩:=Ka Ds;clear hb HO ge gl GM Ds;go_wp2;obtain⟨c0,c1,hb3⟩:=Kl (B:=w.heap.size) (.string (itx q.num)) (.string (dec q.den)) k0 k1 nr_ B2.o;generalize ((w1.alloc (.cells #[.string (itx q.num),.string (dec q.den)] 101)).setCell ⟨w.heap.size,0,none⟩ (.string (itx q.num))).setCell ⟨w.heap.size,1,none⟩ (.string (dec q.den))=w9 at *;exact bodyPost_ret (v := .agg #[.string (itx q.num),.string (dec q.den)]) (by simp[results,Tryz.results106,go_sem,c0,c1]) rfl ⟨rfl,hb3⟩
theorem Zz1 : (Tryz.prog.fieldsOf 124).toList.map (fun f => (f.name, f.type, f.offset)) = [("Prime", 3, 0), ("Bits", 3, 1), ("Low", 38, 2)] := by kernel_rfl
theorem Qb8:Tryz.prog.stoodInHeld 124=false:=by kernel_rfl
theorem Qdd:Tryz.prog.eqGuardType Tryz.prog.depth 124=false:=by kernel_rfl
theorem Zo2 (W : World) (d : Nat) (p n p' n' : Int) (s s' : ByteArray) (fs : List Field) (h : fs.map (fun f => (f.name, f.type, f.offset)) = [("Prime", 3, 0), ("Bits", 3, 1), ("Low", 38, 2)]) :
  (Op.eqFields (d+1) #[.int .i64 p,.int .i64 n,.string s] #[.int .i64 p',.int .i64 n',.string s'] fs).run Tryz.prog W = .ok (p==p'&&n==n'&&s.toList==s'.toList) W:=by
 obtain⟨f,g,k,rfl⟩:∃ f g k,fs=[f,g,k]:=by
  have hl:=congrArg List.length h;rw[List.length_map] at hl;cases fs with
  | nil=>simp at hl
  | cons f fs =>
   cases fs with
   | nil=>simp at hl
   | cons g fs =>
    cases fs with
    | nil=>simp at hl
    | cons k fs =>
     cases fs with
     | nil=>exact⟨f,g,k,rfl⟩
     | cons x fs=>simp at hl
 simp only[List.map_cons,List.map_nil,List.cons.injEq,Prod.mk.injEq,and_true] at h;obtain⟨⟨h1,h2,h3⟩,⟨h4,h5,h6⟩,h7,h8,h9⟩:=h;have hu:=Tryz.underlying38;have hv:=Tryz.underlying3;simp[Op.eqFields,h1,h2,h3,h4,h5,h6,h7,h8,h9,go_sem,hu,hv]
 by_cases q1:p=p'<;>by_cases q2:n=n'<;>by_cases q3:s.toList=s'.toList<;>simp[q1,q2,q3]
theorem Zyd:Tryz.prog.underlying 124=some (.struct (Tryz.prog.fieldsOf 124)):=by
 have h:=Tryz.underlying124;unfold Program.fieldsOf;rw[h]
theorem Zwp(W:World)(p n p' n':Int)(s s':ByteArray):
  (binOp .eql 124 (.agg #[.int .i64 p,.int .i64 n,.string s]) (.agg #[.int .i64 p',.int .i64 n',.string s'])).run Tryz.prog W = .ok (.bool (p==p'&&n==n'&&s.toList==s'.toList)) W:=by
 rw[run_eql_struct,show (10000:Nat)=9998+1+1 from rfl,run_equalIn_agg (ht:=Zyd) (hp:=Qb8),Zo2 W _ p n p' n' s s' _ Zz1];rfl
theorem Zoz(W:World)(op:BinOp)(x y:Operand)(xs ys:Array Value):(eqGuard op 124 x y (.agg xs) (.agg ys)).run Tryz.prog W = .ok () W:=run_eqGuard_agg W op _ x y xs ys Qdd
theorem Zod{C:World->Prop}{K:Act->Prop}{a:Act}{o:Oper}(x y:Operand)(r:TypeId)(p n p' n':Int)(s s':ByteArray)(h:o.op = .binOp .eql 124 x y r)(hx:a.eval x = .agg #[.int .i64 p,.int .i64 n,.string s])(hy:a.eval y = .agg #[.int .i64 p',.int .i64 n',.string s'])
  (hk:K (a.put o.dst (.bool (p==p'&&n==n'&&s.toList==s'.toList)))):o.quiet Tryz.prog a C K :=
 ⟨_,fun w _=>by
  unfold Oper.quietAt execOp;rw[h];simp only[Sem.run_bind,hx,hy,Zoz,Zwp,Result.andThen_ok,Sem.run_pure];exact⟨rfl,rfl⟩,hk⟩
structure Qha (w:World) (ps:List Int) (a0 a1 a2:OA_) (l1 l2:Zeq):Prop where
 rp:Rd w a0 (Vk ps)
 hi:Zlo ps
 hl:ps.length<=1000
 r1:Rd w a1 (Qm l1)
 r2:Rd w a2 (Qm l2)
 n1:l1.length<=1000
 n2:l2.length<=1000
 s1:Ssz l1
 s2:Ssz l2
 L:Qe w
theorem Qha.all{w W:World}{ps:List Int}{a0 a1 a2:OA_}{l1 l2:Zeq}(H:Qha w ps a0 a1 a2 l1 l2)(hW:Bw_ w W){g c0 c1 c2:Nat}(hg:W.heap[g]?=some (.cells #[.slice a1 l1.length c1,.slice a2 l2.length c2] 35 (0,0))):
  Kc Tryz.prog 20 #[.slice a0 ps.length c0,.slice (some ⟨g,0,none⟩) 2 2] W (.int .i64 (Zik ps [l1,l2])) :=
 Zbi W a0 _ c0 2 ps [l1,l2] (H.rp.below hW nr_) H.hi (Nat.le_trans H.hl (by decide)) (Zg7 hg (H.r1.below hW nr_) (H.r2.below hW nr_)) (by simp)
  (by intro l hl;simp only[List.mem_cons,List.not_mem_nil,or_false] at hl;rcases hl with rfl | rfl;exact⟨Nat.le_trans H.n1 (by decide),H.s1⟩;exact⟨Nat.le_trans H.n2 (by decide),H.s2⟩) (H.L.below hW)
theorem Zs1(W:World)(n:Int)(d:Nat)(q:Rat)(hq:mkRat n d=q)(hn : -1000<=n)(Ca:n<=1000)(hd:0<d)(fT:d<=1000)(L:Qe W):
  Kc Tryz.prog 106 #[.int .i64 n,.int .i64 d] W (fr q):=by rw[<- hq];exact Zok W n d hn Ca hd fT L
theorem Zwd:Zlo kP:=by
 intro x hx;simp only[kP,List.mem_cons,List.not_mem_nil,or_false] at hx;rcases hx with rfl|rfl<;>decide
theorem Qff:∀ q∈kA,Sm 30 q:=by
 intro q hq;simp only[kA,List.mem_cons,List.not_mem_nil,or_false] at hq;rcases hq with rfl|rfl<;>exact⟨by decide +kernel,by decide +kernel⟩
theorem Qgs:∀ q∈kB,Sm 30 q:=by
 intro q hq;simp only[kB,List.mem_cons,List.not_mem_nil,or_false] at hq;rcases hq with rfl|rfl<;>exact⟨by decide +kernel,by decide +kernel⟩
theorem Zos:Qz kP=0:=by decide +kernel
theorem Qfg:kA.any nzQ=true:=by decide +kernel
theorem Zs0(w:World)(L:Qe w):Kc Tryz.prog 42 #[] w (.bool true):=by
 unfold Kc;have HL:=hd_ L;have HO:=hd_ (Qfw w 3 3 (.inr (by decide)) (by decide +kernel) (by decide) L);rw[show ((3:Nat):Int)=3 from rfl,Qgo] at HO;unfold Qd9 at HO;clear L;generalize hb12:dec 12=b12 at *;have LJ:=hd_ hb12;clear hb12;obtain⟨q1,fC⟩:∃ q:Rat,q = -19:=⟨_,rfl⟩;obtain⟨q2,fk⟩:∃ q:Rat,q=12:=⟨_,rfl⟩;obtain⟨q3,Ct⟩:∃ q:Rat,q = -1:=⟨_,rfl⟩;obtain⟨q4,Fr⟩:∃ q:Rat,q=1:=⟨_,rfl⟩;obtain⟨q5,hq5⟩:∃ q:Rat,q = -1/16:=⟨_,rfl⟩;obtain⟨q6,hq6⟩:∃ q:Rat,q=1/32:=⟨_,rfl⟩;have N1:=hd_ (fun W (hW:Bw_ w W)=>Zs1 W (-19) 1 q1 (by rw[fC];decide +kernel) (by decide) (by decide) (by decide) (by decide) (HL.o.below hW));have N2:=hd_ (fun W (hW:Bw_ w W)=>Zs1 W 12 1 q2 (by rw[fk];decide +kernel) (by decide) (by decide) (by decide) (by decide) (HL.o.below hW));have N3:=hd_ (fun W (hW:Bw_ w W)=>Zs1 W (-1) 1 q3 (by rw[Ct];decide +kernel) (by decide) (by decide) (by decide) (by decide) (HL.o.below hW));have N4:=hd_ (fun W (hW:Bw_ w W)=>Zs1 W 1 1 q4 (by rw[Fr];decide +kernel) (by decide) (by decide) (by decide) (by decide) (HL.o.below hW));have N5:=hd_ (fun W (hW:Bw_ w W)=>Zs1 W (-1) 16 q5 (by rw[hq5];decide +kernel) (by decide) (by decide) (by decide) (by decide) (HL.o.below hW));have N6:=hd_ (fun W (hW:Bw_ w W)=>Zs1 W 1 32 q6 (by rw[hq6];decide +kernel) (by decide) (by decide) (by decide) (by decide) (HL.o.below hW));have hA:kA=[q1,q2]:=by rw[fC,fk];rfl
 have hB:kB=[q3,q4]:=by rw[Ct,Fr];rfl
 have HD:=hd_ (fun W (hW:Bw_ w W) a0 a1 (rp:Rd W a0 (Vk kP)) (rl:Rd W a1 (Kk [q1,q2]))=>Znb W a0 a1 2 2 30 kP kA rp (by rw[hA];exact rl) Zwd rfl (by decide) Zwc Qff (by decide) Zos Qfg Qe8 (HL.o.below hW));have HE:=hd_ (fun W (hW:Bw_ w W) a0 a1 (rp:Rd W a0 (Vk kP)) (rl:Rd W a1 (Kk [q1,q2]))=>Zte W a0 a1 2 2 30 7 kP kA rp (by rw[hA];exact rl) Zwd rfl (by decide) Zwc Qff (by decide) Zos (by decide) (HL.o.below hW));rw[Qgn,Qgp,<- hq5,<- hq6] at HE;have FZ:3<(dec 701955).size:=by rw[Kt];decide +kernel
 have HC:=hd_ (fun W (hW:Bw_ w W) a0 a1 (rp:Rd W a0 (Vk kP)) (rl:Rd W a1 (Kk [q3,q4]))=>Zxa W a0 a1 2 2 2 2 3 701955 (by decide) (by decide) (by decide) FZ (by rw[Kt];decide +kernel) ((Ztj W a0 a1 2 2 30 3 kP kB rp (by rw[hB];exact rl) Zwd rfl (by decide) Zwc Qgs (by decide) Zos (by decide) Qgq (HL.o.below hW)).mono fun e w' h=>by
  obtain⟨n,he,hl,hb⟩:=h;refine⟨⟨n,?_⟩,hb⟩;rw[Qfa hl,show itx (701955:Int)=dec 701955 from Kh 701955] at he;exact he))
 have Ml:(dec 701955).extract 0 ((dec 701955).size-3)++⟨#[46]⟩++(dec 701955).extract ((dec 701955).size-3) (dec 701955).size=⟨#[55,48,49,46,57,53,53]⟩:=by
  have:((dec 701955).extract 0 ((dec 701955).size-3)++⟨#[46]⟩++(dec 701955).extract ((dec 701955).size-3) (dec 701955).size).data = #[55,48,49,46,57,53,53]:=by decide +kernel
  exact ByteArray.ext this
 rw[Ml] at HC;have Py:=hd_ hq5;have Px:=hd_ hq6;clear fC fk Ct Fr hq5 hq6 hA hB FZ Ml;unfold fr fv at N1 N2 N3 N4 N5 N6 HE;go_enter Tryz.func42,Tryz.ntmps42;go_wp2_with fail;refine cm_ HO.o ?_;rintro e w1 ⟨rfl,hb⟩;have B1:=hd_ (hb.alloc hb.size (.cells #[.int .i64 3,.int .i64 3,.string b12] 124));have F1:=hd_ (Kj w1 #[.int .i64 3,.int .i64 3,.string b12] 124 _ rfl);clear hb HO;go_wp2_with fail;have fu:(w1.alloc (.cells #[.int .i64 3,.int .i64 3,.string b12] 124)).heap.size=w1.heap.size+1:=by simp
 rw[<- fu];generalize w1.heap.size=gb at *;generalize w1.alloc (.cells #[.int .i64 3,.int .i64 3,.string b12] 124)=w1b at *;clear fu;have B2:=hd_ (B1.o.alloc B1.o.size (.cells #[.int .i64 2,.int .i64 3] 3));have FP:Hid ((w1b.alloc (.cells #[.int .i64 2,.int .i64 3] 3)).heap[w1b.heap.size]?=some (.cells #[.int .i64 2,.int .i64 3] 3 (0,0))):=heap_alloc_new w1b _;replace F1:=hd_ (Ki F1.o (.cells #[.int .i64 2,.int .i64 3] 3));clear B1;generalize hg_:w1b.heap.size=gp at *;generalize hw_:w1b.alloc (.cells #[.int .i64 2,.int .i64 3] 3)=w2 at *;clear hg_ hw_;refine cm_ (N1.o _ B2.o) ?_;rintro e_ w3 ⟨rfl,hb_⟩;have B3:=bt_ B2 hb_;replace F1:=hk_ F1 hb_;replace FP:=hk_ FP hb_;clear B2;clear hb_;go_wp2_with fail;refine cm_ (N2.o _ B3.o) ?_;rintro e_ w4 ⟨rfl,hb_⟩;have B4:=bt_ B3 hb_;replace F1:=hk_ F1 hb_;replace FP:=hk_ FP hb_;clear B3;clear hb_;go_wp2_with fail;have B5:=hd_ (B4.o.alloc B4.o.size (.cells #[.string (itx q1.num),.string (dec q1.den),.string (itx q2.num),.string (dec q2.den)] 101));have FA:Hid ((w4.alloc (.cells #[.string (itx q1.num),.string (dec q1.den),.string (itx q2.num),.string (dec q2.den)] 101)).heap[w4.heap.size]?=some (.cells #[.string (itx q1.num),.string (dec q1.den),.string (itx q2.num),.string (dec q2.den)] 101 (0,0))):=heap_alloc_new w4 _;replace F1:=hd_ (Ki F1.o (.cells #[.string (itx q1.num),.string (dec q1.den),.string (itx q2.num),.string (dec q2.den)] 101));replace FP:=hd_ (Ki FP.o (.cells #[.string (itx q1.num),.string (dec q1.den),.string (itx q2.num),.string (dec q2.den)] 101));clear B4;generalize hg_:w4.heap.size=ga at *;generalize hw_:w4.alloc (.cells #[.string (itx q1.num),.string (dec q1.den),.string (itx q2.num),.string (dec q2.den)] 101)=w5 at *;clear hg_ hw_;refine cm_ (HD.o _ B5.o _ _ (Vw FP.o) (Vw FA.o)) ?_;rintro e_ w6 ⟨n_,a_,c_,he_,hl_,hr_,hb_⟩;have B6:=bt_ B5 hb_;replace F1:=hk_ F1 hb_;replace FP:=hk_ FP hb_;replace FA:=hk_ FA hb_;clear B5;clear HD;obtain rfl:=Qc3 hl_;rw[Zwb,Qfb] at he_;rw[Qfb] at hr_;have oF:e_ = .returned (.tuple #[.agg #[.int .i64 1,.int .i64 9,.slice a_ 2 c_],.int .i64 0]):=he_;subst oF;have HR:=hd_ hr_;clear he_ hl_ hr_ hb_;go_wp2_with fail;have B7:=hd_ (B6.o.alloc B6.o.size (.cells #[.int .i64 1,.int .i64 9,.slice a_ 2 c_] 46));have FC:Hid ((w6.alloc (.cells #[.int .i64 1,.int .i64 9,.slice a_ 2 c_] 46)).heap[w6.heap.size]?=some (.cells #[.int .i64 1,.int .i64 9,.slice a_ 2 c_] 46 (0,0))):=heap_alloc_new w6 _;replace F1:=hd_ (Ki F1.o (.cells #[.int .i64 1,.int .i64 9,.slice a_ 2 c_] 46));replace FP:=hd_ (Ki FP.o (.cells #[.int .i64 1,.int .i64 9,.slice a_ 2 c_] 46));replace FA:=hd_ (Ki FA.o (.cells #[.int .i64 1,.int .i64 9,.slice a_ 2 c_] 46));replace HR:=hd_ (HR.o.below ((Below.refl w6.heap.size w6).alloc nr_ (.cells #[.int .i64 1,.int .i64 9,.slice a_ 2 c_] 46)) nr_);clear B6;generalize hg_:w6.heap.size=gc at *;generalize hw_:w6.alloc (.cells #[.int .i64 1,.int .i64 9,.slice a_ 2 c_] 46)=w7 at *;clear hg_ hw_;clear FA;refine cm_ (N1.o _ B7.o) ?_;rintro e_ w8 ⟨rfl,hb_⟩;have B8:=bt_ B7 hb_;replace F1:=hk_ F1 hb_;replace FP:=hk_ FP hb_;replace FC:=hk_ FC hb_;replace HR:=hd_ (HR.o.below hb_ nr_);clear B7;clear hb_;go_wp2_with fail;refine cm_ (N2.o _ B8.o) ?_;rintro e_ w9 ⟨rfl,hb_⟩;have B9:=bt_ B8 hb_;replace F1:=hk_ F1 hb_;replace FP:=hk_ FP hb_;replace FC:=hk_ FC hb_;replace HR:=hd_ (HR.o.below hb_ nr_);clear B8;clear hb_;go_wp2_with fail;have jr:=hd_ (B9.o.alloc B9.o.size (.cells #[.string (itx q1.num),.string (dec q1.den),.string (itx q2.num),.string (dec q2.den)] 101));have FA:Hid ((w9.alloc (.cells #[.string (itx q1.num),.string (dec q1.den),.string (itx q2.num),.string (dec q2.den)] 101)).heap[w9.heap.size]?=some (.cells #[.string (itx q1.num),.string (dec q1.den),.string (itx q2.num),.string (dec q2.den)] 101 (0,0))):=heap_alloc_new w9 _;replace F1:=hd_ (Ki F1.o (.cells #[.string (itx q1.num),.string (dec q1.den),.string (itx q2.num),.string (dec q2.den)] 101));replace FP:=hd_ (Ki FP.o (.cells #[.string (itx q1.num),.string (dec q1.den),.string (itx q2.num),.string (dec q2.den)] 101));replace FC:=hd_ (Ki FC.o (.cells #[.string (itx q1.num),.string (dec q1.den),.string (itx q2.num),.string (dec q2.den)] 101));replace HR:=hd_ (HR.o.below ((Below.refl w9.heap.size w9).alloc nr_ (.cells #[.string (itx q1.num),.string (dec q1.den),.string (itx q2.num),.string (dec q2.den)] 101)) nr_);clear B9;generalize hg_:w9.heap.size=ga2 at *;generalize hw_:w9.alloc (.cells #[.string (itx q1.num),.string (dec q1.den),.string (itx q2.num),.string (dec q2.den)] 101)=w10 at *;clear hg_ hw_;refine cm_ (HE.o _ jr.o _ _ (Vw FP.o) (Vw FA.o)) ?_;rintro e_ w11 ⟨rfl,hb_⟩;have mE:=bt_ jr hb_;replace F1:=hk_ F1 hb_;replace FP:=hk_ FP hb_;replace FC:=hk_ FC hb_;replace FA:=hk_ FA hb_;replace HR:=hd_ (HR.o.below hb_ nr_);clear jr;clear hb_ HE FA N1 N2;go_wp2_with fail;have mL:Hid ((w11.alloc (.cells #[.string (itx q5.num),.string (dec q5.den)] 101)).heap.size=w11.heap.size+1):=by show _=_;simp
 have mD:=hd_ (mE.o.alloc mE.o.size (.cells #[.string (itx q5.num),.string (dec q5.den)] 101));have F5:Hid ((w11.alloc (.cells #[.string (itx q5.num),.string (dec q5.den)] 101)).heap[w11.heap.size]?=some (.cells #[.string (itx q5.num),.string (dec q5.den)] 101 (0,0))):=heap_alloc_new w11 _;replace F1:=hd_ (Ki F1.o (.cells #[.string (itx q5.num),.string (dec q5.den)] 101));replace FP:=hd_ (Ki FP.o (.cells #[.string (itx q5.num),.string (dec q5.den)] 101));replace FC:=hd_ (Ki FC.o (.cells #[.string (itx q5.num),.string (dec q5.den)] 101));replace HR:=hd_ (HR.o.below ((Below.refl w11.heap.size w11).alloc nr_ (.cells #[.string (itx q5.num),.string (dec q5.den)] 101)) nr_);clear mE;generalize hg_:w11.heap.size=g5 at *;generalize hw_:w11.alloc (.cells #[.string (itx q5.num),.string (dec q5.den)] 101)=w12 at *;clear hg_ hw_;have mC:=hd_ (mD.o.alloc mD.o.size (.cells #[.string (itx q6.num),.string (dec q6.den)] 101));have F6:Hid ((w12.alloc (.cells #[.string (itx q6.num),.string (dec q6.den)] 101)).heap[g5+1]?=some (.cells #[.string (itx q6.num),.string (dec q6.den)] 101 (0,0))):=by
  have h_:=heap_alloc_new w12 (.cells #[.string (itx q6.num),.string (dec q6.den)] 101);rw[mL.o] at h_;exact h_
 replace F1:=hd_ (Ki F1.o (.cells #[.string (itx q6.num),.string (dec q6.den)] 101));replace FP:=hd_ (Ki FP.o (.cells #[.string (itx q6.num),.string (dec q6.den)] 101));replace FC:=hd_ (Ki FC.o (.cells #[.string (itx q6.num),.string (dec q6.den)] 101));replace F5:=hd_ (Ki F5.o (.cells #[.string (itx q6.num),.string (dec q6.den)] 101));replace HR:=hd_ (HR.o.below ((Below.refl w12.heap.size w12).alloc nr_ (.cells #[.string (itx q6.num),.string (dec q6.den)] 101)) nr_);clear mD mL;generalize hw_:w12.alloc (.cells #[.string (itx q6.num),.string (dec q6.den)] 101)=w13 at *;clear hw_;refine cm_ (N3.o _ mC.o) ?_;rintro e_ w14 ⟨rfl,hb_⟩;have mB:=bt_ mC hb_;replace F1:=hk_ F1 hb_;replace FP:=hk_ FP hb_;replace FC:=hk_ FC hb_;replace F5:=hk_ F5 hb_;replace F6:=hk_ F6 hb_;replace HR:=hd_ (HR.o.below hb_ nr_);clear mC;clear hb_;go_wp2_with fail;refine cm_ (N4.o _ mB.o) ?_;rintro e_ w15 ⟨rfl,hb_⟩;have mA:=bt_ mB hb_;replace F1:=hk_ F1 hb_;replace FP:=hk_ FP hb_;replace FC:=hk_ FC hb_;replace F5:=hk_ F5 hb_;replace F6:=hk_ F6 hb_;replace HR:=hd_ (HR.o.below hb_ nr_);clear mB;clear hb_;go_wp2_with fail;have mz:=hd_ (mA.o.alloc mA.o.size (.cells #[.string (itx q3.num),.string (dec q3.den),.string (itx q4.num),.string (dec q4.den)] 101));have FA:Hid ((w15.alloc (.cells #[.string (itx q3.num),.string (dec q3.den),.string (itx q4.num),.string (dec q4.den)] 101)).heap[w15.heap.size]?=some (.cells #[.string (itx q3.num),.string (dec q3.den),.string (itx q4.num),.string (dec q4.den)] 101 (0,0))):=heap_alloc_new w15 _;replace F1:=hd_ (Ki F1.o (.cells #[.string (itx q3.num),.string (dec q3.den),.string (itx q4.num),.string (dec q4.den)] 101));replace FP:=hd_ (Ki FP.o (.cells #[.string (itx q3.num),.string (dec q3.den),.string (itx q4.num),.string (dec q4.den)] 101));replace FC:=hd_ (Ki FC.o (.cells #[.string (itx q3.num),.string (dec q3.den),.string (itx q4.num),.string (dec q4.den)] 101));replace F5:=hd_ (Ki F5.o (.cells #[.string (itx q3.num),.string (dec q3.den),.string (itx q4.num),.string (dec q4.den)] 101));replace F6:=hd_ (Ki F6.o (.cells #[.string (itx q3.num),.string (dec q3.den),.string (itx q4.num),.string (dec q4.den)] 101));replace HR:=hd_ (HR.o.below ((Below.refl w15.heap.size w15).alloc nr_ (.cells #[.string (itx q3.num),.string (dec q3.den),.string (itx q4.num),.string (dec q4.den)] 101)) nr_);clear mA;generalize hg_:w15.heap.size=ga3 at *;generalize hw_:w15.alloc (.cells #[.string (itx q3.num),.string (dec q3.den),.string (itx q4.num),.string (dec q4.den)] 101)=w16 at *;clear hg_ hw_;refine cm_ (HC.o _ mz.o _ _ (Vw FP.o) (Vw FA.o)) ?_;rintro e_ w17 ⟨rfl,hb_⟩;have Je:=bt_ mz hb_;replace F1:=hk_ F1 hb_;replace FP:=hk_ FP hb_;replace FC:=hk_ FC hb_;replace F5:=hk_ F5 hb_;replace F6:=hk_ F6 hb_;replace FA:=hk_ FA hb_;replace HR:=hd_ (HR.o.below hb_ nr_);clear mz;clear hb_ HC FA N3 N4 FP;go_wp2_with fail;obtain⟨k0,k1,k2,-⟩:=Kf F1.o;obtain⟨k3,k4,k5,-⟩:=Kf FC.o;obtain⟨k6,k7,-,-⟩:=Ka F5.o;obtain⟨k8,k9,-,-⟩:=Ka F6.o;obtain⟨br,orr,rfl,hbr,Gg⟩:=HR.o.open (by decide);have kr:w17.cell? ⟨br,orr+5,none⟩=some (.string (dec 811)):=Gg 5 _ rfl;have q0:=NW.cell k0;have q1:=NW.cell k1;have q2:=NW.cell k2;have q3:=NW.cell k3;have q4:=NW.cell k4;have Nl:=NW.cell k5;have Nk:=NW.cell k6;have q7:=NW.cell k7;have q8:=NW.cell k8;have q9:=NW.cell k9;have qr:=NW.cell kr;have iA:(dec 811)=⟨#[56,49,49]⟩:=by
  have:(dec 811).data = #[56,49,49]:=by decide +kernel
  exact ByteArray.ext this
 have MG:b12=⟨#[49,50]⟩:=by
  rw[<- LJ.o];have:(dec 12).data = #[49,50]:=by decide +kernel
  exact ByteArray.ext this
 rw[iA] at qr;rw[MG] at q2;have gn:Nonempty (NW w17):=⟨⟨w17,Below.refl _ _⟩⟩;have I:Hid (Bw_ w17 w17.drew):=(Below.refl _ _).drew;clear k0 k1 k2 k3 k4 k5 k6 k7 k8 k9 kr Gg iA MG hbr HR F1 FC F5 F6;refine wn_ 57 [(2,0),(2,1),(2,2),(1,3),(2,4),(2,5),(2,6),(2,7),(2,8),(2,9),(2,10),(2,11),(2,12),(1,13),(2,14),(2,15),(2,16),(2,17),(1,18),(2,19),(2,20),(2,21),(2,22),(1,23),(2,24),(2,25),(2,26),(2,27),(2,28),(1,29),(2,30),(2,31),(1,32),(2,33),(2,34),(2,35),(2,36),(2,37),(2,38),(2,39),(1,40),(0,41),(2,42),(2,43),(2,44),(1,45),(0,46),(2,47),(2,48),(2,49),(2,50),(2,51),(2,52),(2,53),(2,54),(2,55),(2,56),(0,57)] I ?_;refine wa_ rfl ?_
 first | go_big_quiet_step (fail) | quiet_step (fail)
 refine wq_ ?_;refine wa_ rfl ?_
 first | go_big_quiet_step (fail) | quiet_step (fail)
 refine wq_ ?_;refine wa_ rfl ?_
 first | go_big_quiet_step (fail) | quiet_step (fail)
 refine wq_ ?_;refine wr_ rfl ?_
 first | go_big_quiet_step (fail) | quiet_step (fail)
 refine wq_ ?_;refine wa_ rfl ?_
 first | go_big_quiet_step (fail) | quiet_step (fail)
 refine wq_ ?_;refine wa_ rfl ?_;refine BigFrame.wpQuiet_want rfl fun K hK=>Zod _ _ _ 3 3 3 3 _ _ rfl rfl rfl (hK _ ?_)
 refine wq_ ?_;refine wa_ rfl ?_
 first | go_big_quiet_step (fail) | quiet_step (fail)
 refine wq_ ?_;refine wa_ rfl ?_
 first | go_big_quiet_step (fail) | quiet_step (fail)
 refine wq_ ?_;refine wa_ rfl ?_
 first | go_big_quiet_step (fail) | quiet_step (fail)
 refine wq_ ?_;refine wa_ rfl ?_
 first | go_big_quiet_step (fail) | quiet_step (fail)
 refine wq_ ?_;refine wa_ rfl ?_
 first | go_big_quiet_step (fail) | quiet_step (fail)
 refine wq_ ?_;refine wa_ rfl ?_
 first | go_big_quiet_step (fail) | quiet_step (fail)
 refine wq_ ?_;refine wa_ rfl ?_
 first | go_big_quiet_step (fail) | quiet_step (fail)
 refine wq_ ?_;refine wr_ rfl ?_
 first | go_big_quiet_step (fail) | quiet_step (fail)
 refine wq_ ?_;refine wa_ rfl ?_
 first | go_big_quiet_step (fail) | quiet_step (fail)
 refine wq_ ?_;refine wa_ rfl ?_
 first | go_big_quiet_step (fail) | quiet_step (fail)
 refine wq_ ?_;refine wa_ rfl ?_
 first | go_big_quiet_step (fail) | quiet_step (fail)
 refine wq_ ?_;refine wa_ rfl ?_
 first | go_big_quiet_step (fail) | quiet_step (fail)
 refine wq_ ?_;refine wr_ rfl ?_
 first | go_big_quiet_step (fail) | quiet_step (fail)
 refine wq_ ?_;refine wa_ rfl ?_
 first | go_big_quiet_step (fail) | quiet_step (fail)
 refine wq_ ?_;refine wa_ rfl ?_
 first | go_big_quiet_step (fail) | quiet_step (fail)
 refine wq_ ?_;refine wa_ rfl ?_
 first | go_big_quiet_step (fail) | quiet_step (fail)
 refine wq_ ?_;refine wa_ rfl ?_
 first | go_big_quiet_step (fail) | quiet_step (fail)
 refine wq_ ?_;refine wr_ rfl ?_
 first | go_big_quiet_step (fail) | quiet_step (fail)
 refine wq_ ?_;refine wa_ rfl ?_
 first | go_big_quiet_step (fail) | quiet_step (fail)
 refine wq_ ?_;refine wa_ rfl ?_
 first | go_big_quiet_step (fail) | quiet_step (fail)
 refine wq_ ?_;refine wa_ rfl ?_
 first | go_big_quiet_step (fail) | quiet_step (fail)
 refine wq_ ?_;refine wa_ rfl ?_
 first | go_big_quiet_step (fail) | quiet_step (fail)
 refine wq_ ?_;refine wa_ rfl ?_
 first | go_big_quiet_step (fail) | quiet_step (fail)
 refine wq_ ?_;refine wr_ rfl ?_
 first | go_big_quiet_step (fail) | quiet_step (fail)
 refine wq_ ?_;refine wa_ rfl ?_
 first | go_big_quiet_step (fail) | quiet_step (fail)
 refine wq_ ?_;refine wa_ rfl ?_
 first | go_big_quiet_step (fail) | quiet_step (fail)
 refine wq_ ?_;refine wr_ rfl ?_
 first | go_big_quiet_step (fail) | quiet_step (fail)
 refine wq_ ?_;refine wa_ rfl ?_
 first | go_big_quiet_step (fail) | quiet_step (fail)
 refine wq_ ?_;refine wa_ rfl ?_
 first | go_big_quiet_step (fail) | quiet_step (fail)
 refine wq_ ?_;refine wa_ rfl ?_
 first | go_big_quiet_step (fail) | quiet_step (fail)
 refine wq_ ?_;refine wa_ rfl ?_
 first | go_big_quiet_step (fail) | quiet_step (fail)
 refine wq_ ?_;refine wa_ rfl ?_
 first | go_big_quiet_step (fail) | quiet_step (fail)
 refine wq_ ?_;refine wa_ rfl ?_
 first | go_big_quiet_step (fail) | quiet_step (fail)
 refine wq_ ?_;refine wa_ rfl ?_
 first | go_big_quiet_step (fail) | quiet_step (fail)
 refine wq_ ?_;refine wr_ rfl ?_
 first | go_big_quiet_step (fail) | quiet_step (fail)
 refine wq_ ?_;refine wm_ rfl ?_;go_wp2_with fail;refine cm_ (N5.o _ (bu_ Je I.o)) ?_;rintro e_ y1 ⟨rfl,hb_⟩;have J1:Hid (Bw_ w17 y1):=I.o.trans (hb_.mono I.o.size);clear hb_ I;go_wp2_with fail;refine⟨⟨⟨_,J1.o⟩,rfl⟩,?_⟩;refine wa_ rfl ?_;refine BigFrame.wpQuiet_want rfl fun K hK=>Ze0 _ _ _ q5 q5 rfl rfl rfl (hK _ ?_)
 refine wq_ ?_;refine wa_ rfl ?_
 first | go_big_quiet_step (fail) | quiet_step (fail)
 refine wq_ ?_;refine wa_ rfl ?_
 first | go_big_quiet_step (fail) | quiet_step (fail)
 refine wq_ ?_;refine wr_ rfl ?_
 first | go_big_quiet_step (fail) | quiet_step (fail)
 refine wq_ ?_;clear gn q0 q1 q2 q3 q4 Nl Nk q7 q8 q9 qr;refine wm_ rfl ?_;go_wp2_with fail;refine cm_ (N6.o _ (bu_ Je J1.o)) ?_;rintro e_ y2 ⟨rfl,hb_⟩;have J2:Hid (Bw_ w17 y2):=J1.o.trans (hb_.mono J1.o.size);clear hb_ J1;go_wp2_with fail;refine⟨⟨⟨_,J2.o⟩,rfl⟩,?_⟩;refine wa_ rfl ?_;refine BigFrame.wpQuiet_want rfl fun K hK=>Ze0 _ _ _ q6 q6 rfl rfl rfl (hK _ ?_)
 refine wq_ ?_;refine wa_ rfl ?_
 first | go_big_quiet_step (fail) | quiet_step (fail)
 refine wq_ ?_;refine wa_ rfl ?_
 first | go_big_quiet_step (fail) | quiet_step (fail)
 refine wq_ ?_;refine wa_ rfl ?_
 first | go_big_quiet_step (fail) | quiet_step (fail)
 refine wq_ ?_;refine wa_ rfl ?_
 first | go_big_quiet_step (fail) | quiet_step (fail)
 refine wq_ ?_;refine wa_ rfl ?_
 first | go_big_quiet_step (fail) | quiet_step (fail)
 refine wq_ ?_;refine wa_ rfl ?_
 first | go_big_quiet_step (fail) | quiet_step (fail)
 refine wq_ ?_;refine wa_ rfl ?_
 first | go_big_quiet_step (fail) | quiet_step (fail)
 refine wq_ ?_;refine wa_ rfl ?_
 first | go_big_quiet_step (fail) | quiet_step (fail)
 refine wq_ ?_;refine wa_ rfl ?_
 first | go_big_quiet_step (fail) | quiet_step (fail)
 refine wq_ ?_;refine wm_ rfl ?_;go_wp2_with fail;simp only[RP.walkR];go_wp2_with fail;go_ret;exact⟨rfl,Je.o.trans (J2.o.mono Je.o.size)⟩
def okE (s:ByteArray):Prop:=s.size<=5\/(31<s.size/\s.size<=40)
instance (s:ByteArray):Decidable (okE s):=inferInstanceAs (Decidable (_\/_))
theorem Ztp(L:List (Int×Int×ByteArray))(k:Nat)(h:k<L.length):
  (Yb L)[k*3]?=some (.int .i64 L[k].1)/\(Yb L)[k*3+1]?=some (.int .i64 L[k].2.1)/\(Yb L)[k*3+2]?=some (.string L[k].2.2):=by
 induction L generalizing k with
 | nil=>exact absurd h (Nat.not_lt_zero _)
 | cons x l ih =>
  have e:Yb (x::l) = .int .i64 x.1 :: .int .i64 x.2.1 :: .string x.2.2::Yb l:=rfl;rw[e];cases k with
  | zero=>exact⟨rfl,rfl,rfl⟩
  | succ k =>
   obtain⟨h0,h1,h2⟩:=ih k (by simpa using h);refine⟨?_,?_,?_⟩
   ·rw[show (k+1)*3=k*3+3 by omega];exact h0
   ·rw[show (k+1)*3+1=k*3+1+3 by omega];exact h1
   ·rw[show (k+1)*3+2=k*3+2+3 by omega];exact h2
theorem Qex{w wr:World}{a:OA_}{L:List (Int×Int×ByteArray)}{B:Nat}(h:Rd w a (Yb L))(hb:Below B w wr)(hB:w.heap.size<=B)(k:Nat)(hk:k<L.length):
  ∃ b off,a=some ⟨b,off,none⟩/\wr.cell? ⟨b,off+k*3,none⟩=some (.int .i64 L[k].1)/\wr.cell? ⟨b,off+k*3+1,none⟩=some (.int .i64 L[k].2.1)/\wr.cell? ⟨b,off+k*3+2,none⟩=some (.string L[k].2.2):=by
 obtain⟨b,off,rfl,En,hcells⟩:=h.open (by rw[Zld];omega);obtain⟨x0,x1,x2⟩:=Ztp L k hk;have y0:=hcells _ _ x0;have y1:=hcells _ _ x1;have y2:=hcells _ _ x2;rw[<- hb.cell (p:=⟨b,off+k*3,none⟩) (Nat.lt_of_lt_of_le En hB)] at y0;rw[<- Nat.add_assoc,<- hb.cell (p:=⟨b,off+k*3+1,none⟩) (Nat.lt_of_lt_of_le En hB)] at y1;rw[<- Nat.add_assoc,<- hb.cell (p:=⟨b,off+k*3+2,none⟩) (Nat.lt_of_lt_of_le En hB)] at y2;exact⟨b,off,rfl,y0,y1,y2⟩
theorem Zm0{T:Nat->Bool}(h:T 1000=true):∃ n,Za8 T n:=by
 have gS:∀ k,k<=1000->T k=true->∃ n,Za8 T n:=by
  intro k
  induction k with
  | zero=>intro _ h;exact⟨0,h,.inl rfl,by decide⟩
  | succ k ih =>
   intro hk h;cases hT:T k
   ·exact⟨k+1,h,.inr (by simpa using hT),hk⟩
   ·exact ih (by omega) hT
 exact gS 1000 nr_ h
theorem Zpc(w:World)(a0 a1:OA_)(c0 c1:Nat)(ps:List Int)(l:List Rat)(rp:Rd w a0 (Vk ps))(rl:Rd w a1 (Kk l))(hi:Zlo ps)(hl:l.length=ps.length)(hn:ps.length<=100)(hs:∀ q∈l,Sm 30 q)
  (GG:Qz ps=0) (hnz:l.any nzQ=false) (L:Qe w) :
  Kc Tryz.prog 56 #[.slice a0 ps.length c0,.slice a1 ps.length c1] w (.tuple #[Ztx 0 0 none 0 0,.int .i64 0]):=by
 unfold Kc Ztx;have gl:=hd_ ((Below.refl w.heap.size w).alloc nr_ (.cells #[.int .i64 0,.int .i64 0,.slice none 0 0] 46));have ge:Hid ((w.alloc (.cells #[.int .i64 0,.int .i64 0,.slice none 0 0] 46)).heap[w.heap.size]?=some (.cells #[.int .i64 0,.int .i64 0,.slice none 0 0] 46 (0,0))):=heap_alloc_new w _;have HC:=hd_ (fun W (hW:Bw_ w W)=>Zge W a0 a1 c0 c1 ps l (rp.below hW nr_) (rl.below hW nr_) hi hl hn hs GG (L.below hW));have HZ:=hd_ (fun W (hW:Bw_ w W)=>Zq5 W a1 c1 l (rl.below hW nr_) (by omega));rw[hnz,hl] at HZ;clear rp rl hi hl hn hs GG hnz L;generalize ps.length=n1 at *;go_enter Tryz.func56,Tryz.ntmps56;go_wp2_with fail;generalize w.alloc (.cells #[.int .i64 0,.int .i64 0,.slice none 0 0] 46)=W0 at *;refine cm_ (HC.o _ gl.o) ?_;rintro e w1 ⟨rfl,hb⟩;have gm:Hid (w1.heap[w.heap.size]?=some (.cells #[.int .i64 0,.int .i64 0,.slice none 0 0] 46 (0,0))):=by
  show _=_
  rw[hb.block _ (Array.getElem?_eq_some_iff.1 ge.o).1];exact ge.o
 have gK:=bt_ gl hb;clear hb HC ge gl;go_wp2_with fail;refine cm_ (HZ.o _ gK.o) ?_;rintro e w2 ⟨rfl,hb⟩;obtain⟨k0,k1,k2,kf⟩:=Kf (hj_ gm hb);have ak:=bt_ gK hb;have f0:=kf 0;have f1:=kf 1;have f2:=kf 2;clear hb HZ kf gm gK;go_wp2;obtain⟨c0,c1,c2,hb3⟩:=Zbc (.int .i64 0) (.int .i64 0) (.slice none 0 0) k0 k1 k2 nr_ ak.o;generalize ((w2.setCell ⟨w.heap.size,0,none⟩ (.int .i64 0)).setCell ⟨w.heap.size,1,none⟩ (.int .i64 0)).setCell ⟨w.heap.size,2,none⟩ (.slice none 0 0)=w9 at *;exact bodyPost_ret (v := .tuple #[.agg #[.int .i64 0,.int .i64 0,.slice none 0 0],.int .i64 0]) (by simp[results,Tryz.results56,go_sem,c0,c1,c2]) rfl ⟨rfl,hb3⟩
def Qd5 (F:FuncId) (args:Array Value) (w:World) (sg n:Int) (BL:List (Int×Int×ByteArray)):Prop :=
 Calls Tryz.prog F args w fun e w'=>∃ a c,e = .returned (.tuple #[Ztx sg n a BL.length c,.int .i64 0])/\Rd w' a (Yb BL)/\Bw_ w w'
theorem Zg9(q:Rat):nzQ q=true↔q≠0:=by
 unfold nzQ;rw[bne_iff_ne];constructor
 ·intro h e;exact h (by rw[e];rfl)
 ·intro h e;exact h (Rat.num_eq_zero.1 (Int.sign_eq_zero_iff_zero.1 e))
theorem Qcm{w w9:World}{a p:OA_}{BL:List (Int×Int×ByteArray)}{g m c:Nat}{x y:Int}{t:TypeId}(h:Rd w a (Yb BL))(hob:w.heap[g]?=some (.cells #[.int .i64 x,.int .i64 y,.slice p m c] t (0,0)))
  (hh:∀ b,b≠g->w9.heap[b]?=w.heap[b]?) (Ge:w9.heap.size=w.heap.size):Rd w9 a (Yb BL):=by
 cases BL with
 | nil=>exact .inl rfl
 | cons z l =>
  rcases h with h|⟨b,off,rfl,hb,hc⟩
  ·cases h
  ·have h2:=hc 2 (.string z.2.2) rfl;have gj:b≠g:=by
    intro e;subst e;rw[cell_of_row w b (off+2) _ t (0,0) hob] at h2;rcases off with _|off
    ·cases h2
    ·rw[show off+1+2=off+3 by omega] at h2;simp at h2
   refine .inr ⟨b,off,rfl,by rw[Ge];exact hb,fun i v hi=>?_⟩;have h3:=hc i v hi;rw[<- h3];simp only[World.cell?,hh b gj]
theorem Zqq(w:World)(a0 a1 a2:OA_)(c0 c1 c2 n:Nat)(dl:List Rat)(sg m:Int)(BL:List (Int×Int×ByteArray))
  (hsub:∀ W,Bw_ w W->Calls Tryz.prog 16 #[.slice a0 n c0,.slice a1 n c1,.slice a2 n c2] W fun e w'=>∃ a c,e = .returned (.tuple #[.slice a n c,.int .i64 0])/\Rd w' a (Kk dl)/\Bw_ W w')
  (eI:∀ W a c,Bw_ w W->Rd W a (Kk dl)->Qd5 56 #[.slice a0 n c0,.slice a n c] W sg m BL) :
  Qd5 15 #[.slice a0 n c0,.slice a1 n c1,.slice a2 n c2] w sg m BL:=by
 unfold Qd5 Ztx at *
 have gl:=hd_ ((Below.refl w.heap.size w).alloc nr_ (.cells #[.int .i64 0,.int .i64 0,.slice none 0 0] 46));have ge:Hid ((w.alloc (.cells #[.int .i64 0,.int .i64 0,.slice none 0 0] 46)).heap[w.heap.size]?=some (.cells #[.int .i64 0,.int .i64 0,.slice none 0 0] 46 (0,0))):=heap_alloc_new w _;have HS:=hd_ (hsub _ gl.o);have HD:=hd_ eI;clear hsub eI;obtain⟨bn,jG⟩:∃ bn,BL.length=bn:=⟨_,rfl⟩;rw[jG] at HD ⊢;have PG:=hd_ jG;clear jG;go_enter Tryz.func15,Tryz.ntmps15;go_wp2_with fail;generalize w.alloc (.cells #[.int .i64 0,.int .i64 0,.slice none 0 0] 46)=W0 at *;refine cm_ HS.o ?_;rintro e w1 ⟨a,c,rfl,hr,hb⟩;have gm:=hk_ ge hb;have gK:=bt_ gl hb;have Hr:=hd_ hr;clear hb HS ge gl hr;go_wp2_with fail;refine cm_ (HD.o _ _ _ gK.o Hr.o) ?_;rintro e w2 ⟨b,d,rfl,hr,hb⟩;have gR:=Zg gm.o hb nr_;obtain⟨k0,k1,k2,kf⟩:=Kf gR;have ak:=bt_ gK hb;have f0:=kf 0;have f1:=kf 1;have f2:=kf 2;have HR:Hid (Rd (((w2.setCell ⟨w.heap.size,0,none⟩ (.int .i64 sg)).setCell ⟨w.heap.size,1,none⟩ (.int .i64 m)).setCell ⟨w.heap.size,2,none⟩ (.slice b bn d)) b (Yb BL)) :=
  Qcm hr gR (fun x hx=>by
   rw[Below.heap_setCell _ _ _ _ hx,Below.heap_setCell _ _ _ _ hx,Below.heap_setCell _ _ _ _ hx]) (by simp[World.setCell])
 clear hb HD kf gm gK Hr hr gR;go_wp2;obtain⟨c0,c1,c2,hb3⟩:=Zbc (.int .i64 sg) (.int .i64 m) (.slice b bn d) k0 k1 k2 nr_ ak.o;generalize ((w2.setCell ⟨w.heap.size,0,none⟩ (.int .i64 sg)).setCell ⟨w.heap.size,1,none⟩ (.int .i64 m)).setCell ⟨w.heap.size,2,none⟩ (.slice b bn d)=w9 at *;exact bodyPost_ret (v := .tuple #[.agg #[.int .i64 sg,.int .i64 m,.slice b bn d],.int .i64 0]) (by simp[results,Tryz.results15,go_sem,c0,c1,c2]) rfl ⟨b,d,rfl,HR.o,hb3⟩
def nI (l:List Nat):List Int:=l.map fun x:Nat=>(x:Int)
theorem Zvs(l m:List Nat):nI (l++m)=nI l++nI m:=List.map_append
theorem Qa0.cap2{w:World}{B c:Nat}{a:OA_}{l:List Int}(h:Qa0 w B a c l):l.length<=c:=by
 rcases h.2 with⟨h1,h0⟩|⟨g,cap,cur,h1,h2,h3,h4,h5⟩
 ·rw[h0];exact Nat.zero_le _
 ·simp only[Value.slice.injEq] at h1;obtain⟨-,-,rfl⟩:=h1;exact h4
end Go.Proofs.YtbielfplgbammaaGreatDoor
