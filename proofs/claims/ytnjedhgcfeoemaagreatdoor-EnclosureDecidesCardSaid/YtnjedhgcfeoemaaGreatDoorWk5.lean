/- Lemmas for the laws of this seat, part 5. -/
import Derived.Test.YtnjedhgcfeoemaaGreatDoorWk4
set_option maxRecDepth 100000
set_option maxHeartbeats 16000000
namespace Go.Proofs.YtnjedhgcfeoemaaGreatDoor
open Go.RowKit
theorem Za6.reverse{l:List UInt8}(h:Za6 l):Za6 l.reverse:=fun c hc=>h c (List.mem_reverse.1 hc)
structure JAt (w:World) (n:Nat) (T:List UInt8) (wr:World):Prop where
 row:∃ D,Zrq wr w.heap.size 5 D∧D.length=9*n+1∧(D.getD 0 0).toNat=48∧D.drop (9*n+1-T.length)=T
 bel:Below w.heap.size w wr
theorem JAt.set{w wr:World}{n:Nat}{T:List UInt8}(h:JAt w n T wr)(m x:Nat)(hm:m+T.length=9*n)(dQ:0<m)(hx:x<256):JAt w n (UInt8.ofNat x::T) (wr.setCell ⟨w.heap.size,m,none⟩ (.int .u8 (x:Nat))):=by
 obtain⟨D,h1,h2,h3,h4⟩:=h.row;refine⟨⟨D.set m (UInt8.ofNat x),h1.set m x hx,by rw[List.length_set];exact h2,?_,?_⟩,h.bel.setCell nr_ _⟩
 ·rw[List.getD_eq_getElem?_getD,List.getElem?_set_ne (by omega),← List.getD_eq_getElem?_getD];exact h3
 ·have e:9*n+1-(UInt8.ofNat x::T).length=m:=by simp;omega
  rw[e,List.drop_eq_getElem_cons (by simp;omega),List.getElem_set_self,List.drop_set,if_pos (by omega)]
  congr 1;rw[← h4];congr 1;omega
theorem JAt.cell{w wr:World}{n:Nat}{T:List UInt8}(h:JAt w n T wr)(m:Nat)(hm:m≤9*n):(∃ x:Nat,wr.cell? ⟨w.heap.size,m,none⟩=some (.int .u8 x))∧wr.frozen? ⟨w.heap.size,m,none⟩=false:=by
 obtain⟨D,h1,h2,_,_⟩:=h.row;exact⟨⟨_,h1.cell (by omega)⟩,h1.frozen m⟩
theorem JAt.done{w wr:World}{n:Nat}{T:List UInt8}(h:JAt w n T wr)(hT:T.length=9*n)(hd:Za6 T):∃ D,Zrq wr w.heap.size 5 D∧D.length=9*n+1∧Za6 D∧Qu D=Qu T:=by
 obtain⟨D,h1,h2,h3,h4⟩:=h.row;have e:9*n+1-T.length=1:=by omega
 rw[e] at h4
 match D,h2,h3,h4 with
 | c::D,h2,h3,h4 =>
  obtain rfl:D=T:=by simpa using h4
  have hc:c.toNat=48:=by simpa using h3
  refine⟨_,h1,h2,fun y hy=>?_,?_⟩
  ·rcases List.mem_cons.1 hy with rfl | hy
   ·omega
   ·exact hd y hy
  ·rw[Zaf,hc];simp
end Go.Proofs.YtnjedhgcfeoemaaGreatDoor

namespace Go.Proofs.YtnjedhgcfeoemaaGreatDoor.LN
def upP:List Int→List Int→Nat
 | p::ps,k::ks=>p.toNat^k.toNat*upP ps ks
 | _,_=>1
theorem upP_snoc:∀ (ps ks:List Int) (p k:Int),ps.length=ks.length→upP (ps++[p]) (ks++[k])=upP ps ks*p.toNat^k.toNat
 | [],[],p,k,_=>by simp[upP]
 | q::ps,m::ks,p,k,h=>by
  have ih:=upP_snoc ps ks p k (by simpa using h)
  simp only[List.cons_append,upP];rw[ih,Nat.mul_assoc]
theorem upP_le(K:Nat):∀ (ps ks:List Int),(∀ p∈ps,2≤p∧p≤97)→(∀ k∈ks,k≤(K:Int))→upP ps ks<10^(2*K*ps.length+1)
 | [],_,_,_=>by simp[upP]
 | _::_,[],_,_=>by
  simp only[upP];exact Nat.one_lt_pow (by omega) (by decide)
 | p::ps,k::ks,h,h2=>by
  have ih:=upP_le K ps ks (fun q hq=>h q (List.mem_cons_of_mem _ hq)) fun q hq=>h2 q (List.mem_cons_of_mem _ hq)
  obtain⟨a,b⟩:=h p List.mem_cons_self;have hk:=h2 k List.mem_cons_self;simp only[upP];have h3:p.toNat^k.toNat≤100^k.toNat:=Nat.pow_le_pow_left (by omega) _
  have h4:100^k.toNat≤100^K:=Nat.pow_le_pow_right (by decide) (by omega)
  have h5:(100:Nat)^K=10^(2*K):=by rw[show (100:Nat)=10^2 from rfl,← Nat.pow_mul]
  rw[h5] at h4;have e:10^(2*K*(p::ps).length+1)=10^(2*K)*10^(2*K*ps.length+1):=by rw[← Nat.pow_add];congr 1;rw[List.length_cons,Nat.mul_add];omega
  rw[e];exact Nat.mul_lt_mul_of_le_of_lt (Nat.le_trans h3 h4) ih (Nat.pow_pos (by decide))
end Go.Proofs.YtnjedhgcfeoemaaGreatDoor.LN

namespace Go.Proofs.YtnjedhgcfeoemaaGreatDoor
open Go.RowKit
structure Qby (ps ks:List Int) (k u d:Nat):Prop where
 up:u=LN.upP (ps.take k) (ks.take k)
 dn:d=LN.upP (ps.take k) ((ks.map fun z => -z).take k)
 le:∀ z∈ks.take k,z≤500 ∧ -500≤z
theorem Zcq{α:Type}(l:List α)(k:Nat)(h:k<l.length):l.take (k+1)=l.take k++[l[k]]:=List.take_succ_eq_append_getElem h
theorem Qby.next{ps ks:List Int}{k u d:Nat}(h:Qby ps ks k u d)(h1:k<ps.length)(hk:k<ks.length)(hz:ks[k]≤500 ∧ -500≤ks[k]):
  Qby ps ks (k+1) (u*ps[k].toNat^ks[k].toNat) (d*ps[k].toNat^(-ks[k]).toNat):=by
 refine⟨?_,?_,?_⟩
 ·rw[Zcq ps k h1,Zcq ks k hk,LN.upP_snoc _ _ _ _ (by simp;omega),← h.up]
 ·have eJ:k<(ks.map fun z => -z).length:=by simpa using hk
  rw[Zcq ps k h1,Zcq _ k eJ,LN.upP_snoc _ _ _ _ (by simp;omega),← h.dn,List.getElem_map]
 ·intro z Fs;rw[Zcq ks k hk] at Fs;rcases List.mem_append.1 Fs with h3|h3
  ·exact h.le z h3
  ·obtain rfl:=List.mem_singleton.1 h3;exact hz
theorem Qby.num{ps ks:List Int}{k u d:Nat}(h:Qby ps ks k u d)(hp:∀ p∈ps,2≤p∧p≤97)(hn:ps.length≤100):Num u∧Num d:=by
 have hl:(ps.take k).length≤100:=by simp;omega
 have hb:2*500*(ps.take k).length+1≤1000000:=by omega
 have jC:∀ p∈ps.take k,2≤p∧p≤97:=fun p DS=>hp p (List.mem_of_mem_take DS)
 refine⟨?_,?_⟩
 ·rw[h.up];exact Kw (LN.upP_le 500 _ _ jC fun z hz=>by have:=h.le z hz;omega) (by omega) hb
 ·rw[h.dn];refine Kw (LN.upP_le 500 _ _ jC fun z hz=>?_) (by omega) hb
  rw[← List.map_take] at hz;obtain⟨y,hy,rfl⟩:=List.mem_map.1 hz;have:=h.le y hy
  omega
end Go.Proofs.YtnjedhgcfeoemaaGreatDoor

namespace Go.Proofs.YtnjedhgcfeoemaaGreatDoor
open Go.RowKit Go.Proofs.YtnjedhgcfeoemaaGreatDoor.RP
theorem Zxs(w:World)(ps:List Int)(a0 a1:Option Addr)(c0 c1:Nat)(la:List Rat)(A:Zs w ps a0 a1 la 30)(hp:Vo ps=0)(g:Zke ps la)(L:Qd w):
  Kc Tryz.prog 34 #[.slice a0 ps.length c0,.slice a1 ps.length c1] w (.tuple #[.int .i64 (LN.sz ps la),.int .i64 0]):=by
 unfold Kc;have hn:=A.n;have Hc:Hid (Kc Tryz.prog 22 #[.slice a0 ps.length c0,.slice a1 ps.length c1] w (.int .i64 0)):=by
  have:=Zds w a0 a1 c0 c1 ps (la.map qs) A.rp A.i64 (by omega) A.rl (by rw[List.length_map,A.len];omega) (Zoq A.sm) L
  rw[List.length_map,A.len] at this;unfold Zrl at this;rw[if_pos hp,Zdu A.sm A.len] at this;exact this
 have Ht:Hid (∀ W,Below w.heap.size w W→Calls Tryz.prog 100 #[.slice a0 ps.length c0,.slice a1 ps.length c1] W fun e w'=>∃ b1 d1 b2 d2,e = .returned (.agg (Kr b1 d1 b2 d2 (tlQ ps la).length (Qc la)))∧Vq w' (tlQ ps la) b1 b2∧Below W.heap.size W w'):=fun W hW=>by
  have:=Zfs (c0:=c0) (c:=c1) (A.below hW) (L.below hW)
  rw[A.len] at this;exact this
 have Hs:Hid (∀ W b1 b2 d1 d2,Vq W (tlQ ps la) b1 b2→Below w.heap.size w W→Kc Tryz.prog 101 #[.agg (Kr b1 d1 b2 d2 (tlQ ps la).length (Qc la))] W (.int .i64 (LN.sz ps la))):=fun W b1 b2 d1 d2 T hW =>
  Zvp W b1 b2 d1 d2 _ 101 _ T g.trt (by decide) g.lt (g.dec hn) (L.below hW)
 clear A hp g L hn;generalize LN.sz ps la=r at *
 generalize ps.length=n at *
 go_enter Tryz.func34,Tryz.ntmps34
 go_wp2_with fail
 refine cm_ Hc.out ?_;rintro e w1 ⟨rfl,hb⟩;have B1:=hd_ hb;clear hb Hc
 go_wp2_with fail
 refine cm_ (Ht.out _ B1.out) ?_;rintro e w2 ⟨b1,d1,b2,d2,rfl,T,hb⟩;have B2:=hd_ (B1.out.trans (hb.mono B1.out.size));have CZ:=hd_ (Hs.out w2 b1 b2 d1 d2 T B2.out);clear hb Ht T Hs
 go_wp2_with fail
 refine cm_ CZ.out ?_;rintro e w3 ⟨rfl,hb⟩;have B3:=hd_ (B2.out.trans (hb.mono B2.out.size));clear hb CZ
 go_wp2_with fail
 go_ret2
 exact⟨rfl,B3.out⟩
end Go.Proofs.YtnjedhgcfeoemaaGreatDoor

namespace Go.Proofs.YtnjedhgcfeoemaaGreatDoor
open Go.RowKit
end Go.Proofs.YtnjedhgcfeoemaaGreatDoor

namespace Go.Proofs.YtnjedhgcfeoemaaGreatDoor
open Go.ChangeShapes Go.WideShapes Go.ChangeAt Go.RowKit Go.Joins
section
variable {H:Type} {enc:TypeId×Value→H} {W:World}
end
end Go.Proofs.YtnjedhgcfeoemaaGreatDoor

namespace Go.Proofs.YtnjedhgcfeoemaaGreatDoor
open Go.RowKit
theorem Zs6{w:World}{B1 B2 s1 s2 n1 n2:Nat}{e1 e2:TypeId}{v1 v2:Value}{x1 x2:List Value}(h1:w.ownsRow B1 e1 s1 v1 n1 x1)(h2:w.ownsRow B2 e2 s2 v2 n2 x2)(gq:e1≠e2):
  ∀ k,v1.ownBlock=some k→v2.ownBlock≠some k:=by
 intro k hk eJ;rcases h1.2 with⟨rfl,_⟩|⟨g,cap,cur,rfl,_,hg,_⟩
 ·simp[Value.ownBlock] at hk
 ·rcases h2.2 with⟨rfl,_⟩ | ⟨g2,cap2,cur2,rfl,_,fO,_⟩
  ·simp[Value.ownBlock] at eJ
  ·simp only[Value.ownBlock,Option.some.injEq] at hk eJ;subst hk;subst eJ;rw[hg] at fO;simp only[Option.some.injEq,Obj.cells.injEq] at fO;exact gq fO.2.1
structure Qac (w:World) (B:Nat) (b:Option Addr) (d:Nat) (n:Nat) (L:List (Option Addr×Nat)) (ls:List (List Rat)):Prop where
 len:L.length=ls.length
 row:w.ownsRow B 38 1 (.slice b L.length d) L.length (L.map fun x => .slice x.1 n x.2)
 each:∀ i (h1:i<L.length) (h2:i<ls.length),Zc7 w B L[i].1 L[i].2 ls[i]
 lens:∀ l∈ls,l.length=n
theorem Qac.below{w w':World}{B d n:Nat}{b:Option Addr}{L:List (Option Addr×Nat)}{ls:List (List Rat)}(h:Qac w B b d n L ls)(hb:Below w.heap.size w w'):Qac w' B b d n L ls :=
 ⟨h.len,Vw h.row hb nr_,fun i h1 h2=>(h.each i h1 h2).below hb nr_,h.lens⟩
end Go.Proofs.YtnjedhgcfeoemaaGreatDoor

namespace Go.Proofs.YtnjedhgcfeoemaaGreatDoor
open Go.RowKit Go.Proofs.YtnjedhgcfeoemaaGreatDoor.RP
theorem Qac.put{w1 w3:World}{B d n c:Nat}{b a:Option Addr}{L:List (Option Addr×Nat)}{ls:List (List Rat)}{l:List Rat}{v':Value}(h:Qac w1 B b d n L ls)(ho:Zc7 w1 B a c l)(hl:l.length=n)
  (gu:w3.ownsRow B 38 1 v' (L.length+1) ((L.map fun x=>Value.slice x.1 n x.2)++[.slice a n c])) (hg:(w1.alloc (.cells #[.slice a n c] 38)).grownBy w3 (Value.slice b L.length d).ownBlock) :
  ∃ b' d',v' = .slice b' (L.length+1) d'∧Qac w3 B b' d' n (L++[(a,c)]) (ls++[l]):=by
 obtain⟨b',d',rfl⟩:=Qk gu;have hA:Below w1.heap.size w1 (w1.alloc (.cells #[.slice a n c] 38)):=(Below.refl _ _).alloc nr_ _;have gH:=Vw h.row hA nr_;have GF:∀ (a2:Option Addr) (c2:Nat) (l2:List Rat),Zc7 w1 B a2 c2 l2→Zc7 w3 B a2 c2 l2:=fun a2 c2 l2 h2=>by
  have h3:=Zoy (h2.below hA nr_);refine Zox (World.ownsRow.kept h3 hg ?_);have cD:=Zs6 gH h3 (by decide)
  cases hv:(Value.slice b L.length d).ownBlock with
  | none=>cases hv2:(Value.slice a2 l2.length c2).ownBlock<;>simp
  | some k=>exact .inr (cD k hv)
 refine⟨b',d',rfl,?_,?_,?_,?_⟩
 ·simp[h.len]
 ·rw[List.length_append,List.map_append];exact gu
 ·intro i h1 h2
  by_cases hi:i<L.length
  ·have bu:i<ls.length:=by rw[← h.len];exact hi
   rw[List.getElem_append_left bu];simp only[List.getElem_append_left hi];exact GF _ _ _ (h.each i hi bu)
  ·have e:i=L.length:=by simp at h1;omega
   subst e;rw[List.getElem_append_right (by rw[h.len];exact Nat.le_refl _)]
   simp only[List.getElem_append_right nr_,h.len,Nat.sub_self,List.getElem_cons_zero];exact GF _ _ _ ho
 ·intro m hm;rcases List.mem_append.1 hm with hm|hm
  ·exact h.lens m hm
  ·rw[List.mem_singleton.1 hm];exact hl
end Go.Proofs.YtnjedhgcfeoemaaGreatDoor

namespace Go.Proofs.YtnjedhgcfeoemaaGreatDoor
open Go.RowKit
end Go.Proofs.YtnjedhgcfeoemaaGreatDoor

namespace Go.Proofs.YtnjedhgcfeoemaaGreatDoor
open Go.RowKit
def Zrr {α:Type} (pf : α→Bool):List α→Nat→Int
 | [],_ => -1
 | x::l,k=>if pf x=true then (k:Int) else Zrr pf l (k+1)
theorem Zpa{α:Type}(pf : α→Bool):∀ (l:List α) (k:Nat),decide (0≤Zrr pf l k)=l.any pf
 | [],_=>by simp[Zrr]
 | x::l,k=>by
  unfold Zrr;rw[List.any_cons]
  by_cases h:pf x=true
  ·rw[if_pos h,h];simp
  ·rw[if_neg h,Zpa pf l (k+1)];simp only[Bool.not_eq_true] at h;rw[h,Bool.false_or]
theorem Zjt {f : FuncId} {fn : Func} {c : Code} (hf : Tryz.prog.funcs[f]? = some fn) (hname : (fn.name == "runtime.NumGoroutine") = false) (hb : fn.body = some c) : ∀ args w, (callFunc f args).run Tryz.prog w = .ok (.enter f args) w := enters_of hf hname hb
def sgE (lo hi:Rat):Int:=if 0≤lo.num.sign then 1 else if hi.num.sign≤0 then -1 else 0
theorem Zej(q:Rat):0≤q.num.sign↔0≤q:=by
 rw[← Rat.num_nonneg];rcases Int.lt_trichotomy q.num 0 with h|h|h
 ·rw[Int.sign_eq_neg_one_of_neg h];omega
 ·rw[h];decide
 ·rw[Int.sign_eq_one_of_pos h];omega
theorem Zh8(q:Rat):q.num.sign≤0↔q≤0:=by
 have h1:q≤0↔q.num≤0:=by
  have:=Zej (-q)
  rw[Rat.neg_num,Int.sign_neg] at this;constructor
  ·intro h;have h2:0 ≤ -q:=by grind
   have h3:=Rat.num_nonneg.2 h2;rw[Rat.neg_num] at h3;omega
  ·intro h;have h2:0≤(-q).num:=by rw[Rat.neg_num];omega
   have h3:=Rat.num_nonneg.1 h2
   grind
 rw[h1];rcases Int.lt_trichotomy q.num 0 with h|h|h
 ·rw[Int.sign_eq_neg_one_of_neg h];omega
 ·rw[h];decide
 ·rw[Int.sign_eq_one_of_pos h];omega
theorem Zi6(n:Nat)(ps:List Int)(l:List Rat):sgE (loE n ps l) (hiE n ps l)=Zai n ps l:=by
 unfold sgE Zai
 by_cases h1:0≤loE n ps l
 ·rw[if_pos ((Zej _).2 h1),if_pos h1]
 ·rw[if_neg fun h=>h1 ((Zej _).1 h),if_neg h1]
  by_cases h2:hiE n ps l≤0
  ·rw[if_pos ((Zh8 _).2 h2),if_pos h2]
  ·rw[if_neg fun h=>h2 ((Zh8 _).1 h),if_neg h2]
theorem Zjs(w:World)(a b:Rat):Kc Tryz.prog 88 #[fr a,fr b] w (.int .i64 (sgE a b)):=by
 have H3:=hd_ (Zvb.mk' w (itx a.num) (dec a.den) (itx b.num) (dec b.den));have Ha:=hd_ (fun W=>Zi5 W a)
 have Hb:=hd_ (fun W=>Zi5 W b)
 have Hv:Hid (sgE a b=if 0≤a.num.sign then 1 else if b.num.sign≤0 then -1 else 0):=rfl
 generalize sgE a b=v at *
 unfold Kc;unfold fr fv at Ha Hb ⊢;generalize a.num.sign=sa at *
 generalize b.num.sign=sb at *
 by_cases h1:0≤sa
 ·have FJ:Hid (v=1):=by show _=_;rw[Hv.out,if_pos h1]
  clear Hv Hb;go_enter Tryz.func88,Tryz.ntmps88;obtain⟨k0,k1,-,-⟩:=Ka H3.out.fa
  go_wp2_with fail
  generalize (w.alloc (.cells #[.string (itx a.num),.string (dec a.den)] 42)).alloc (.cells #[.string (itx b.num),.string (dec b.den)] 42)=W0 at *
  clear k0 k1;refine cm_ (Ha.out _) ?_;rintro e w1 ⟨rfl,hZ⟩;have B1:=hd_ (H3.out.bel.trans (hZ.mono H3.out.bel.size));clear hZ Ha
  go_wp2_with fail
  go_ret;exact⟨by rw[FJ.out];rfl,B1.out⟩
 ·by_cases h2:sb≤0
  ·have FJ:Hid (v = -1):=by show _=_;rw[Hv.out,if_neg h1,if_pos h2]
   clear Hv;go_enter Tryz.func88,Tryz.ntmps88;obtain⟨k0,k1,-,-⟩:=Ka H3.out.fa
   go_wp2_with fail
   generalize (w.alloc (.cells #[.string (itx a.num),.string (dec a.den)] 42)).alloc (.cells #[.string (itx b.num),.string (dec b.den)] 42)=W0 at *
   clear k0 k1;refine cm_ (Ha.out _) ?_;rintro e w1 ⟨rfl,hZ⟩;have H4:=hd_ (H3.out.next hZ);clear hZ Ha H3;obtain⟨k2,k3,-,-⟩:=Ka H4.out.fb
   go_wp2_with fail
   clear k2 k3;refine cm_ (Hb.out _) ?_;rintro e w2 ⟨rfl,hZ⟩;have B1:=hd_ (H4.out.bel.trans (hZ.mono H4.out.bel.size));clear hZ Hb
   go_wp2_with fail
   go_ret;exact⟨by rw[FJ.out];rfl,B1.out⟩
  ·have FJ:Hid (v=0):=by show _=_;rw[Hv.out,if_neg h1,if_neg h2]
   clear Hv;go_enter Tryz.func88,Tryz.ntmps88;obtain⟨k0,k1,-,-⟩:=Ka H3.out.fa
   go_wp2_with fail
   generalize (w.alloc (.cells #[.string (itx a.num),.string (dec a.den)] 42)).alloc (.cells #[.string (itx b.num),.string (dec b.den)] 42)=W0 at *
   clear k0 k1;refine cm_ (Ha.out _) ?_;rintro e w1 ⟨rfl,hZ⟩;have H4:=hd_ (H3.out.next hZ);clear hZ Ha H3;obtain⟨k2,k3,-,-⟩:=Ka H4.out.fb
   go_wp2_with fail
   clear k2 k3;refine cm_ (Hb.out _) ?_;rintro e w2 ⟨rfl,hZ⟩;have B1:=hd_ (H4.out.bel.trans (hZ.mono H4.out.bel.size));clear hZ Hb
   go_wp2_with fail
   go_ret;exact⟨by rw[FJ.out];rfl,B1.out⟩
theorem Zwr(w:World)(a:Option Addr)(c:Nat)(l:List Rat)(hr:Rd w a (Kt l))(hl:l.length≤1000000)(f:FuncId)(lb:Array Value)(eg:∀ args w,(callFunc f args).run Tryz.prog w = .ok (.enter f args) w)(pf:Rat→Bool)
  (Ec:∀ W,Below w.heap.size w W→∀ x∈l,Kc Tryz.prog f (#[fr x]++lb) W (.bool (pf x))) :
  Kc Tryz.prog 207 #[.slice a l.length c,.func (.func f) #[] lb] w (.int .i64 (Zrr pf l 0)):=by
 unfold Kc;have Hr:=hd_ hr;have aR:=hd_ Ec;clear hr Ec;generalize hm:l.length=m at *
 have Hm:=hd_ hm;clear hm;generalize hv:Zrr pf l 0=v at *
 have Fp:Hid (v=Zrr pf l 0):=hv.symm;clear hv;go_enter Tryz.func207,Tryz.ntmps207
 go_wp2_with fail
 go_loopw [8] (fun i wr=>∃ k:Nat,k≤m∧i = .int .i64 k∧Hid (v=Zrr pf (l.drop k) k)∧Hid (Below w.heap.size w wr)) (fun i _=>m-(intOf i).toNat)
 case atStart=>exact⟨0,Nat.zero_le _,rfl,Fp,Below.refl _ _⟩
 case round =>
  clear Fp;obtain⟨k,hk,rfl,Hx,B⟩:=hrel
  by_cases H9:k<m
  ·have gm:(k:Int)<m:=by omega
   have fW:k<l.length:=by rw[Hm.out];exact H9
   obtain⟨b,off,rfl,hb,hcells⟩:=Hr.out.open (by rw[Kz];omega)
   obtain⟨x0,x1⟩:=Qm hcells k (by rw[List.length_map];exact fW)
   rw[Qw l k fW] at x0 x1;rw[← B.out.cell (p:=⟨b,off+k*2,none⟩) hb] at x0;rw[← B.out.cell (p:=⟨b,off+k*2+1,none⟩) hb] at x1;have Hd:Hid (l.drop k=l[k]::l.drop (k+1)):=List.drop_eq_getElem_cons fW;have Hc:=hd_ (aR.out wr B.out l[k] (List.getElem_mem fW));unfold fr fv at Hc;unfold qs at x0 x1;simp only at x0 x1;clear hcells;generalize l[k]=x at *
   cases hf:pf x with
   | false =>
    have Hn:Hid (v=Zrr pf (l.drop (k+1)) (k+1)):=by show _=_;rw[Hx.out,Hd.out,Zrr,if_neg (by rw[hf];decide)]
    rw[hf] at Hc
    go_wp2_with fail
    refine cm_ Hc.out ?_;rintro e w1 ⟨rfl,hZ⟩;have B1:=hd_ (B.out.trans (hZ.mono B.out.size));clear hZ Hc B x0 x1
    go_wp2_with fail
    go_roundw
    case rel=>exact⟨k+1,by omega,by go_num,Hn,B1⟩
    case measure=>simp[intOf];omega
   | true =>
    have Hn:Hid (v=k):=by show _=_;rw[Hx.out,Hd.out,Zrr,if_pos hf]
    rw[hf] at Hc
    go_wp2_with fail
    refine cm_ Hc.out ?_;rintro e w1 ⟨rfl,hZ⟩;have B1:=hd_ (B.out.trans (hZ.mono B.out.size));clear hZ Hc B x0 x1
    go_wp2_with fail
    go_ret;exact⟨by rw[Hn.out];rfl,B1.out⟩
  ·have gm:¬ (k:Int)<m:=by omega
   have Hn:Hid (v = -1):=by show _=_;rw[Hx.out,List.drop_of_length_le (by rw[Hm.out];omega)];rfl
   go_wp2_with fail
   go_ret;exact⟨by rw[Hn.out];rfl,B.out⟩
theorem Zxd(w:World)(a:Option Addr)(c:Nat)(l:List Rat)(hr:Rd w a (Kt l))(hl:l.length≤1000000)(f:FuncId)(lb:Array Value)(eg:∀ args w,(callFunc f args).run Tryz.prog w = .ok (.enter f args) w)(pf:Rat→Bool)
  (Ec:∀ W,Below w.heap.size w W→∀ x∈l,Kc Tryz.prog f (#[fr x]++lb) W (.bool (pf x))) :
  Kc Tryz.prog 161 #[.slice a l.length c,.func (.func f) #[] lb] w (.bool (l.any pf)):=by
 unfold Kc;have Hc:=hd_ (Zwr w a c l hr hl f lb eg pf Ec);have Hv:=hd_ (Zpa pf l 0);unfold Kc at Hc;clear hr Ec;generalize l.length=m at *
 generalize Zrr pf l 0=v at *
 generalize l.any pf=z at *
 go_enter Tryz.func161,Tryz.ntmps161
 go_wp2_with fail
 refine cm_ Hc.out ?_;rintro e w1 ⟨rfl,hZ⟩;have B1:=hd_ hZ;clear hZ Hc
 go_wp2_with fail
 go_ret;exact⟨by rw[← Hv.out];rfl,B1.out⟩
def nzQ (q:Rat):Bool:=q.num.sign != 0
theorem Zvd(w:World)(q:Rat):Kc Tryz.prog 162 #[fr q] w (.bool (nzQ q)):=by
 unfold Kc;have gj:=hd_ ((Below.refl w.heap.size w).alloc nr_ (.cells #[.string (itx q.num),.string (dec q.den)] 42));have Hs:=hd_ (fun W=>Zi5 W q)
 have Hv:Hid (nzQ q=(q.num.sign != 0)):=rfl;have F:=Zah.new w q;generalize nzQ q=v at *
 unfold fr fv at Hs ⊢;generalize q.num.sign=s at *
 go_enter Tryz.func162,Tryz.ntmps162;obtain⟨k0,k1,-,-⟩:=Ka F;clear F
 go_wp2_with fail
 generalize w.alloc (.cells #[.string (itx q.num),.string (dec q.den)] 42)=W0 at *
 clear k0 k1;refine cm_ (Hs.out _) ?_;rintro e w1 ⟨rfl,hZ⟩;have B1:=hd_ (gj.out.trans (hZ.mono gj.out.size));clear hZ Hs
 go_wp2_with fail
 go_ret;exact⟨by rw[Hv.out];rfl,B1.out⟩
theorem Zjr(w:World)(a:Option Addr)(c:Nat)(l:List Rat)(hr:Rd w a (Kt l))(hl:l.length≤1000000):
  Kc Tryz.prog 85 #[.slice a l.length c] w (.bool (!l.any nzQ)):=by
 unfold Kc;have Hc:=hd_ (Zxd w a c l hr hl 162 #[] (Zjt Tryz.func162 (by kernel_rfl) rfl) nzQ fun W _ x _=>Zvd W x)
 unfold Kc at Hc;clear hr hl;generalize l.length=m at *
 generalize l.any nzQ=z at *
 go_enter Tryz.func85,Tryz.ntmps85
 go_wp2_with fail
 refine cm_ Hc.out ?_;rintro e w1 ⟨rfl,hZ⟩;have B1:=hd_ hZ;clear hZ Hc
 go_wp2_with fail
 go_ret;exact⟨rfl,B1.out⟩
def Qb1 (w w':World) (ps:List Int) (l:List Rat) (T:Nat→Bool) (e:Ending):Prop :=
 ∃ R B n,e = .returned (.tuple #[.pointer (some ⟨R,0,none⟩),.int .i64 (n:Nat),.bool true])∧Zmg w' R ps l B∧n≤B∧B≤1000∧Zbh T n∧Below w.heap.size w w'
theorem Zlg(w:World)(ps:List Int)(l:List Rat)(a0 a1:Option Addr)(c0 c1 D:Nat)(rp:Rd w a0 (Qt ps))(rl:Rd w a1 (Kt l))(hl:l.length=ps.length)(hn:ps.length≤100)(hp:∀ p∈ps,∃ q:Nat,p=q∧(q=2∨q∈Yp))(hs:∀ q∈l,Sm D q)(hD:D≤300)
  (f:FuncId) (lb:Array Value) (eg:∀ args w,(callFunc f args).run Tryz.prog w = .ok (.enter f args) w) (T:Nat→Bool)
  (hT:∀ W,Below w.heap.size w W→∀ b,b≤1000→Kc Tryz.prog f (#[fr (loE b ps l),fr (hiE b ps l)]++lb) W (.bool (T b))) (GV:T 1000=true) (L:Qd w) :
  Calls Tryz.prog 86 #[.slice a0 ps.length c0,.slice a1 ps.length c1,.func (.func f) #[] lb] w fun e w'=>Qb1 w w' ps l T e:=by
 have bM:=hd_ (fun W (hW:Below w.heap.size w W) B hB=>Zek W ps l B a0 a1 c0 c1 (rp.below hW nr_) (rl.below hW nr_) hl hn hp hB (L.below hW))
 have eW:=hd_ (fun W (hW:Below w.heap.size w W) R B b (H:Zmg W R ps l B) (hb:b≤B) (hB:B≤1000)=>Zbv W R ps l B b D H hl hn hp hs hD hb hB (L.below hW))
 have HT:=hd_ hT;have Fq:=hd_ GV;clear rp rl hs hp hT GV L;unfold fr fv at eW HT;generalize Fk:ps.length=n at *
 have Hn:=hd_ Fk;clear Fk;go_enter Tryz.func86,Tryz.ntmps86
 go_wp2_with fail
 refine cm_ (bM.out _ (Below.refl _ _) 32 (by decide)) ?_
 rintro e w1 ⟨R0,rfl,hg,hR,hb⟩;have AK:=hd_ hg;have B1:=hd_ hb;clear hg hR hb
 go_wp2_with fail
 go_loopw [9,10] (fun m p wr=>∃ (B R:Nat),32≤B∧B≤1000∧m = .int .i64 B∧p = .pointer (some ⟨R,0,none⟩)∧Hid (Zmg wr R ps l B)∧Hid (Below w.heap.size w wr)) (fun m _ _=>1000-(intOf m).toNat)
 case atStart=>exact⟨32,R0,Nat.le_refl _,by decide,rfl,rfl,AK,B1⟩
 case round =>
  obtain⟨B,R,GK,hB2,rfl,rfl,HG,HB⟩:=hrel;clear AK B1
  go_wp2_with fail
  refine cm_ (eW.out _ HB.out R B B HG.out nr_ hB2) ?_;rintro e w2 ⟨rfl,hb⟩;have Gi:=hd_ (HB.out.trans (hb.mono HB.out.size));have aZ:=hd_ (HG.out.below hb);clear hb HG HB;have Hc:=hd_ (HT.out w2 Gi.out B hB2);cases hf:T B with
  | false =>
   rw[hf] at Hc;have Ma:B<1000:=by
    rcases Nat.lt_or_ge B 1000 with h|h
    ·exact h
    ·obtain rfl:B=1000:=by omega
     rw[Fq.out] at hf;cases hf
   obtain⟨B',hB'⟩:∃ B',min (2*B) 1000=B':=⟨_,rfl⟩;have hm:min (2*(B:Int)) 1000=(B':Nat):=by omega
   have hw:IntKind.i64.wrap (2*(B:Int))=2*(B:Int):=iw_ _ (by omega)
   have gq:((B:Int)==1000)=false:=by rw[beq_eq_false_iff_ne];omega
   have jf:=hd_ (fun W hW=>bM.out W hW B' (by omega))
   have gJ:32≤B':=by omega
   have es:B'≤1000:=by omega
   have Gc:B<B':=by omega
   clear hf hB'
   go_wp2_with fail
   refine cm_ Hc.out ?_;rintro e w3 ⟨rfl,hb⟩;have GC:=hd_ (Gi.out.trans (hb.mono Gi.out.size));clear hb Hc Gi aZ
   go_wp2_with fail
   refine cm_ (jf.out _ GC.out) ?_;rintro e w4 ⟨R',rfl,hg,hR,hb⟩;have Dk:=hd_ hg;have GB:=hd_ (GC.out.trans (hb.mono GC.out.size));clear hg hR hb GC jf
   go_wp2_with fail
   refine⟨⟨B',R',gJ,es,rfl,rfl,Dk,GB⟩,by simp[intOf];omega⟩
  | true =>
   rw[hf] at Hc;have aH:=hd_ hf;clear hf
   go_wp2_with fail
   refine cm_ Hc.out ?_;rintro e w3 ⟨rfl,hb⟩;have GC:=hd_ (Gi.out.trans (hb.mono Gi.out.size));have Je:=hd_ (aZ.out.below hb);clear hb Hc Gi aZ
   go_wp2_with fail
   go_loopw [11,12] (fun u v wr=>∃ (fI:Int) (t:Nat),-1≤fI∧fI<t∧t≤B∧u = .int .i64 fI∧v = .int .i64 t∧Hid (T t=true∧(fI = -1∨T fI.toNat=false))∧Hid (Zmg wr R ps l B)∧Hid (Below w.heap.size w wr)) (fun u v _=>(intOf v-intOf u).toNat)
   case atStart=>exact⟨-1,B,Int.le_refl _,by omega,Nat.le_refl _,rfl,rfl,⟨aH.out,.inl rfl⟩,Je,GC⟩
   case round =>
    obtain⟨fI,t,ah,hf2,ht,rfl,rfl,HX,HG,HB⟩:=hrel;clear Je GC;have fM:IntKind.i64.wrap ((t:Int)-fI)=(t:Int)-fI:=iw_ _ (by omega)
    by_cases hc:1<(t:Int)-fI
    ·obtain⟨m,hm⟩:∃ m:Nat,((m:Nat):Int)=(fI+t)/2:=⟨((fI+t)/2).toNat,by omega⟩
     have fL:IntKind.i64.wrap (fI+(t:Int))=fI+t:=iw_ _ (by omega)
     have hq:Int.tdiv (fI+(t:Int)) 2=(m:Nat):=by rw[Int.tdiv_eq_ediv_of_nonneg (by omega)];omega
     have JF:(fI+(t:Int))/2=(m:Nat):=hm.symm;have Fl:fI<m:=by omega
     have EP:m<t:=by omega
     clear hm
     go_wp2_with fail
     refine cm_ (eW.out _ HB.out R B m HG.out (by omega) hB2) ?_
     rintro e w4 ⟨rfl,hb⟩;have GB:=hd_ (HB.out.trans (hb.mono HB.out.size));have Dk:=hd_ (HG.out.below hb);clear hb HG HB;have Hc:=hd_ (HT.out w4 GB.out m (by omega))
     cases hf:T m with
     | true =>
      rw[hf] at Hc;have GL:Hid (T m=true∧(fI = -1∨T fI.toNat=false)):=⟨hf,HX.out.2⟩;clear hf HX
      go_wp2_with fail
      refine cm_ Hc.out ?_;rintro e w5 ⟨rfl,hb⟩;have CF:=hd_ (GB.out.trans (hb.mono GB.out.size));have BF:=hd_ (Dk.out.below hb);clear hb Hc GB Dk
      go_wp2_with fail
      refine⟨⟨fI,m,ah,Fl,by omega,rfl,rfl,GL,BF,CF⟩,by simp[intOf];omega⟩
     | false =>
      rw[hf] at Hc;have GL:Hid (T t=true∧((m:Int) = -1∨T ((m:Int)).toNat=false)):=⟨HX.out.1,.inr (by rw[Int.toNat_natCast];exact hf)⟩
      clear hf HX
      go_wp2_with fail
      refine cm_ Hc.out ?_;rintro e w5 ⟨rfl,hb⟩;have CF:=hd_ (GB.out.trans (hb.mono GB.out.size));have BF:=hd_ (Dk.out.below hb);clear hb Hc GB Dk
      go_wp2_with fail
      refine⟨⟨(m:Int),t,by omega,by omega,ht,rfl,rfl,GL,BF,CF⟩,by simp[intOf];omega⟩
    ·have ld:fI=(t:Int)-1:=by omega
     have HL:Hid (Zbh T t):=by
      refine⟨HX.out.1,?_,by omega⟩
      rcases HX.out.2 with h|h
      ·left;omega
      ·by_cases h0:t=0
       ·left;exact h0
       ·right;rw[show t-1=fI.toNat by omega];exact h
     clear ld HX
     go_wp2_with fail
     go_ret3
     exact⟨R,B,t,rfl,HG.out,ht,hB2,HL.out,HB.out⟩
def Qb (l:List (Int×Int×ByteArray)):List Value:=l.flatMap fun x=>[.int .i64 x.1,.int .i64 x.2.1,.string x.2.2]
theorem Zd8(l:List (Int×Int×ByteArray)):(Qb l).length=l.length*3:=by
 unfold Qb
 induction l with
 | nil=>rfl
 | cons x l ih=>rw[List.flatMap_cons,List.length_append,ih,List.length_cons];simp;omega
theorem Zd9(l m:List (Int×Int×ByteArray)):Qb (l++m)=Qb l++Qb m:=by simp[Qb]
def Zam (n:Nat) (ps:List Int) (l:List Rat):List (Int×Int×ByteArray):=(ps.zip l).filterMap fun x=>if x.2.num=0 then none else some (x.1,(n:Int),dec (lgN x.1 n))
theorem Zhi(n:Nat)(ps:List Int)(l:List Rat)(k:Nat)(h1:k<ps.length)(h2:k<l.length):
  Zam n (ps.take (k+1)) (l.take (k+1))=Zam n (ps.take k) (l.take k)++(if l[k].num=0 then [] else [(ps[k],(n:Int),dec (lgN ps[k] n))]):=by
 unfold Zam;have e:∀ n,(ps.take n).zip (l.take n)=(ps.zip l).take n:=fun n=>(List.take_zipWith ..).symm
 rw[e,e,List.take_add_one,List.getElem?_eq_getElem (by rw[List.length_zip];omega),List.filterMap_append]
 congr 1;rw[List.getElem_zip]
 by_cases h:l[k].num=0
 ·rw[if_pos h]
  show List.filterMap _ [(ps[k],l[k])]=[]
  rw[List.filterMap_cons,if_pos h];rfl
 ·rw[if_neg h]
  show List.filterMap _ [(ps[k],l[k])]=_
  rw[List.filterMap_cons,if_neg h];rfl
theorem Zoc(n:Nat)(ps:List Int)(l:List Rat):(Zam n ps l).length≤ps.length:=by
 unfold Zam;refine Nat.le_trans (List.length_filterMap_le _ _) ?_;rw[List.length_zip];omega
theorem Qbj:(Tryz.prog.info? 27).map (fun i=>(i.zero,i.size,i.bytes))=some (some (.agg #[.int .i64 0,.int .i64 0,.string ⟨#[]⟩]),3,32):=by kernel_rfl
theorem Qcv:Zbz Tryz.prog 49 27 (.agg #[.int .i64 0,.int .i64 0,.string ⟨#[]⟩]) 3 32:=⟨Tryz.underlying49,info_parts Qbj,rfl,by decide⟩
theorem Zrg(w:World)(a b:Rat):Kc Tryz.prog 87 #[fr a,fr b] w (.bool (sgE a b != 0)):=by
 have H3:=hd_ (Zvb.mk' w (itx a.num) (dec a.den) (itx b.num) (dec b.den));have Hs:=hd_ (fun W=>Zjs W a b)
 unfold Kc;unfold fr fv at Hs ⊢;generalize sgE a b=v at *
 go_enter Tryz.func87,Tryz.ntmps87;obtain⟨k0,k1,-,-⟩:=Ka H3.out.fa;obtain⟨k2,k3,-,-⟩:=Ka H3.out.fb
 go_wp2_with fail
 generalize (w.alloc (.cells #[.string (itx a.num),.string (dec a.den)] 42)).alloc (.cells #[.string (itx b.num),.string (dec b.den)] 42)=W0 at *
 clear k0 k1 k2 k3;refine cm_ (Hs.out _) ?_;rintro e w1 ⟨rfl,hZ⟩;have B1:=hd_ (H3.out.bel.trans (hZ.mono H3.out.bel.size));clear hZ Hs
 go_wp2_with fail
 go_ret;exact⟨rfl,B1.out⟩
def Zee (sg n:Int) (a:Option Addr) (m c:Nat):Value := .agg #[.int .i64 sg,.int .i64 n,.slice a m c]
def Qdk (w w':World) (ps:List Int) (l:List Rat) (e:Ending):Prop :=
 ∃ (n:Nat) (a:Option Addr) (c:Nat),e = .returned (.tuple #[Zee (Zai n ps l) n a (Zam n ps l).length c,.int .i64 0])∧Zbh (fun b=>Zai b ps l != 0) n∧Rd w' a (Qb (Zam n ps l))∧Below w.heap.size w w'
structure DcI (w w3 wr:World) (sg:Int) (n m:Nat) (a:Option Addr) (c:Nat) (bl:List (Int×Int×ByteArray)):Prop where
 res:wr.heap[w.heap.size]?=some (.cells #[.int .i64 0,.int .i64 0,.slice none 0 0] 51 (0,0))
 ob:wr.heap[w3.heap.size]?=some (.cells #[.int .i64 sg,.int .i64 n,.slice a m c] 51 (0,0))
 own:wr.ownsRow (w3.heap.size+1) 27 3 (.slice a m c) m (Qb bl)
 bel:Below w3.heap.size w3 wr
 sz:w3.heap.size+1≤wr.heap.size
theorem DcI.below{w w3 wr w':World}{sg:Int}{n m:Nat}{a:Option Addr}{c:Nat}{bl:List (Int×Int×ByteArray)}(h:DcI w w3 wr sg n m a c bl)(hb:Below wr.heap.size wr w'):DcI w w3 w' sg n m a c bl :=
 ⟨by rw[hb.block _ (Array.getElem?_eq_some_iff.1 h.res).1];exact h.res,by rw[hb.block _ (Array.getElem?_eq_some_iff.1 h.ob).1];exact h.ob,Vw h.own hb nr_,h.bel.trans (hb.mono h.bel.size),Nat.le_trans h.sz hb.size⟩
theorem Zd7(w:World)(a0 a1:Option Addr)(c0 c1:Nat)(ps:List Int)(l:List Rat)(rp:Rd w a0 (Qt ps))(rl:Rd w a1 (Kt l))(hi:Ziv ps)(hl:l.length=ps.length)(hn:ps.length≤100)(hs:∀ q∈l,Sm 30 q)(fh:Vo ps=0)(L:Qd w):
  Kc Tryz.prog 22 #[.slice a0 ps.length c0,.slice a1 ps.length c1] w (.int .i64 0):=by
 have Nl:Ssz (l.map qs):=fun x hx=>by
  obtain⟨q,hq,rfl⟩:=List.mem_map.1 hx;have h1:=Zjn q.num 30 (by decide) (hs q hq).1
  have h2:=(Zc q.den 30 (by decide)).2 (hs q hq).2
  refine⟨Nat.le_trans h1 (by decide),Nat.le_trans h2 (by decide)⟩
 have h:=Zds w a0 a1 c0 c1 ps (l.map qs) rp hi (by omega) rl (by rw[List.length_map];omega) Nl L
 rw[List.length_map,hl] at h;have h0:Zrl ps (l.map qs)=0:=by unfold Zrl;rw[if_pos fh,Zdu hs hl]
 rw[h0] at h;exact h
theorem Zkw{w:World}{R:Nat}{x y z z':Value}{t:TypeId}(h:w.heap[R]?=some (.cells #[x,y,z] t (0,0))):
  (w.setCell ⟨R,2,none⟩ z').heap[R]?=some (.cells #[x,y,z'] t (0,0)):=by
 have H9:=lt_of_block h;have h':w.heap[R] = .cells #[x,y,z] t (0,0):=by simpa [Array.getElem?_eq_getElem H9] using h
 show (w.heap.modify R _)[R]?=_
 rw[Array.getElem?_eq_getElem (by simpa using H9),Array.getElem_modify_self,h']
 rfl
theorem Zm9{w:World}{B e:Nat}{a:Option Addr}{c m:Nat}{vs:List Value}{sz:Nat}(h:w.ownsRow B e sz (.slice a m c) m vs):Rd w a vs:=by
 by_cases hn:0<m
 ·obtain⟨g,cap,hv,h1,h2,h3,h4,h5⟩:=Vy h hn;simp only[Value.slice.injEq] at hv;obtain⟨rfl,-,-⟩:=hv;refine .inr ⟨g,0,rfl,h2,fun i v hi=>?_⟩
  have H9:=(List.getElem?_eq_some_iff.1 hi).1;have gh:=h.1;rw[Nat.zero_add,h4 i (by omega)];exact hi
 ·obtain rfl:m=0:=by omega
  have gh:=h.1;exact .inl (List.length_eq_zero_iff.1 (by omega))
theorem DcI.push{w w3 W w5:World}{sg:Int}{n mm c d:Nat}{a a3:Option Addr}{bl:List (Int×Int×ByteArray)}{x:Int×Int×ByteArray}{news:List Value}(h:DcI w w3 W sg n mm a c bl)(hw:w.heap.size<w3.heap.size)
  (hnews:news=[.int .i64 x.1,.int .i64 x.2.1,.string x.2.2])
  (hg:(W.alloc (.cells news.toArray 27)).grownBy w5 (Value.slice a mm c).ownBlock) (ho:w5.ownsRow (w3.heap.size+1) 27 3 (.slice a3 (mm+1) d) (mm+1) (Qb bl++news)) :
  (∃ v,w5.cell? ⟨w3.heap.size,2,none⟩=some v)∧w5.frozen? ⟨w3.heap.size,2,none⟩=false∧DcI w w3 (w5.setCell ⟨w3.heap.size,2,none⟩ (.slice a3 (mm+1) d)) sg n (mm+1) a3 d (bl++[x]):=by
 have gu:∀ k,(Value.slice a mm c).ownBlock=some k→w3.heap.size+1≤k:=fun k hk=>(World.ownsRow.lt h.own k hk).1
 have GF:∀ k o,k<w3.heap.size+1→W.heap[k]?=some o→w5.heap[k]?=some o:=fun k o hk ho=>by
  rw[hg.block k (by simp;have:=h.sz;omega) (fun e=>by have:=gu k e.symm;omega)]
  rw[((Below.refl W.heap.size W).alloc nr_ _).block k (by have:=h.sz;omega)]
  exact ho
 have mb:=GF _ _ (Nat.lt_succ_self _) h.ob;obtain⟨-,-,k2,kf⟩:=Ki mb;refine⟨⟨_,k2⟩,kf 2,?_,Zkw mb,?_,?_,?_⟩
 ·rw[Below.heap_setCell _ _ _ _ (by show w.heap.size≠w3.heap.size;omega)]
  exact GF _ _ (by omega) h.res
 ·have:=ownsRow_setCell_below (a:=⟨w3.heap.size,2,none⟩) ho (Nat.lt_succ_self _) (.slice a3 (mm+1) d)
  rw[Zd9];subst hnews;exact this
 ·refine Below.setCell (p:=⟨w3.heap.size,2,none⟩) ?_ nr_ _;exact(h.bel.alloc h.bel.size _).grown hg (by simp;have:=h.sz;omega) (fun k hk=>by have:=gu k hk;omega)
 ·rw[World.size_setCell];have:=hg.size
  simp at this;have:=h.sz
  omega
theorem Zlv(w:World)(a0 a1:Option Addr)(c0 c1 D:Nat)(ps:List Int)(l:List Rat)(rp:Rd w a0 (Qt ps))(rl:Rd w a1 (Kt l))(hi:Ziv ps)(hl:l.length=ps.length)(hn:ps.length≤100)(hp:∀ p∈ps,∃ q:Nat,p=q∧(q=2∨q∈Yp))(hs:∀ q∈l,Sm D q)(hD:D≤30)
  (fh:Vo ps=0) (hnz:l.any nzQ=true) (GV:Zai 1000 ps l≠0) (L:Qd w) :
  Calls Tryz.prog 26 #[.slice a0 ps.length c0,.slice a1 ps.length c1] w fun e w'=>Qdk w w' ps l e:=by
 have GQ:=hd_ (fun W (hW:Below w.heap.size w W)=>Zd7 W a0 a1 c0 c1 ps l (rp.below hW nr_) (rl.below hW nr_) hi hl hn (fun q hq=>(hs q hq).le hD) fh (L.below hW))
 have fE:=hd_ (fun W (hW:Below w.heap.size w W)=>Zjr W a1 c1 l (rl.below hW nr_) (by omega))
 rw[hnz,hl] at fE;have Dd:=hd_ (fun W (hW:Below w.heap.size w W)=>Zlg W ps l a0 a1 c0 c1 D (rp.below hW nr_) (rl.below hW nr_) hl hn hp hs (by omega) 87 #[] (Zjt Tryz.func87 (by kernel_rfl) rfl) (fun b=>Zai b ps l != 0) (fun W' _ b _=>by
  have:=Zrg W' (loE b ps l) (hiE b ps l)
  rw[Zi6] at this;exact this) (by rw[bne_iff_ne];exact GV) (L.below hW))
 have eW:=hd_ (fun W (hW:Below w.heap.size w W) R B b (H:Zmg W R ps l B) (hb:b≤B) (hB:B≤1000)=>Zbv W R ps l B b D H hl hn hp hs (by omega) hb hB (L.below hW))
 have BE:=hd_ (fun W b=>Zjs W (loE b ps l) (hiE b ps l))
 have AN:=hd_ (fun W (hW:Below w.heap.size w W) R B b k (H:Zmg W R ps l B) (hk:k<ps.length) (gO:k<l.length) (hz:l[k].num≠0) (hb:b≤B) (hB:B≤1000)=>Zyl W R ps l B b k H hl hn hk gO (hp _ (List.getElem_mem hk)) hz hb hB (L.below hW))
 have Dh:=hd_ rp;have dj:=hd_ rl;have Hl:=hd_ hl;have gi:Hid ((w.alloc (.cells #[.int .i64 0,.int .i64 0,.slice none 0 0] 51)).heap[w.heap.size]?=some (.cells #[.int .i64 0,.int .i64 0,.slice none 0 0] 51 (0,0))):=heap_alloc_new w _;have gj:=hd_ ((Below.refl w.heap.size w).alloc nr_ (.cells #[.int .i64 0,.int .i64 0,.slice none 0 0] 51));clear rp rl hs hp fh hnz GV L hi;unfold fr fv at eW BE;obtain⟨n,Fk⟩:∃ n,ps.length=n:=⟨_,rfl⟩;have Hn:=hd_ Fk;rw[Fk] at hn GQ fE Dd ⊢;clear Fk hl;go_enter Tryz.func26,Tryz.ntmps26
 go_wp2_with fail
 generalize w.alloc (.cells #[.int .i64 0,.int .i64 0,.slice none 0 0] 51)=W0 at *
 refine cm_ (GQ.out _ gj.out) ?_;rintro e w1 ⟨rfl,hb⟩;have B1:=hd_ (gj.out.trans (hb.mono gj.out.size));have C1:=hd_ hb;clear hb GQ gj
 go_wp2_with fail
 refine cm_ (fE.out _ B1.out) ?_;rintro e w2 ⟨rfl,hb⟩;have B2:=hd_ (B1.out.trans (hb.mono B1.out.size));have C2:=hd_ (C1.out.trans (hb.mono C1.out.size));clear hb fE B1 C1
 go_wp2_with fail
 refine cm_ (Dd.out _ B2.out) ?_;rintro e w3a ⟨R,B,m,rfl,hg,hm,hB,hN,hb⟩;have B3:=hd_ (B2.out.trans (hb.mono B2.out.size));have C3:=hd_ (C2.out.trans (hb.mono C2.out.size));have HG:=hd_ hg;have HN:=hd_ hN;clear hb Dd B2 C2 hg hN
 go_wp2_with fail
 refine cm_ (eW.out _ B3.out R B m HG.out hm hB) ?_;rintro e w3b ⟨rfl,hb⟩;have B4:=hd_ (B3.out.trans (hb.mono B3.out.size));have C4:=hd_ (C3.out.trans (hb.mono C3.out.size));have Dk:=hd_ (HG.out.below hb);clear hb eW B3 C3 HG
 go_wp2_with fail
 refine cm_ (BE.out _ m) ?_;rintro e w3 ⟨rfl,hb⟩;have B5:=hd_ (B4.out.trans (hb.mono B4.out.size));have C5:=hd_ (C4.out.trans (hb.mono C4.out.size));have BF:=hd_ (Dk.out.below hb);clear hb BE B4 C4 Dk;have ft:sgE (loE m ps l) (hiE m ps l)=Zai m ps l:=Zi6 m ps l;have Ga:=hd_ ft;rw[ft];clear ft;obtain⟨sg,hsgd⟩:∃ sg,Zai m ps l=sg:=⟨_,rfl⟩;have DE:Hid (sg=Zai m ps l):=hsgd.symm;rw[hsgd];clear hsgd;have G3:Hid (DcI w w3 (w3.alloc (.cells #[.int .i64 sg,.int .i64 m,.slice none 0 0] 51)) sg m 0 none 0 (Zam m (ps.take 0) (l.take 0))):=by
  have bR:w3.heap[w.heap.size]?=some (.cells #[.int .i64 0,.int .i64 0,.slice none 0 0] 51 (0,0)):=by
   rw[C5.out.block _ (Array.getElem?_eq_some_iff.1 gi.out).1];exact gi.out
  refine⟨?_,heap_alloc_new w3 _,World.ownsRow_nil ..,(Below.refl _ _).alloc nr_ _,by simp⟩
  rw[((Below.refl w3.heap.size w3).alloc nr_ _).block _ (Array.getElem?_eq_some_iff.1 bR).1];exact bR
 have cX:Hid (w.heap.size<w3.heap.size):=by
  have:=(Array.getElem?_eq_some_iff.1 gi.out).1
  have:=C5.out.size
  show _<_
  omega
 clear gi C5
 go_wp2_with fail
 go_loopw [43] (fun i wr=>∃ (k:Nat) (a:Option Addr) (c mm:Nat),k≤n∧i = .int .i64 k∧mm≤k∧Hid (mm=(Zam m (ps.take k) (l.take k)).length)∧Hid (DcI w w3 wr sg m mm a c (Zam m (ps.take k) (l.take k)))) (fun i _=>n-(intOf i).toNat)
 case atStart=>exact⟨0,none,0,0,Nat.zero_le _,rfl,Nat.le_refl _,rfl,G3⟩
 case round =>
  obtain⟨k,a,c,mm,hk,rfl,BU,Hmm,HI⟩:=hrel;clear G3
  by_cases H9:k<n
  ·have gm:(k:Int)<n:=by omega
   have GD:k<ps.length:=by rw[Hn.out];exact H9
   have gO:k<l.length:=by rw[Hl.out,Hn.out];exact H9
   have Bw:=hd_ (B5.out.trans (HI.out.bel.mono B5.out.size));obtain⟨b0,o0,rfl,g7,fB⟩:=Dh.out.open (by rw[Qf];omega)
   have Fb:Hid (∀ W,Below w.heap.size w W→W.cell? ⟨b0,o0+k,none⟩=some (.int .i64 ps[k])):=fun W hW=>by
    rw[hW.cell (p:=⟨b0,o0+k,none⟩) g7];exact fB k _ (Ym ps k GD)
   obtain⟨b1,o1,rfl,hZ,gK⟩:=dj.out.open (by rw[Kz];omega)
   obtain⟨x0,x1⟩:=Qm gK k (by rw[List.length_map];exact gO)
   rw[Qw l k gO] at x0 x1;rw[← Bw.out.cell (p:=⟨b1,o1+k*2,none⟩) hZ] at x0;rw[← Bw.out.cell (p:=⟨b1,o1+k*2+1,none⟩) hZ] at x1;have dR:IntKind.i64.wrap ((k:Int)+1)=((k+1:Nat):Int):=by rw[← Int.natCast_succ];exact iw_ _ (by omega)
   have f9:=hd_ (fun W=>Zi5 W l[k])
   have db:=hd_ (Zhi m ps l k GD gO);have eh:=hd_ (fun W (hW:Below w3.heap.size w3 W) (hz:l[k].num≠0)=>AN.out W (B5.out.trans (hW.mono B5.out.size)) R B m k (BF.out.below hW) GD gO hz hm hB)
   clear fB gK;unfold fr fv at f9;unfold qs at x0 x1;simp only at x0 x1;generalize l[k]=q at *
   generalize ps[k]=pk at *
   have CC:=hd_ (HI.out.below ((Below.refl _ _).alloc nr_ (.cells #[.string (itx q.num),.string (dec q.den)] 42)));have k8:=Ka (heap_alloc_new wr (.cells #[.string (itx q.num),.string (dec q.den)] 42))
   by_cases hz:q.num=0
   ·have FI:=db.out;rw[if_pos hz,List.append_nil] at FI;have GZ:=hd_ FI;rw[hz] at f9 x0 k8 CC;clear eh FI db hz
    go_wp2_with fail
    refine cm_ (f9.out _) ?_;rintro e w4 ⟨rfl,hb⟩;have gn:=hd_ (CC.out.below hb);clear hb f9 k8 CC HI
    go_wp2_with fail
    refine⟨⟨k+1,a,c,mm,by omega,by go_num,by omega,by rw[GZ.out];exact Hmm,by rw[GZ.out];exact gn⟩,by simp[intOf];omega⟩
   ·have mr:(q.num.sign != 0)=true:=by
     rw[bne_iff_ne];intro h;exact hz (Int.sign_eq_zero_iff_zero.1 h)
    have FI:=db.out;rw[if_neg hz] at FI;have GZ:=hd_ FI;have jp:=hd_ (fun W hW=>eh.out W hW hz)
    clear eh FI db hz
    go_wp2_with fail
    refine cm_ (f9.out _) ?_;rintro e w4 ⟨rfl,hb⟩;have gn:=hd_ (CC.out.below hb);clear hb f9 k8 CC HI x0 x1;obtain⟨k0,k1,k2,-⟩:=Ki gn.out.ob;have cp:=Fb.out w4 (B5.out.trans (gn.out.bel.mono B5.out.size));have q0:=NW.cell k2;have q1:=NW.cell cp;have gk:Nonempty (NW w4):=⟨⟨w4,Below.refl _ _⟩⟩;have I:Hid (Below w4.heap.size w4 w4.drew):=(Below.refl _ _).drew;clear k0 k1 k2 cp
    go_wp2_with fail
    refine RP.wp_region_readers 13 [(2,0),(1,1),(2,2),(2,3),(2,4),(1,5),(2,6),(2,7),(2,8),(2,9),(0,10),(0,11),(0,12),(0,13),(2,14),(0,15)] (fun w'=>∃ p:NW w4,w'=p.w) (by kernel_rfl) (by kernel_rfl) ?_ ?_
    ·exact⟨⟨_,I.out⟩,rfl⟩
    iterate 1 (refine RP.walkR_any ?_;simp only[dz_,Kg,tz_];go_big_quiet_step (fail);refine wpQuiet_nil ?_)
    iterate 1 (refine RP.walkR_read ?_;simp only[Kh,dz_,Kg,tz_];go_big_quiet_step (fail);refine wpQuiet_nil ?_)
    iterate 3 (refine RP.walkR_any ?_;simp only[Kh,dz_,Kg,tz_];go_big_quiet_step (fail);refine wpQuiet_nil ?_)
    iterate 1 (refine RP.walkR_read ?_;simp only[Kh,dz_,Kg,tz_];go_big_quiet_step (fail);refine wpQuiet_nil ?_)
    iterate 4 (refine RP.walkR_any ?_;simp only[Kh,dz_,Kg,tz_];go_big_quiet_step (fail);refine wpQuiet_nil ?_)
    clear gk q0 q1;refine RP.walkR_move ?_;simp only[Kh,dz_,Kg,tz_]
    go_wp2_with fail
    refine cm_ (jp.out _ (gn.out.bel.trans (I.out.mono gn.out.bel.size))) ?_;rintro e x1 ⟨rfl,hb⟩;have I1:Hid (Below w4.heap.size w4 x1):=I.out.trans (hb.mono I.out.size);clear hb I jp
    go_wp2_with fail
    refine⟨⟨⟨_,I1.out⟩,rfl⟩,?_⟩;refine RP.walkR_move ?_;simp only[Kh,dz_,Kg,tz_]
    go_wp2_with fail
    refine⟨⟨⟨_,I1.out⟩,rfl⟩,?_⟩;refine RP.walkR_move ?_;simp only[Kh,dz_,Kg,tz_]
    go_wp2_with fail
    refine⟨⟨⟨_,I1.out.alloc I1.out.size _⟩,rfl⟩,?_⟩;have gF:=hd_ (gn.out.below I1.out);have fF:=hd_ gF.out.sz;refine RP.walkR_move ?_;simp only[Kh,dz_,Kg,tz_]
    go_wp2_with (at_builtin;refine Km rfl (.tmp 52) (.tmp 63) 49 rfl Qcv _ 1 [.int .i64 pk,.int .i64 m,.string (dec (lgN pk m))] rfl rfl gF.out.own fF.out rfl (by simp[Value.oneCell']) (by omega) (by omega) ?_)
    intro v' w5 gu Gc GM;obtain⟨a3,d3,rfl⟩:=Qk gu;obtain⟨⟨v2,hv2⟩,hf2,cH⟩:=gF.out.push (x:=(pk,(m:Int),dec (lgN pk m))) cX.out rfl Gc gu;rw[← GZ.out] at cH;have fK:=hd_ cH;have Cs:Hid (mm+1=(Zam m (ps.take (k+1)) (l.take (k+1))).length):=by
     show _=_
     rw[GZ.out,List.length_append,← Hmm.out];rfl
    clear gu Gc GM cH gF I1
    go_wp2_with fail
    iterate 1 (refine RP.walkR_any ?_;simp only[Kh,dz_,Kg,tz_];go_big_quiet_step (fail);refine wpQuiet_nil ?_)
    refine RP.walkR_move ?_;simp only[Kh,dz_,Kg,tz_]
    go_wp2_with fail
    simp only[RP.walkR]
    go_wp2_with fail
    refine⟨⟨k+1,a3,d3,mm+1,by omega,by go_num,by omega,Cs,fK⟩,by simp[intOf];omega⟩
  ·obtain rfl:k=n:=by omega
   have gm:¬ (k:Int)<k:=by omega
   have FS:Zam m (ps.take k) (l.take k)=Zam m ps l:=by
    rw[← Hn.out,List.take_length,List.take_of_length_le (by rw[Hl.out,Hn.out];omega)]
   have Ca:=hd_ FS;obtain⟨k0,k1,k2,-⟩:=Ki HI.out.ob;obtain⟨r0,r1,r2,rf⟩:=Ki HI.out.res;have f0:=rf 0;have f1:=rf 1;have f2:=rf 2;have Bw:=hd_ (B5.out.trans (HI.out.bel.mono B5.out.size));have Jd:Hid (Rd (((wr.setCell ⟨w.heap.size,0,none⟩ (.int .i64 sg)).setCell ⟨w.heap.size,1,none⟩ (.int .i64 m)).setCell ⟨w.heap.size,2,none⟩ (.slice a mm c)) a (Qb (Zam m ps l))):=by
    have:=HI.out.own
    rw[FS] at this;have BV:w.heap.size<w3.heap.size+1:=Nat.lt_succ_of_lt cX.out;exact Zm9 (ownsRow_setCell_below (ownsRow_setCell_below (ownsRow_setCell_below this (a:=⟨w.heap.size,0,none⟩) BV _) (a:=⟨w.heap.size,1,none⟩) BV _) (a:=⟨w.heap.size,2,none⟩) BV _)
   rw[FS] at Hmm;clear FS rf AN;go_wp2;obtain⟨z0,z1,z2,hb3⟩:=Zi (.int .i64 sg) (.int .i64 m) (.slice a mm c) r0 r1 r2 nr_ Bw.out;generalize ((wr.setCell ⟨w.heap.size,0,none⟩ (.int .i64 sg)).setCell ⟨w.heap.size,1,none⟩ (.int .i64 m)).setCell ⟨w.heap.size,2,none⟩ (.slice a mm c)=w9 at *
   exact bodyPost_ret (v := .tuple #[.agg #[.int .i64 sg,.int .i64 m,.slice a mm c],.int .i64 0]) (by simp[results,Tryz.results26,go_sem,z0,z1,z2]) rfl ⟨m,a,c,by rw[← Hmm.out,← (show sg=Zai m ps l from DE.out)];rfl,HN.out,Jd.out,hb3⟩
structure Zyn (w W:World):Prop where
 e0:W.heap[w.heap.size]?=some (.cells #[.string ⟨#[]⟩,.string ⟨#[]⟩] 42 (0,0))
 e1:W.heap[w.heap.size+1]?=some (.cells #[.string ⟨#[]⟩,.string ⟨#[]⟩] 42 (0,0))
 bel:Below w.heap.size w W
theorem Zyn.mk'(w:World):Zyn w ((w.alloc (.cells #[.string ⟨#[]⟩,.string ⟨#[]⟩] 42)).alloc (.cells #[.string ⟨#[]⟩,.string ⟨#[]⟩] 42)):=by
 have h1:=heap_alloc_new w (.cells #[.string ⟨#[]⟩,.string ⟨#[]⟩] 42);have h2:=heap_alloc_new (w.alloc (.cells #[.string ⟨#[]⟩,.string ⟨#[]⟩] 42)) (.cells #[.string ⟨#[]⟩,.string ⟨#[]⟩] 42);refine⟨?_,?_,((Below.refl _ _).alloc nr_ _).alloc (by simp) _⟩
 ·rw[((Below.refl (w.alloc (.cells #[.string ⟨#[]⟩,.string ⟨#[]⟩] 42)).heap.size _).alloc nr_ _).block _ (Array.getElem?_eq_some_iff.1 h1).1];exact h1
 ·have e:(w.alloc (.cells #[.string ⟨#[]⟩,.string ⟨#[]⟩] 42)).heap.size=w.heap.size+1:=by simp
  rw[e] at h2;exact h2
theorem Zyn.below{w W W':World}(h:Zyn w W)(hb:Below W.heap.size W W'):Zyn w W' :=
 ⟨by rw[hb.block _ (Array.getElem?_eq_some_iff.1 h.e0).1];exact h.e0,by rw[hb.block _ (Array.getElem?_eq_some_iff.1 h.e1).1];exact h.e1,h.bel.trans (hb.mono h.bel.size)⟩
theorem Znt{w W:World}(h:Zyn w W)(x y z u:Value):∃ w9,(((W.setCell ⟨w.heap.size,0,none⟩ x).setCell ⟨w.heap.size,1,none⟩ y).setCell ⟨w.heap.size+1,0,none⟩ z).setCell ⟨w.heap.size+1,1,none⟩ u=w9 ∧
  w9.heap[w.heap.size]?=some (.cells #[x,y] 42 (0,0))∧w9.heap[w.heap.size+1]?=some (.cells #[z,u] 42 (0,0))∧Below w.heap.size w w9:=by
 have h1:=Ya (x':=x) (y':=y) h.e0;have e1:((W.setCell ⟨w.heap.size,0,none⟩ x).setCell ⟨w.heap.size,1,none⟩ y).heap[w.heap.size+1]?=some (.cells #[.string ⟨#[]⟩,.string ⟨#[]⟩] 42 (0,0)):=by
  rw[Below.heap_setCell _ _ _ _ (by show w.heap.size+1≠w.heap.size;omega),Below.heap_setCell _ _ _ _ (by show w.heap.size+1≠w.heap.size;omega)]
  exact h.e1
 refine⟨_,rfl,?_,Ya e1,(((h.bel.setCell (p:=⟨w.heap.size,0,none⟩) nr_ _).setCell (p:=⟨w.heap.size,1,none⟩) nr_ _).setCell (p:=⟨w.heap.size+1,0,none⟩) (Nat.le_succ _) _).setCell (p:=⟨w.heap.size+1,1,none⟩) (Nat.le_succ _) _⟩;rw[Below.heap_setCell _ _ _ _ (by show w.heap.size≠w.heap.size+1;omega),Below.heap_setCell _ _ _ _ (by show w.heap.size≠w.heap.size+1;omega)]
 exact h1
theorem Zrc(w:World)(a0 a1:Option Addr)(c0 c1 D b:Nat)(ps:List Int)(l:List Rat)(rp:Rd w a0 (Qt ps))(rl:Rd w a1 (Kt l))(hi:Ziv ps)(hl:l.length=ps.length)(hn:ps.length≤100)(hp:∀ p∈ps,∃ q:Nat,p=q∧(q=2∨q∈Yp))(hs:∀ q∈l,Sm D q)(hD:D≤30)
  (fh:Vo ps=0) (hb:b≤1000) (L:Qd w) :
  Kc Tryz.prog 23 #[.slice a0 ps.length c0,.slice a1 ps.length c1,.int .i64 b] w (.tuple #[fr (loE b ps l),fr (hiE b ps l),.int .i64 0]):=by
 unfold Kc;have HE:=hd_ (Zyn.mk' w);have GQ:=hd_ (Zd7 _ a0 a1 c0 c1 ps l (rp.below HE.out.bel nr_) (rl.below HE.out.bel nr_) hi hl hn (fun q hq=>(hs q hq).le hD) fh (L.below HE.out.bel))
 have bM:=hd_ (fun W (hW:Below w.heap.size w W)=>Zek W ps l b a0 a1 c0 c1 (rp.below hW nr_) (rl.below hW nr_) hl hn hp hb (L.below hW))
 have eW:=hd_ (fun W (hW:Below w.heap.size w W) R (H:Zmg W R ps l b)=>Zbv W R ps l b b D H hl hn hp hs (by omega) nr_ hb (L.below hW))
 clear rp rl hs hp fh L hi hl;generalize loE b ps l=lo at *
 generalize hiE b ps l=hi at *
 unfold fr fv at eW ⊢;generalize ps.length=n at *
 go_enter Tryz.func23,Tryz.ntmps23
 go_wp2_with fail
 generalize (w.alloc (.cells #[.string ⟨#[]⟩,.string ⟨#[]⟩] 42)).alloc (.cells #[.string ⟨#[]⟩,.string ⟨#[]⟩] 42)=W0 at *
 refine cm_ GQ.out ?_;rintro e w1 ⟨rfl,hbx⟩;have Eh:=hd_ (HE.out.below hbx);clear hbx GQ HE
 go_wp2_with fail
 refine cm_ (bM.out _ Eh.out.bel) ?_;rintro e w2 ⟨R,rfl,hg,hR,hbx⟩;have Fc:=hd_ (Eh.out.below hbx);have HG:=hd_ hg;clear hbx hg hR bM Eh
 go_wp2_with fail
 refine cm_ (eW.out _ Fc.out.bel R HG.out) ?_;rintro e w3 ⟨rfl,hbx⟩;have DI:=hd_ (Fc.out.below hbx);clear hbx HG eW Fc;obtain⟨k0,k1,f0,f1⟩:=Ka DI.out.e0;obtain⟨k2,k3,f2,f3⟩:=Ka DI.out.e1
 go_wp2_with fail
 obtain⟨w9,hw9,h0,h1,Ew⟩:=Znt DI.out (.string (itx lo.num)) (.string (dec lo.den)) (.string (itx hi.num)) (.string (dec hi.den));rw[hw9];have HI:Hid (EnI w w9 lo hi):=⟨h0,h1,Ew⟩;clear hw9 h0 h1 Ew k0 k1 k2 k3 f0 f1 f2 f3 DI;have Ec:∀ p:EnW w lo hi,p.w.cell? ⟨w.heap.size,0,none⟩=some (.string (itx lo.num)):=fun p=>p.cells.1
 have cm:∀ p:EnW w lo hi,p.w.cell? ⟨w.heap.size,1,none⟩=some (.string (dec lo.den)):=fun p=>p.cells.2.1
 have ck:∀ p:EnW w lo hi,p.w.cell? ⟨w.heap.size+1,0,none⟩=some (.string (itx hi.num)):=fun p=>p.cells.2.2.1
 have cg:∀ p:EnW w lo hi,p.w.cell? ⟨w.heap.size+1,1,none⟩=some (.string (dec hi.den)):=fun p=>p.cells.2.2.2
 have gk:Nonempty (EnW w lo hi):=⟨⟨_,HI.out⟩⟩;have a8:=hd_ (HI.out.below (Qg w9 1));refine RP.wp_region_readers 3 [(1,0),(1,1),(0,2),(0,3),(2,4)] (fun w'=>∃ p:EnW w lo hi,w'=p.w) (by kernel_rfl) (by kernel_rfl) ?_ ?_
 ·exact⟨⟨_,a8.out⟩,rfl⟩
 iterate 2 (refine RP.walkR_read ?_;simp only[Kh,dz_,Kg,tz_];go_big_quiet_step (fail);refine wpQuiet_nil ?_)
 clear gk Ec cm ck cg;obtain⟨k0,k1,f0,f1⟩:=Ka HI.out.e0;have Eh:=hd_ (a8.out.put0 lo);refine RP.walkR_move ?_;simp only[Kh,dz_,Kg,tz_]
 go_wp2_with fail
 refine⟨⟨⟨_,Eh.out⟩,rfl⟩,?_⟩;have Fc:Hid (EnI w ((w9.setCell ⟨w.heap.size,0,none⟩ (.string (itx lo.num))).setCell ⟨w.heap.size,1,none⟩ (.string (dec lo.den))).drew lo hi):=Eh.out;clear k0 k1 f0 f1 Eh a8 HI;generalize ((w9.setCell ⟨w.heap.size,0,none⟩ (.string (itx lo.num))).setCell ⟨w.heap.size,1,none⟩ (.string (dec lo.den))).drew=wz at *
 obtain⟨k2,k3,f2,f3⟩:=Ka Fc.out.e1;have DI:=hd_ (Fc.out.put1 hi);refine RP.walkR_move ?_;simp only[Kh,dz_,Kg,tz_]
 go_wp2_with fail
 iterate 1 (refine RP.walkR_any ?_;simp only[Kh,dz_,Kg,tz_];go_big_quiet_step (fail);refine wpQuiet_nil ?_)
 simp only[RP.walkR];generalize (wz.setCell ⟨w.heap.size+1,0,none⟩ (.string (itx hi.num))).setCell ⟨w.heap.size+1,1,none⟩ (.string (dec hi.den))=wy at *
 clear k2 k3 f2 f3 Fc;obtain⟨z0,z1,-,-⟩:=Ka DI.out.e0;obtain⟨z2,z3,-,-⟩:=Ka DI.out.e1
 go_wp2_with fail
 exact bodyPost_ret (v := .tuple #[.agg #[.string (itx lo.num),.string (dec lo.den)],.agg #[.string (itx hi.num),.string (dec hi.den)],.int .i64 0]) (by simp[results,Tryz.results23,go_sem,z0,z1,z2,z3]) rfl ⟨rfl,DI.out.bel⟩
def scE (k:Nat) (x:Rat):Int:=Zqr (x*((1200*10^k:Nat):Rat))
theorem Zx2(N:Nat):((N:Nat):Rat).num=N∧((N:Nat):Rat).den=1:=⟨Rat.num_natCast N,Rat.den_natCast N⟩
theorem Zgm(w:World)(x:Rat)(D k:Nat)(hx:Sm D x)(hD:D≤900000)(hk:k≤9)(L:Qd w):
  Kc Tryz.prog 154 #[fr x,.int .i64 k] w (.string (itx (scE k x))):=by
 unfold Kc;obtain⟨N,hN⟩:∃ N,1200*10^k=N:=⟨_,rfl⟩;have m6:N≤1200000000000:=by
  rw[← hN];exact Nat.le_trans (Nat.mul_le_mul_left 1200 (Nat.pow_le_pow_right (show 0<10 by decide) hk)) (by decide)
 have lk:Sm 13 ((N:Nat):Rat):=by
  obtain⟨h1,h2⟩:=Zx2 N;refine⟨by rw[h1,Int.natAbs_natCast];exact Nat.lt_of_le_of_lt m6 (by decide),by rw[h2];decide⟩
 have gj:=hd_ ((Below.refl w.heap.size w).alloc nr_ (.cells #[.string (itx x.num),.string (dec x.den)] 42));have F:=hd_ (Zah.new w x);have Gg:=hd_ (fun W (hW:Below w.heap.size w W)=>show Kc Tryz.prog 73 #[.int .i64 N] W (.string (dec N)) from by
  have:=Zaj W N (by omega) (by omega) (L.below hW)
  rw[Kj] at this;exact this)
 have Dc:=hd_ (fun W (hW:Below w.heap.size w W)=>Zu9 W x ((N:Nat):Rat) D 13 hx lk (by omega) (L.below hW))
 have Bu:=hd_ (fun W (hW:Below w.heap.size w W)=>Zv3 W (x*((N:Nat):Rat)) (D+13) (hx.mul lk) (by omega) (L.below hW))
 have hv:scE k x=Zqr (x*((N:Nat):Rat)):=by unfold scE;rw[hN]
 rw[hv];have CV:fr ((N:Nat):Rat) = .agg #[.string (dec N),.string ⟨#[49]⟩]:=by
  obtain⟨h1,h2⟩:=Zx2 N;unfold fr fv;rw[h1,h2,Kj,Vg]
 rw[CV] at Dc;have HN:Hid (∀ j,j≤k→1200*10^j≤N):=fun j hj=>by rw[← hN];exact Nat.mul_le_mul_left _ (Nat.pow_le_pow_right (by decide) hj)
 have nB:=hd_ hN;clear L hx hN hv CV lk;generalize Zqr (x*((N:Nat):Rat))=res at *
 generalize x*((N:Nat):Rat)=y at *
 unfold fr fv at Dc Bu ⊢;go_enter Tryz.func154,Tryz.ntmps154
 go_wp2_with fail
 generalize hW0:w.alloc (.cells #[.string (itx x.num),.string (dec x.den)] 42)=W0 at *
 go_loopw [5,7] (fun b i wr=>∃ (j M:Nat),j≤k∧M≤1200000000000∧b = .int .i64 M∧i = .int .i64 j∧Hid (M=1200*10^j)∧Hid (wr=W0)) (fun _ i _=>k-(intOf i).toNat)
 case atStart=>exact⟨0,1200,Nat.zero_le _,by decide,rfl,rfl,rfl,rfl⟩
 case round =>
  obtain⟨j,M,hj,hM,rfl,rfl,HM,FQ⟩:=hrel;have Ju:=FQ.out;subst Ju;clear FQ
  by_cases H9:j<k
  ·have gm:(j:Int)<k:=by omega
   have BQ:1200*10^(j+1)=M*10:=by rw[HM.out,Nat.pow_succ,Nat.mul_assoc]
   have gV:M*10≤1200000000000:=by rw[← BQ];exact Nat.le_trans (HN.out (j+1) H9) m6
   have hw:IntKind.i64.wrap ((M:Int)*10)=((M*10:Nat):Int):=by rw[show (M:Int)*10=((M*10:Nat):Int) by omega];exact iw_ _ (by omega)
   have NE:IntKind.i64.wrap ((j:Int)+1)=((j+1:Nat):Int):=by rw[← Int.natCast_succ];exact iw_ _ (by omega)
   have ba:Hid (M*10=1200*10^(j+1)):=BQ.symm;clear BQ
   go_wp2_with fail
   refine⟨⟨j+1,M*10,by omega,gV,by go_num,by go_num,ba,trivial⟩,by simp[intOf];omega⟩
  ·obtain rfl:j=k:=by omega
   have gm:¬ (j:Int)<j:=by omega
   have oc:M=N:=by rw[HM.out];exact nB.out
   subst oc;obtain⟨k0,k1,-,-⟩:=Ka F.out;have q0:=NW.cell k0;have q1:=NW.cell k1;have gk:Nonempty (NW wr):=⟨⟨wr,Below.refl _ _⟩⟩;have I:Hid (Below wr.heap.size wr wr.drew):=(Below.refl _ _).drew;clear HM HN nB k0 k1
   go_wp2_with fail
   refine RP.wp_region_readers 5 [(1,0),(2,1),(0,2),(0,3),(0,4),(0,5),(2,6)] (fun w'=>∃ p:NW wr,w'=p.w) (by kernel_rfl) (by kernel_rfl) ?_ ?_
   ·exact⟨⟨_,I.out⟩,rfl⟩
   iterate 1 (refine RP.walkR_read ?_;simp only[dz_,Kg,tz_];go_big_quiet_step (fail);refine wpQuiet_nil ?_)
   iterate 1 (refine RP.walkR_any ?_;simp only[Kh,dz_,Kg,tz_];go_big_quiet_step (fail);refine wpQuiet_nil ?_)
   clear gk q0 q1;refine RP.walkR_move ?_;simp only[Kh,dz_,Kg,tz_]
   go_wp2_with fail
   refine cm_ (Gg.out _ (gj.out.trans (I.out.mono gj.out.size))) ?_;rintro e w1 ⟨rfl,hb⟩;have I1:Hid (Below wr.heap.size wr w1):=I.out.trans (hb.mono I.out.size);clear hb I Gg
   go_wp2_with fail
   refine⟨⟨⟨_,I1.out⟩,rfl⟩,?_⟩;refine RP.walkR_move ?_;simp only[Kh,dz_,Kg,tz_]
   go_wp2_with fail
   refine⟨⟨⟨_,I1.out⟩,rfl⟩,?_⟩;refine RP.walkR_move ?_;simp only[Kh,dz_,Kg,tz_]
   go_wp2_with fail
   refine cm_ (Dc.out _ (gj.out.trans (I1.out.mono gj.out.size))) ?_;rintro e w2 ⟨rfl,hb⟩;have I2:Hid (Below wr.heap.size wr w2):=I1.out.trans (hb.mono I1.out.size);clear hb I1 Dc
   go_wp2_with fail
   refine⟨⟨⟨_,I2.out⟩,rfl⟩,?_⟩;refine RP.walkR_move ?_;simp only[Kh,dz_,Kg,tz_]
   go_wp2_with fail
   refine cm_ (Bu.out _ (gj.out.trans (I2.out.mono gj.out.size))) ?_;rintro e w3 ⟨rfl,hb⟩;have I3:Hid (Below w.heap.size w w3):=gj.out.trans ((I2.out.trans (hb.mono I2.out.size)).mono gj.out.size);clear hb I2 Bu
   go_wp2_with fail
   iterate 1 (refine RP.walkR_any ?_;simp only[Kh,dz_,Kg,tz_];go_big_quiet_step (fail);refine wpQuiet_nil ?_)
   simp only[RP.walkR]
   go_wp2_with fail
   go_ret;exact⟨rfl,I3.out⟩
def Zdh (k:Nat) (a b:Rat):Bool:=(itx (scE k a)).toList==(itx (scE k b)).toList
theorem Zoa(w:World)(a b:Rat)(D k g:Nat)(ha:Sm D a)(hb:Sm D b)(hD:D≤900000)(hk:k≤9)(hg:w.cell? ⟨g,0,none⟩=some (.int .i64 k))(L:Qd w):
  Kc Tryz.prog 153 #[fr a,fr b,.pointer (some ⟨g,0,none⟩)] w (.bool (Zdh k a b)):=by
 have H3:=hd_ (Zvb.mk' w (itx a.num) (dec a.den) (itx b.num) (dec b.den));have Ha:=hd_ (fun W (hW:Below w.heap.size w W)=>Zgm W a D k ha hD hk (L.below hW))
 have Hb:=hd_ (fun W (hW:Below w.heap.size w W)=>Zgm W b D k hb hD hk (L.below hW))
 have Hv:Hid (Zdh k a b=((itx (scE k a)).toList==(itx (scE k b)).toList)):=rfl;have dT:=block_lt_of_cell hg;have Hg:=hd_ hg;clear ha hb hD L hg;generalize Zdh k a b=v at *
 generalize itx (scE k a)=sa at *
 generalize itx (scE k b)=sb at *
 unfold Kc;unfold fr fv at Ha Hb ⊢;go_enter Tryz.func153,Tryz.ntmps153
 go_wp2_with fail
 generalize (w.alloc (.cells #[.string (itx a.num),.string (dec a.den)] 42)).alloc (.cells #[.string (itx b.num),.string (dec b.den)] 42)=W0 at *
 have fQ:W0.cell? ⟨g,0,none⟩=some (.int .i64 k):=(H3.out.bel.cell (p:=⟨g,0,none⟩) dT).trans Hg.out;obtain⟨k0,k1,-,-⟩:=Ka H3.out.fa;obtain⟨k2,k3,-,-⟩:=Ka H3.out.fb;have q0:=NW.cell k0;have q1:=NW.cell k1;have q2:=NW.cell k2;have q3:=NW.cell k3;have q4:=NW.cell fQ;have gk:Nonempty (NW W0):=⟨⟨W0,Below.refl _ _⟩⟩;have I:Hid (Below W0.heap.size W0 W0.drew):=(Below.refl _ _).drew;clear k0 k1 k2 k3 fQ;refine RP.wp_region_readers 5 [(1,0),(1,1),(1,3),(1,4),(0,2),(0,5),(2,6),(2,7)] (fun w'=>∃ p:NW W0,w'=p.w) (by kernel_rfl) (by kernel_rfl) ?_ ?_
 ·exact⟨⟨_,I.out⟩,rfl⟩
 iterate 4 (refine RP.walkR_read ?_;simp only[Kh,dz_,Kg,tz_];go_big_quiet_step (fail);refine wpQuiet_nil ?_)
 clear gk q0 q1 q2 q3 q4;refine RP.walkR_move ?_;simp only[Kh,dz_,Kg,tz_]
 go_wp2_with fail
 refine cm_ (Ha.out _ (H3.out.bel.trans (I.out.mono H3.out.bel.size))) ?_;rintro e w1 ⟨rfl,hbx⟩;have I1:Hid (Below W0.heap.size W0 w1):=I.out.trans (hbx.mono I.out.size);clear hbx I Ha
 go_wp2_with fail
 refine⟨⟨⟨_,I1.out⟩,rfl⟩,?_⟩;refine RP.walkR_move ?_;simp only[Kh,dz_,Kg,tz_]
 go_wp2_with fail
 refine cm_ (Hb.out _ (H3.out.bel.trans (I1.out.mono H3.out.bel.size))) ?_;rintro e w2 ⟨rfl,hbx⟩;have I2:Hid (Below w.heap.size w w2):=H3.out.bel.trans ((I1.out.trans (hbx.mono I1.out.size)).mono H3.out.bel.size);clear hbx I1 Hb
 go_wp2_with fail
 iterate 2 (refine RP.walkR_any ?_;simp only[Kh,dz_,Kg,tz_];go_big_quiet_step (fail);refine wpQuiet_nil ?_)
 simp only[RP.walkR]
 go_wp2_with fail
 go_ret;exact⟨by rw[Hv.out];rfl,I2.out⟩
def Qdl (w w':World) (ps:List Int) (l:List Rat) (k:Nat) (e:Ending):Prop :=
 ∃ n:Nat,e = .returned (.tuple #[.int .i64 n,.string (itx (scE k (loE n ps l))),.int .i64 0])∧Zbh (fun b=>Zdh k (loE b ps l) (hiE b ps l)) n∧Below w.heap.size w w'
theorem Zrh(w:World)(a0 a1:Option Addr)(c0 c1 D k:Nat)(ps:List Int)(l:List Rat)(rp:Rd w a0 (Qt ps))(rl:Rd w a1 (Kt l))(hi:Ziv ps)(hl:l.length=ps.length)(hn:ps.length≤100)(hp:∀ p∈ps,∃ q:Nat,p=q∧(q=2∨q∈Yp))(hs:∀ q∈l,Sm D q)(hD:D≤30)
  (fh:Vo ps=0) (hk:k≤9) (GV:Zdh k (loE 1000 ps l) (hiE 1000 ps l)=true) (L:Qd w) :
  Calls Tryz.prog 81 #[.slice a0 ps.length c0,.slice a1 ps.length c1,.int .i64 k] w fun e w'=>Qdl w w' ps l k e:=by
 have B0:=hd_ ((Below.refl w.heap.size w).alloc nr_ (.cells #[.int .i64 k] 3));have N0:Hid ((w.alloc (.cells #[.int .i64 k] 3)).cell? ⟨w.heap.size,0,none⟩=some (.int .i64 k)):=cell_of_row _ _ 0 _ 3 (0,0) (heap_alloc_new w _);have GQ:=hd_ (Zd7 _ a0 a1 c0 c1 ps l (rp.below B0.out nr_) (rl.below B0.out nr_) hi hl hn (fun q hq=>(hs q hq).le hD) fh (L.below B0.out))
 have Gz:∀ b,b≤1000→Sm 100000 (loE b ps l)∧Sm 100000 (hiE b ps l):=fun b hb=>by
  have h:=Zjv (show b≤1056 by omega) hp hl hs ps.length nr_
  rw[List.take_length,List.take_of_length_le (by omega)] at h
  have HU:1+ps.length*(D+356)≤100000:=by
   have:ps.length*(D+356)≤100*386:=Nat.mul_le_mul hn (by omega)
   omega
  exact⟨h.1.le HU,h.2.le HU⟩
 have Dd:=hd_ (fun W (hW:Below w.heap.size w W) (hc:W.cell? ⟨w.heap.size,0,none⟩=some (.int .i64 k))=>Zlg W ps l a0 a1 c0 c1 D (rp.below hW nr_) (rl.below hW nr_) hl hn hp hs (by omega) 153 #[.pointer (some ⟨w.heap.size,0,none⟩)] (Zjt Tryz.func153 (by kernel_rfl) rfl) (fun b=>Zdh k (loE b ps l) (hiE b ps l)) (fun W' Be b hb =>
  Zoa W' (loE b ps l) (hiE b ps l) 100000 k w.heap.size (Gz b hb).1 (Gz b hb).2 (by decide) hk ((Be.cell (block_lt_of_cell hc)).trans hc) (L.below (hW.trans (Be.mono hW.size)))) GV (L.below hW))
 have eW:=hd_ (fun W (hW:Below w.heap.size w W) R B b (H:Zmg W R ps l B) (hb:b≤B) (hB:B≤1000)=>Zbv W R ps l B b D H hl hn hp hs (by omega) hb hB (L.below hW))
 have LA:=hd_ (fun W (hW:Below w.heap.size w W) b (hb:b≤1000)=>Zgm W (loE b ps l) 100000 k (Gz b hb).1 (by decide) hk (L.below hW))
 clear rp rl hs hp fh L hi GV Gz;unfold fr fv at eW LA;obtain⟨n,Fk⟩:∃ n,ps.length=n:=⟨_,rfl⟩;rw[Fk] at hn GQ Dd ⊢;clear Fk hl;go_enter Tryz.func81,Tryz.ntmps81
 go_wp2_with fail
 generalize w.alloc (.cells #[.int .i64 k] 3)=W0 at *
 refine cm_ GQ.out ?_;rintro e w1 ⟨rfl,hb⟩;have B1:=hd_ (B0.out.trans (hb.mono B0.out.size));have Mi:=(hb.cell (block_lt_of_cell N0.out)).trans N0.out;have N1:=hd_ Mi;have DZ:¬ ((k:Int)<0):=by omega
 have im:¬ (9<(k:Int)):=by omega
 clear hb GQ N0 B0
 go_wp2_with fail
 refine cm_ (Dd.out _ B1.out N1.out) ?_;rintro e w2 ⟨R,B,m,rfl,hg,hm,hB,hN,hb⟩;have B2:=hd_ (B1.out.trans (hb.mono B1.out.size));have Mh:=(hb.cell (block_lt_of_cell N1.out)).trans N1.out;have N2:=hd_ Mh;have HG:=hd_ hg;have HN:=hd_ hN;clear hb Dd B1 hg hN Mi N1 Mh
 go_wp2_with fail
 refine cm_ (eW.out _ B2.out R B m HG.out hm hB) ?_;rintro e w3 ⟨rfl,hb⟩;have B3:=hd_ (B2.out.trans (hb.mono B2.out.size));have lD:=(hb.cell (block_lt_of_cell N2.out)).trans N2.out;have N3:=hd_ lD;have cz:=Lib.cell?_alloc_some (.cells #[.string (itx (hiE m ps l).num),.string (dec (hiE m ps l).den)] 42) (Lib.cell?_alloc_some (.cells #[.string (itx (loE m ps l).num),.string (dec (loE m ps l).den)] 42) lD);have B4:=hd_ ((B3.out.alloc B3.out.size (.cells #[.string (itx (loE m ps l).num),.string (dec (loE m ps l).den)] 42)).alloc (Nat.le_trans B3.out.size (by simp)) (.cells #[.string (itx (hiE m ps l).num),.string (dec (hiE m ps l).den)] 42))
 clear hb eW B2 HG N2 lD
 go_wp2_with fail
 refine cm_ (LA.out _ B4.out m (by omega)) ?_
 rintro e w4 ⟨rfl,hb⟩;have B5:=hd_ (B4.out.trans (hb.mono B4.out.size));clear hb LA B4 B3 N3 cz
 go_wp2_with fail
 go_ret3
 exact⟨m,rfl,HN.out,B5.out⟩
theorem Zut(w:World)(a1 a2:Option Addr)(c1 c2 n1 n2 k N:Nat)(hN:0<N)(hk:0<k)(im:k≤9)(hs:k<(dec N).size)(fg:(dec N).size≤1000000)(hc:Calls Tryz.prog 81 #[.slice a1 n1 c1,.slice a2 n2 c2,.int .i64 k] w fun e w'=>(∃ m:Int,e = .returned (.tuple #[.int .i64 m,.string (dec N),.int .i64 0]))∧Below w.heap.size w w'):
  Kc Tryz.prog 24 #[.slice a1 n1 c1,.slice a2 n2 c2,.int .i64 k] w (.tuple #[.string ((dec N).extract 0 ((dec N).size-k)++⟨#[46]⟩++(dec N).extract ((dec N).size-k) (dec N).size),.int .i64 0]):=by
 unfold Kc;have HC:=hd_ hc;have HA:=hd_ (fun W=>show Kc Tryz.prog 82 #[.string (dec N)] W (.string (dec N)) from by
  have:=Ze8 W (N:Int)
  rw[Kj,Int.natAbs_natCast] at this;exact this)
 have HS:=hd_ (fun W=>show Kc Tryz.prog 84 #[.string (dec N)] W (.int .i64 1) from by
  have:=Yk W (N:Int)
  rw[Kj,Zfu hN] at this;exact this)
 clear hc hN;generalize dec N=s at *
 obtain⟨z,hz⟩:∃ z,s.size=z:=⟨_,rfl⟩;have Hz:=hd_ hz;rw[hz] at hs fg;clear hz;go_enter Tryz.func24,Tryz.ntmps24
 go_wp2_with fail
 refine cm_ HC.out ?_;rintro e w1 ⟨⟨m,rfl⟩,hb⟩;have B1:=hd_ hb;clear hb HC
 go_wp2_with fail
 refine cm_ (HA.out _) ?_;rintro e w2 ⟨rfl,hb⟩;have B2:=hd_ (B1.out.trans (hb.mono B1.out.size));clear hb HA B1;have hz:=Hz.out;have GJ:¬ ((s.size:Int)≤k):=by rw[hz];omega
 have DZ:(0:Int)<k:=by omega
 have hw:IntKind.i64.wrap ((s.size:Int)-k)=((s.size-k:Nat):Int):=by rw[hz,show (z:Int)-k=((z-k:Nat):Int) by omega];exact iw_ _ (by omega)
 clear hz;have NM:((s.size-k:Nat):Int)≤s.size:=by omega
 have mR:¬ (9223372036854775807<s.size-k+1):=by rw[Hz.out];omega
 have mQ:¬ (9223372036854775807<s.size-k+1+(s.size-(s.size-k))):=by rw[Hz.out];omega
 go_wp2_with fail
 refine RP.wp_region_readers 14 [(2,0),(2,1),(2,2),(2,3),(2,4),(2,5),(2,6),(2,7),(2,8),(2,9),(2,10),(2,11),(2,12),(2,13),(0,14)] (fun _=>True) (by kernel_rfl) (by kernel_rfl) ?_ ?_
 ·trivial
 iterate 14 (refine RP.walkR_any ?_;simp only[Kh,dz_,Kg,tz_];go_big_quiet_step (fail);refine wpQuiet_nil ?_)
 refine RP.walkR_move ?_;simp only[Kh,dz_,Kg,tz_]
 go_wp2_with fail
 simp only[RP.walkR]
 go_wp2_with fail
 refine cm_ (HS.out _) ?_;rintro e w3 ⟨rfl,hb⟩;have B3:=hd_ ((Qh B2.out 1).trans (hb.mono (Qh B2.out 1).size));clear hb HS B2
 go_wp2_with fail
 go_ret2
 exact⟨rfl,B3.out⟩
theorem Zon{n d K:Nat}(hd:n+d≤1056):∀ tl:List (Int×Int),(∀ x∈tl,x.1∈Zfr)→(∀ x∈tl,x.2.natAbs≤K) →
  (LN.sumT (lf (n+d)) tl-2^d*LN.sumT (lf n) tl).natAbs≤tl.length*(K*2^d)
 | [],_,_=>by simp[LN.sumT]
 | x::tl,h,hk=>by
  have ih:=Zon hd tl (fun y hy=>h y (List.mem_cons_of_mem _ hy)) (fun y hy=>hk y (List.mem_cons_of_mem _ hy))
  have hx:=hk x List.mem_cons_self;obtain⟨q,hq,Gh⟩:=Ze7 (h x List.mem_cons_self);have hc:=Zet Gh d (n:=n) hd;have hm:=Nat.div_add_mod (lgN (q:Int) (n+d)) (2^d);have H9:=Nat.mod_lt (lgN (q:Int) (n+d)) (Nat.two_pow_pos d);rw[hc] at hm;generalize hr:lgN (q:Int) (n+d)%2^d=r at *
  have e:LN.sumT (lf (n+d)) (x::tl)-2^d*LN.sumT (lf n) (x::tl)=x.2*(r:Int)+(LN.sumT (lf (n+d)) tl-2^d*LN.sumT (lf n) tl):=by
   simp only[LN.sumT];have e1:((lf (n+d) x.1:Nat):Int)=2^d*((lf n x.1:Nat):Int)+(r:Int):=by
    unfold lf;rw[hq,← hm,Int.natCast_add,Int.natCast_mul,Int.natCast_pow];rfl
   rw[e1]
   grind
  rw[e,List.length_cons,Nat.succ_mul];have h1:(x.2*(r:Int)).natAbs≤K*2^d:=by
   rw[Int.natAbs_mul,Int.natAbs_natCast];exact Nat.mul_le_mul hx (Nat.le_of_lt H9)
  have h2:=Int.natAbs_add_le (x.2*(r:Int)) (LN.sumT (lf (n+d)) tl-2^d*LN.sumT (lf n) tl);omega
theorem Zqq{T1 T0:Int}{m W K:Nat}(h:(T1-m*T0).natAbs≤W)(h0:T0.natAbs≤K):T1.natAbs≤W+m*K:=by
 have h1:((m:Int)*T0).natAbs≤m*K:=by
  rw[Int.natAbs_mul,Int.natAbs_natCast];exact Nat.mul_le_mul_left _ h0
 have h2:T1.natAbs≤(T1-m*T0).natAbs+((m:Int)*T0).natAbs:=by
  have:=Int.natAbs_add_le (T1-m*T0) (m*T0)
  rwa [Int.sub_add_cancel] at this
 omega
theorem Zzp{K m S:Nat}{T1 T0:Int}(af:S≤T1.natAbs)(hcut:(T1-m*T0).natAbs≤100*(K*m))(hT:T0.natAbs≤100*K)(fY:100*(K*m)+m*(100*K)<S):False:=by
 have Gm:=Zqq hcut hT;omega
theorem Qa6:100*(Kb*16777216)+16777216*(100*Kb)<LN.SA:=by unfold Kb LN.SA;decide +kernel
theorem Qcn:Kb≤LN.KA:=by unfold Kb LN.KA;exact Nat.pow_le_pow_right (by decide) (by decide)
theorem Zlz{tl:List (Int×Int)}(h1:∀ x∈tl,x.1∈Za9)(h0:∀ x∈tl,x.2≠0)(hd:(tl.map Prod.fst).Nodup)(hk:∀ x∈tl,x.2.natAbs≤Kb)(hl:tl.length≤100)(gq:tl≠[]):
  0<LN.eLo (lf 1000) tl∨LN.eHi (lf 1000) tl<0:=by
 have af:=Zvm LN.certA_ok h1 hd h0 gq fun x hx=>Nat.le_trans (hk x hx) Qcn
 have hcut:=Zon (n:=1000) (d:=24) (K:=Kb) (by decide) tl (fun x hx=>Zdr (h1 x hx)) hk
 obtain⟨n1,n2,n3,n4⟩:=Zud (lf 1000) Kb tl hk;have hb:=Qa6;rw[show (1000:Nat)+24=1024 from rfl] at hcut
 have e1:((2:Nat)^24)=16777216:=by decide
 have e2:((2:Int)^24)=((16777216:Nat):Int):=by decide
 rw[e1,e2] at hcut;generalize Kb=K at *
 generalize LN.SA=S at *
 generalize LN.sumT (lf 1024) tl=T1 at *
 generalize (16777216:Nat)=m at *
 refine Decidable.byContradiction fun hc=>?_
 have c1:LN.eLo (lf 1000) tl≤0:=Int.not_lt.1 fun h=>hc (.inl h)
 have c2:0≤LN.eHi (lf 1000) tl:=Int.not_lt.1 fun h=>hc (.inr h)
 have hW:tl.length*K≤100*K:=Nat.mul_le_mul_right _ hl;have mX:tl.length*(K*m)≤100*(K*m):=Nat.mul_le_mul_right _ hl;have hT:(LN.sumT (lf 1000) tl).natAbs≤100*K:=by
  generalize LN.sumT (lf 1000) tl=T0 at *
  generalize LN.eLo (lf 1000) tl=lo at *
  generalize LN.eHi (lf 1000) tl=hi at *
  clear hcut af hb e1 e2 mX;omega
 exact Zzp af (Nat.le_trans hcut mX) hT hb
theorem Zun{ps:List Int}{l:List Rat}(h1:∀ p∈ps,p∈Za9)(h2:ps.Nodup)(hk:∀ x∈tlQ ps l,x.2.natAbs≤Kb)(hn:ps.length≤100)(gq:tlQ ps l≠[]):Zai 1000 ps l≠0:=by
 have h:=Zlz (tl:=tlQ ps l) (fun x hx=>h1 _ (Yb hx).1) (fun x hx=>Zol hx) (Zgb h2) hk (Zeh hn) gq
 obtain⟨e1,e2⟩:=Zjx 1000 ps l;unfold Zai;rcases h with h|h
 ·rw[if_pos (e1.2 (Int.le_of_lt h))];decide
 ·split
  ·decide
  ·rw[if_pos (e2.2 (Int.le_of_lt h))];decide
theorem Zi7{k:Nat}{x y:Rat}(h:x≤y):scE k x≤scE k y:=by
 unfold scE Zqr;have h1:x*((1200*10^k:Nat):Rat)≤y*((1200*10^k:Nat):Rat):=Rat.mul_le_mul_of_nonneg_right h (by exact_mod_cast Nat.zero_le _)
 exact Rat.floor_monotone (Rat.add_le_add_right.2 h1)
theorem Zkx{k:Nat}{x y:Rat}:Zdh k x y=true↔scE k x=scE k y:=by
 unfold Zdh;constructor
 ·intro h;have h1:=eq_of_beq h;refine Zjo ?_;exact ByteArray.ext (Array.ext' (by simpa [ByteArray.toList_eq] using h1))
 ·intro h;rw[h];exact beq_self_eq_true _
theorem Zsn{k n m:Nat}{ps:List Int}{l:List Rat}(h:∀ p∈ps,∃ q:Nat,p=q∧(q=2∨q∈Yp))(_hn:n≤1000)(hm:m≤1000)(h1:Zdh k (loE n ps l) (hiE n ps l)=true)(dt:n≤m):
  scE k (loE m ps l)=scE k (loE n ps l)∧Zdh k (loE m ps l) (hiE m ps l)=true:=by
 obtain⟨u1,u2⟩:=Zju (n:=n) (l:=l) h (m-n) (by omega)
 rw[show n+(m-n)=m by omega] at u1 u2
 have h2:=Zkx.1 h1;have h3:=Zue m ps l;have a1:=Zi7 (k:=k) u1;have a2:=Zi7 (k:=k) h3;have a3:=Zi7 (k:=k) u2;refine⟨by omega,Zkx.2 (by omega)⟩
theorem Qar{k n m:Nat}{ps:List Int}{l:List Rat}(h:∀ p∈ps,∃ q:Nat,p=q∧(q=2∨q∈Yp))(hn:n≤1000)(hm:m≤1000)(h1:Zdh k (loE n ps l) (hiE n ps l)=true)(h2:Zdh k (loE m ps l) (hiE m ps l)=true):
  scE k (loE m ps l)=scE k (loE n ps l):=by
 rcases Nat.le_total n m with h3|h3
 ·exact(Zsn h hn hm h1 h3).1
 ·exact(Zsn h hm hn h2 h3).1.symm
/-! The numbers. -/
def kP:List Int:=[2,3]
def kA:List Rat:=[-19,12]
def kB:List Rat:=[-1,1]
theorem Zty:∀ p∈kP,∃ q:Nat,p=q∧(q=2∨q∈Yp):=by
 intro p hp;simp only[kP,List.mem_cons,List.not_mem_nil,or_false] at hp;rcases hp with rfl|rfl
 ·exact⟨2,rfl,.inl rfl⟩
 ·exact⟨3,rfl,.inr (by decide)⟩
theorem Zyh:∀ p∈kP,p∈Zfr:=by decide
theorem Qcp:lgN 3 3=12:=by decide +kernel
theorem Ztx:Zai 9 kP kA=1:=by decide +kernel
theorem Qa8:Zai 8 kP kA=0:=by decide +kernel
theorem Qco:loE 7 kP kA = -1/16:=by decide +kernel
theorem Qcq:hiE 7 kP kA=1/32:=by decide +kernel
theorem Zyg:Zdh 3 (loE 30 kP kB) (hiE 30 kP kB)=true:=by decide +kernel
theorem Zzj:scE 3 (loE 30 kP kB)=701955:=by decide +kernel
theorem Qba:Zam 9 kP kA=[(2,9,dec 512),(3,9,dec 811)]:=by
 have h1:lgN 2 9=512:=by decide +kernel
 have h2:lgN 3 9=811:=by decide +kernel
 show List.filterMap _ [((2:Int),(-19:Rat)),(3,12)]=_
 rw[List.filterMap_cons,List.filterMap_cons];rw[if_neg (by decide +kernel),if_neg (by decide +kernel),h1,h2]
 rfl
theorem Zzi{n:Nat}(h:Zbh (fun b=>Zai b kP kA != 0) n):n=9:=by
 refine Zbh.uniq (T:=fun b=>Zai b kP kA != 0) (fun b hb hx=>?_) h ⟨?_,.inr ?_,by decide⟩
 ·show (Zai (b+1) kP kA != 0)=true
  rw[bne_iff_ne];refine Zj5 (d:=1) Zyh (by omega) ?_
  have n8:(Zai b kP kA != 0)=true:=hx
  rwa [bne_iff_ne] at n8
 ·show (Zai 9 kP kA != 0)=true
  rw[Ztx];rfl
 ·show (Zai 8 kP kA != 0)=false
  rw[Qa8];rfl
theorem Qa9{n:Nat}(h:Zbh (fun b=>Zdh 3 (loE b kP kB) (hiE b kP kB)) n):scE 3 (loE n kP kB)=701955:=by
 rw[Qar Zty (show 30≤1000 by decide) h.le Zyg h.at_,Zzj]
theorem Qcr:Zdh 3 (loE 1000 kP kB) (hiE 1000 kP kB)=true:=(Zsn Zty (by decide) (by decide) Zyg (by decide)).2
theorem Qa7:Zai 1000 kP kA≠0:=Zj5 (n:=9) (d:=991) Zyh (by decide) (by rw[Ztx];decide)
theorem Znc(w:World)(n:Int)(d:Nat)(hn : -1000≤n)(Do:n≤1000)(hd:0<d)(Fn:d≤1000)(L:Qd w):
  Kc Tryz.prog 65 #[.int .i64 n,.int .i64 d] w (fr (mkRat n d)):=by
 have hz:∀ x:Nat,x≤2000→Num x:=fun x hx=>Zgp (Nat.lt_of_le_of_lt hx (Nat.lt_of_lt_of_le (show 2000<2^11 by decide) (Nat.pow_le_pow_right (by decide) (by rw[k10];decide))))
 have gj:=hd_ ((Below.refl w.heap.size w).alloc nr_ (.cells #[.string ⟨#[]⟩,.string ⟨#[]⟩] 42));have gi:Hid ((w.alloc (.cells #[.string ⟨#[]⟩,.string ⟨#[]⟩] 42)).heap[w.heap.size]?=some (.cells #[.string ⟨#[]⟩,.string ⟨#[]⟩] 42 (0,0))):=heap_alloc_new w _;have HO:=hd_ (Zoz _ n d (by omega) (by omega) (by omega) (hz _ (by omega)) (hz _ (by omega)) hd (hz _ (by omega)) (hz _ (by omega)) (L.below gj.out))
 rw[Zc2 n d (by omega)] at HO
 clear L hz;generalize mkRat n d=q at *
 unfold Kc;unfold fr fv at HO ⊢;go_enter Tryz.func65,Tryz.ntmps65
 go_wp2_with fail
 generalize w.alloc (.cells #[.string ⟨#[]⟩,.string ⟨#[]⟩] 42)=W0 at *
 refine cm_ HO.out ?_;rintro e w1 ⟨rfl,hb⟩;have Gw:=Kk gi.out hb;have cu:=Kl Gw (.cells #[.string (itx q.num),.string (dec q.den)] 42);have B2:=hd_ ((gj.out.trans (hb.mono gj.out.size)).alloc (Nat.le_trans gj.out.size hb.size) (.cells #[.string (itx q.num),.string (dec q.den)] 42));obtain⟨k0,k1,f0,f1⟩:=Ka cu;clear hb HO gi gj Gw cu;go_wp2;obtain⟨c0,c1,hb3⟩:=Ks (B:=w.heap.size) (.string (itx q.num)) (.string (dec q.den)) k0 k1 nr_ B2.out;generalize ((w1.alloc (.cells #[.string (itx q.num),.string (dec q.den)] 42)).setCell ⟨w.heap.size,0,none⟩ (.string (itx q.num))).setCell ⟨w.heap.size,1,none⟩ (.string (dec q.den))=w9 at *
 exact bodyPost_ret (v := .agg #[.string (itx q.num),.string (dec q.den)]) (by simp[results,Tryz.results65,go_sem,c0,c1]) rfl ⟨rfl,hb3⟩
theorem Zpc : (Tryz.prog.fieldsOf 27).toList.map (fun f => (f.name, f.type, f.offset)) = [("Prime", 3, 0), ("Bits", 3, 1), ("Low", 25, 2)] := by kernel_rfl
theorem Zsd:Tryz.prog.stoodInHeld 27=false:=by kernel_rfl
theorem Zzo:Tryz.prog.eqGuardType Tryz.prog.depth 27=false:=by kernel_rfl
theorem Zg3 (W : World) (d : Nat) (p n p' n' : Int) (s s' : ByteArray) (fs : List Field) (h : fs.map (fun f => (f.name, f.type, f.offset)) = [("Prime", 3, 0), ("Bits", 3, 1), ("Low", 25, 2)]) :
  (Op.eqFields (d+1) #[.int .i64 p,.int .i64 n,.string s] #[.int .i64 p',.int .i64 n',.string s'] fs).run Tryz.prog W = .ok (p==p'&&n==n'&&s.toList==s'.toList) W:=by
 obtain⟨f,g,k,rfl⟩:∃ f g k,fs=[f,g,k]:=by
  have hl:=congrArg List.length h;rw[List.length_map] at hl;cases fs with
  | nil=>simp at hl
  | cons f fs =>
   cases fs with
   | nil=>simp at hl
   | cons g fs =>
    cases fs with
    | nil=>simp at hl
    | cons k fs =>
     cases fs with
     | nil=>exact⟨f,g,k,rfl⟩
     | cons x fs=>simp at hl
 simp only[List.map_cons,List.map_nil,List.cons.injEq,Prod.mk.injEq,and_true] at h;obtain⟨⟨h1,h2,h3⟩,⟨h4,h5,h6⟩,h7,h8,h9⟩:=h;have hu:=Tryz.underlying25;have hv:=Tryz.underlying3;simp[Op.eqFields,h1,h2,h3,h4,h5,h6,h7,h8,h9,go_sem,hu,hv]
 by_cases q1:p=p'<;>by_cases q2:n=n'<;>by_cases q3:s.toList=s'.toList<;>simp[q1,q2,q3]
theorem Zop:Tryz.prog.underlying 27=some (.struct (Tryz.prog.fieldsOf 27)):=by
 have h:=Tryz.underlying27;unfold Program.fieldsOf;rw[h]
theorem Zub(W:World)(p n p' n':Int)(s s':ByteArray):
  (binOp .eql 27 (.agg #[.int .i64 p,.int .i64 n,.string s]) (.agg #[.int .i64 p',.int .i64 n',.string s'])).run Tryz.prog W = .ok (.bool (p==p'&&n==n'&&s.toList==s'.toList)) W:=by
 rw[run_eql_struct,show (10000:Nat)=9998+1+1 from rfl,run_equalIn_agg (ht:=Zop) (hp:=Zsd),Zg3 W _ p n p' n' s s' _ Zpc]
 rfl
theorem Zg1(W:World)(op:BinOp)(x y:Operand)(xs ys:Array Value):(eqGuard op 27 x y (.agg xs) (.agg ys)).run Tryz.prog W = .ok () W:=run_eqGuard_agg W op _ x y xs ys Zzo
theorem Zm5{C:World→Prop}{K:Act→Prop}{a:Act}{o:Oper}(x y:Operand)(r:TypeId)(p n p' n':Int)(s s':ByteArray)(h:o.op = .binOp .eql 27 x y r)(hx:a.eval x = .agg #[.int .i64 p,.int .i64 n,.string s])(hy:a.eval y = .agg #[.int .i64 p',.int .i64 n',.string s'])
  (hk:K (a.put o.dst (.bool (p==p'&&n==n'&&s.toList==s'.toList)))):o.quiet Tryz.prog a C K :=
 ⟨_,fun w _=>by
  unfold Oper.quietAt execOp;rw[h];simp only[Sem.run_bind,hx,hy,Zg1,Zub,Result.andThen_ok,Sem.run_pure];exact⟨rfl,rfl⟩,hk⟩
theorem Zgy(W:World)(n:Int)(d:Nat)(q:Rat)(hq:mkRat n d=q)(hn : -1000≤n)(Do:n≤1000)(hd:0<d)(Fn:d≤1000)(L:Qd W):
  Kc Tryz.prog 65 #[.int .i64 n,.int .i64 d] W (fr q):=by rw[← hq];exact Znc W n d hn Do hd Fn L
theorem Ztz:Ziv kP:=by
 intro x hx;simp only[kP,List.mem_cons,List.not_mem_nil,or_false] at hx;rcases hx with rfl|rfl<;>decide
theorem Qbb:∀ q∈kA,Sm 30 q:=by
 intro q hq;simp only[kA,List.mem_cons,List.not_mem_nil,or_false] at hq;rcases hq with rfl|rfl<;>exact⟨by decide +kernel,by decide +kernel⟩
theorem Qcs:∀ q∈kB,Sm 30 q:=by
 intro q hq;simp only[kB,List.mem_cons,List.not_mem_nil,or_false] at hq;rcases hq with rfl|rfl<;>exact⟨by decide +kernel,by decide +kernel⟩
theorem Zno:Vo kP=0:=by decide +kernel
theorem Qbc:kA.any nzQ=true:=by decide +kernel
theorem Zq1(w:World)(L:Qd w):Kc Tryz.prog 15 #[] w (.bool true):=by
 unfold Kc;have HL:=hd_ L;have HO:=hd_ (Qbo w 3 3 (.inr (by decide)) (by decide +kernel) (by decide) L)
 rw[show ((3:Nat):Int)=3 from rfl,Qcp] at HO
 unfold Qcy at HO;clear L;generalize Ex:dec 12=b12 at *
 have Dg:=hd_ Ex;clear Ex;obtain⟨q1,GR⟩:∃ q:Rat,q = -19:=⟨_,rfl⟩;obtain⟨q2,Gh⟩:∃ q:Rat,q=12:=⟨_,rfl⟩;obtain⟨q3,bh⟩:∃ q:Rat,q = -1:=⟨_,rfl⟩;obtain⟨q4,CT⟩:∃ q:Rat,q=1:=⟨_,rfl⟩;obtain⟨q5,hq5⟩:∃ q:Rat,q = -1/16:=⟨_,rfl⟩;obtain⟨q6,hq6⟩:∃ q:Rat,q=1/32:=⟨_,rfl⟩;have N1:=hd_ (fun W (hW:Below w.heap.size w W)=>Zgy W (-19) 1 q1 (by rw[GR];decide +kernel) (by decide) (by decide) (by decide) (by decide) (HL.out.below hW))
 have N2:=hd_ (fun W (hW:Below w.heap.size w W)=>Zgy W 12 1 q2 (by rw[Gh];decide +kernel) (by decide) (by decide) (by decide) (by decide) (HL.out.below hW))
 have N3:=hd_ (fun W (hW:Below w.heap.size w W)=>Zgy W (-1) 1 q3 (by rw[bh];decide +kernel) (by decide) (by decide) (by decide) (by decide) (HL.out.below hW))
 have N4:=hd_ (fun W (hW:Below w.heap.size w W)=>Zgy W 1 1 q4 (by rw[CT];decide +kernel) (by decide) (by decide) (by decide) (by decide) (HL.out.below hW))
 have N5:=hd_ (fun W (hW:Below w.heap.size w W)=>Zgy W (-1) 16 q5 (by rw[hq5];decide +kernel) (by decide) (by decide) (by decide) (by decide) (HL.out.below hW))
 have N6:=hd_ (fun W (hW:Below w.heap.size w W)=>Zgy W 1 32 q6 (by rw[hq6];decide +kernel) (by decide) (by decide) (by decide) (by decide) (HL.out.below hW))
 have hA:kA=[q1,q2]:=by rw[GR,Gh];rfl
 have hB:kB=[q3,q4]:=by rw[bh,CT];rfl
 have HD:=hd_ (fun W (hW:Below w.heap.size w W) a0 a1 (rp:Rd W a0 (Qt kP)) (rl:Rd W a1 (Kt [q1,q2]))=>Zlv W a0 a1 2 2 30 kP kA rp (by rw[hA];exact rl) Ztz rfl (by decide) Zty Qbb (by decide) Zno Qbc Qa7 (HL.out.below hW))
 have HE:=hd_ (fun W (hW:Below w.heap.size w W) a0 a1 (rp:Rd W a0 (Qt kP)) (rl:Rd W a1 (Kt [q1,q2]))=>Zrc W a0 a1 2 2 30 7 kP kA rp (by rw[hA];exact rl) Ztz rfl (by decide) Zty Qbb (by decide) Zno (by decide) (HL.out.below hW))
 rw[Qco,Qcq,← hq5,← hq6] at HE;have fY:3<(dec 701955).size:=by rw[Ky];decide +kernel
 have HC:=hd_ (fun W (hW:Below w.heap.size w W) a0 a1 (rp:Rd W a0 (Qt kP)) (rl:Rd W a1 (Kt [q3,q4]))=>Zut W a0 a1 2 2 2 2 3 701955 (by decide) (by decide) (by decide) fY (by rw[Ky];decide +kernel) ((Zrh W a0 a1 2 2 30 3 kP kB rp (by rw[hB];exact rl) Ztz rfl (by decide) Zty Qcs (by decide) Zno (by decide) Qcr (HL.out.below hW)).mono fun e w' h=>by
  obtain⟨n,he,hl,hb⟩:=h;refine⟨⟨n,?_⟩,hb⟩;rw[Qa9 hl,show itx (701955:Int)=dec 701955 from Kj 701955] at he
  exact he))
 have mP:(dec 701955).extract 0 ((dec 701955).size-3)++⟨#[46]⟩++(dec 701955).extract ((dec 701955).size-3) (dec 701955).size=⟨#[55,48,49,46,57,53,53]⟩:=by
  have:((dec 701955).extract 0 ((dec 701955).size-3)++⟨#[46]⟩++(dec 701955).extract ((dec 701955).size-3) (dec 701955).size).data = #[55,48,49,46,57,53,53]:=by decide +kernel
  exact ByteArray.ext this
 rw[mP] at HC;have pF:=hd_ hq5;have pE:=hd_ hq6;clear GR Gh bh CT hq5 hq6 hA hB fY mP;unfold fr fv at N1 N2 N3 N4 N5 N6 HE;go_enter Tryz.func15,Tryz.ntmps15
 go_wp2_with fail
 refine cm_ HO.out ?_;rintro e w1 ⟨rfl,hb⟩;have B1:=hd_ (hb.alloc hb.size (.cells #[.int .i64 3,.int .i64 3,.string b12] 27));have F1:=hd_ (Qq w1 #[.int .i64 3,.int .i64 3,.string b12] 27 _ rfl);clear hb HO
 go_wp2_with fail
 have Gy:(w1.alloc (.cells #[.int .i64 3,.int .i64 3,.string b12] 27)).heap.size=w1.heap.size+1:=by simp
 rw[← Gy];generalize w1.heap.size=gb at *
 generalize w1.alloc (.cells #[.int .i64 3,.int .i64 3,.string b12] 27)=w1b at *
 clear Gy;have B2:=hd_ (B1.out.alloc B1.out.size (.cells #[.int .i64 2,.int .i64 3] 3));have FP:Hid ((w1b.alloc (.cells #[.int .i64 2,.int .i64 3] 3)).heap[w1b.heap.size]?=some (.cells #[.int .i64 2,.int .i64 3] 3 (0,0))):=heap_alloc_new w1b _;replace F1:=hd_ (Kl F1.out (.cells #[.int .i64 2,.int .i64 3] 3));clear B1;generalize hg_:w1b.heap.size=gp at *
 generalize hw_:w1b.alloc (.cells #[.int .i64 2,.int .i64 3] 3)=w2 at *
 clear hg_ hw_;refine cm_ (N1.out _ B2.out) ?_;rintro e_ w3 ⟨rfl,H7⟩;have B3:=hd_ (B2.out.trans (H7.mono B2.out.size));replace F1:=hd_ (Kd F1.out H7 nr_);replace FP:=hd_ (Kd FP.out H7 nr_);clear B2;clear H7
 go_wp2_with fail
 refine cm_ (N2.out _ B3.out) ?_;rintro e_ w4 ⟨rfl,H7⟩;have B4:=hd_ (B3.out.trans (H7.mono B3.out.size));replace F1:=hd_ (Kd F1.out H7 nr_);replace FP:=hd_ (Kd FP.out H7 nr_);clear B3;clear H7
 go_wp2_with fail
 have B5:=hd_ (B4.out.alloc B4.out.size (.cells #[.string (itx q1.num),.string (dec q1.den),.string (itx q2.num),.string (dec q2.den)] 42));have FA:Hid ((w4.alloc (.cells #[.string (itx q1.num),.string (dec q1.den),.string (itx q2.num),.string (dec q2.den)] 42)).heap[w4.heap.size]?=some (.cells #[.string (itx q1.num),.string (dec q1.den),.string (itx q2.num),.string (dec q2.den)] 42 (0,0))):=heap_alloc_new w4 _;replace F1:=hd_ (Kl F1.out (.cells #[.string (itx q1.num),.string (dec q1.den),.string (itx q2.num),.string (dec q2.den)] 42));replace FP:=hd_ (Kl FP.out (.cells #[.string (itx q1.num),.string (dec q1.den),.string (itx q2.num),.string (dec q2.den)] 42));clear B4;generalize hg_:w4.heap.size=ga at *
 generalize hw_:w4.alloc (.cells #[.string (itx q1.num),.string (dec q1.den),.string (itx q2.num),.string (dec q2.den)] 42)=w5 at *
 clear hg_ hw_;refine cm_ (HD.out _ B5.out _ _ (Zj FP.out) (Zj FA.out)) ?_;rintro e_ w6 ⟨n_,a_,c_,he_,hl_,hr_,H7⟩;have B6:=hd_ (B5.out.trans (H7.mono B5.out.size));replace F1:=hd_ (Kd F1.out H7 nr_);replace FP:=hd_ (Kd FP.out H7 nr_);replace FA:=hd_ (Kd FA.out H7 nr_);clear B5;clear HD;obtain rfl:=Zzi hl_;rw[Ztx,Qba] at he_;rw[Qba] at hr_;have NO:e_ = .returned (.tuple #[.agg #[.int .i64 1,.int .i64 9,.slice a_ 2 c_],.int .i64 0]):=he_;subst NO;have HR:=hd_ hr_;clear he_ hl_ hr_ H7
 go_wp2_with fail
 have B7:=hd_ (B6.out.alloc B6.out.size (.cells #[.int .i64 1,.int .i64 9,.slice a_ 2 c_] 51));have FC:Hid ((w6.alloc (.cells #[.int .i64 1,.int .i64 9,.slice a_ 2 c_] 51)).heap[w6.heap.size]?=some (.cells #[.int .i64 1,.int .i64 9,.slice a_ 2 c_] 51 (0,0))):=heap_alloc_new w6 _;replace F1:=hd_ (Kl F1.out (.cells #[.int .i64 1,.int .i64 9,.slice a_ 2 c_] 51));replace FP:=hd_ (Kl FP.out (.cells #[.int .i64 1,.int .i64 9,.slice a_ 2 c_] 51));replace FA:=hd_ (Kl FA.out (.cells #[.int .i64 1,.int .i64 9,.slice a_ 2 c_] 51));replace HR:=hd_ (HR.out.below ((Below.refl w6.heap.size w6).alloc nr_ (.cells #[.int .i64 1,.int .i64 9,.slice a_ 2 c_] 51)) nr_);clear B6;generalize hg_:w6.heap.size=gc at *
 generalize hw_:w6.alloc (.cells #[.int .i64 1,.int .i64 9,.slice a_ 2 c_] 51)=w7 at *
 clear hg_ hw_;clear FA;refine cm_ (N1.out _ B7.out) ?_;rintro e_ w8 ⟨rfl,H7⟩;have B8:=hd_ (B7.out.trans (H7.mono B7.out.size));replace F1:=hd_ (Kd F1.out H7 nr_);replace FP:=hd_ (Kd FP.out H7 nr_);replace FC:=hd_ (Kd FC.out H7 nr_);replace HR:=hd_ (HR.out.below H7 nr_);clear B7;clear H7
 go_wp2_with fail
 refine cm_ (N2.out _ B8.out) ?_;rintro e_ w9 ⟨rfl,H7⟩;have B9:=hd_ (B8.out.trans (H7.mono B8.out.size));replace F1:=hd_ (Kd F1.out H7 nr_);replace FP:=hd_ (Kd FP.out H7 nr_);replace FC:=hd_ (Kd FC.out H7 nr_);replace HR:=hd_ (HR.out.below H7 nr_);clear B8;clear H7
 go_wp2_with fail
 have Jn:=hd_ (B9.out.alloc B9.out.size (.cells #[.string (itx q1.num),.string (dec q1.den),.string (itx q2.num),.string (dec q2.den)] 42));have FA:Hid ((w9.alloc (.cells #[.string (itx q1.num),.string (dec q1.den),.string (itx q2.num),.string (dec q2.den)] 42)).heap[w9.heap.size]?=some (.cells #[.string (itx q1.num),.string (dec q1.den),.string (itx q2.num),.string (dec q2.den)] 42 (0,0))):=heap_alloc_new w9 _;replace F1:=hd_ (Kl F1.out (.cells #[.string (itx q1.num),.string (dec q1.den),.string (itx q2.num),.string (dec q2.den)] 42));replace FP:=hd_ (Kl FP.out (.cells #[.string (itx q1.num),.string (dec q1.den),.string (itx q2.num),.string (dec q2.den)] 42));replace FC:=hd_ (Kl FC.out (.cells #[.string (itx q1.num),.string (dec q1.den),.string (itx q2.num),.string (dec q2.den)] 42));replace HR:=hd_ (HR.out.below ((Below.refl w9.heap.size w9).alloc nr_ (.cells #[.string (itx q1.num),.string (dec q1.den),.string (itx q2.num),.string (dec q2.den)] 42)) nr_);clear B9;generalize hg_:w9.heap.size=ga2 at *
 generalize hw_:w9.alloc (.cells #[.string (itx q1.num),.string (dec q1.den),.string (itx q2.num),.string (dec q2.den)] 42)=w10 at *
 clear hg_ hw_;refine cm_ (HE.out _ Jn.out _ _ (Zj FP.out) (Zj FA.out)) ?_;rintro e_ w11 ⟨rfl,H7⟩;have L9:=hd_ (Jn.out.trans (H7.mono Jn.out.size));replace F1:=hd_ (Kd F1.out H7 nr_);replace FP:=hd_ (Kd FP.out H7 nr_);replace FC:=hd_ (Kd FC.out H7 nr_);replace FA:=hd_ (Kd FA.out H7 nr_);replace HR:=hd_ (HR.out.below H7 nr_);clear Jn;clear H7 HE FA N1 N2
 go_wp2_with fail
 have me:Hid ((w11.alloc (.cells #[.string (itx q5.num),.string (dec q5.den)] 42)).heap.size=w11.heap.size+1):=by show _=_;simp
 have L0:=hd_ (L9.out.alloc L9.out.size (.cells #[.string (itx q5.num),.string (dec q5.den)] 42));have F5:Hid ((w11.alloc (.cells #[.string (itx q5.num),.string (dec q5.den)] 42)).heap[w11.heap.size]?=some (.cells #[.string (itx q5.num),.string (dec q5.den)] 42 (0,0))):=heap_alloc_new w11 _;replace F1:=hd_ (Kl F1.out (.cells #[.string (itx q5.num),.string (dec q5.den)] 42));replace FP:=hd_ (Kl FP.out (.cells #[.string (itx q5.num),.string (dec q5.den)] 42));replace FC:=hd_ (Kl FC.out (.cells #[.string (itx q5.num),.string (dec q5.den)] 42));replace HR:=hd_ (HR.out.below ((Below.refl w11.heap.size w11).alloc nr_ (.cells #[.string (itx q5.num),.string (dec q5.den)] 42)) nr_);clear L9;generalize hg_:w11.heap.size=g5 at *
 generalize hw_:w11.alloc (.cells #[.string (itx q5.num),.string (dec q5.den)] 42)=w12 at *
 clear hg_ hw_;have Jm:=hd_ (L0.out.alloc L0.out.size (.cells #[.string (itx q6.num),.string (dec q6.den)] 42));have F6:Hid ((w12.alloc (.cells #[.string (itx q6.num),.string (dec q6.den)] 42)).heap[g5+1]?=some (.cells #[.string (itx q6.num),.string (dec q6.den)] 42 (0,0))):=by
  have h_:=heap_alloc_new w12 (.cells #[.string (itx q6.num),.string (dec q6.den)] 42);rw[me.out] at h_;exact h_
 replace F1:=hd_ (Kl F1.out (.cells #[.string (itx q6.num),.string (dec q6.den)] 42));replace FP:=hd_ (Kl FP.out (.cells #[.string (itx q6.num),.string (dec q6.den)] 42));replace FC:=hd_ (Kl FC.out (.cells #[.string (itx q6.num),.string (dec q6.den)] 42));replace F5:=hd_ (Kl F5.out (.cells #[.string (itx q6.num),.string (dec q6.den)] 42));replace HR:=hd_ (HR.out.below ((Below.refl w12.heap.size w12).alloc nr_ (.cells #[.string (itx q6.num),.string (dec q6.den)] 42)) nr_);clear L0 me;generalize hw_:w12.alloc (.cells #[.string (itx q6.num),.string (dec q6.den)] 42)=w13 at *
 clear hw_;refine cm_ (N3.out _ Jm.out) ?_;rintro e_ w14 ⟨rfl,H7⟩;have Jl:=hd_ (Jm.out.trans (H7.mono Jm.out.size));replace F1:=hd_ (Kd F1.out H7 nr_);replace FP:=hd_ (Kd FP.out H7 nr_);replace FC:=hd_ (Kd FC.out H7 nr_);replace F5:=hd_ (Kd F5.out H7 nr_);replace F6:=hd_ (Kd F6.out H7 nr_);replace HR:=hd_ (HR.out.below H7 nr_);clear Jm;clear H7
 go_wp2_with fail
 refine cm_ (N4.out _ Jl.out) ?_;rintro e_ w15 ⟨rfl,H7⟩;have LZ:=hd_ (Jl.out.trans (H7.mono Jl.out.size));replace F1:=hd_ (Kd F1.out H7 nr_);replace FP:=hd_ (Kd FP.out H7 nr_);replace FC:=hd_ (Kd FC.out H7 nr_);replace F5:=hd_ (Kd F5.out H7 nr_);replace F6:=hd_ (Kd F6.out H7 nr_);replace HR:=hd_ (HR.out.below H7 nr_);clear Jl;clear H7
 go_wp2_with fail
 have Jk:=hd_ (LZ.out.alloc LZ.out.size (.cells #[.string (itx q3.num),.string (dec q3.den),.string (itx q4.num),.string (dec q4.den)] 42));have FA:Hid ((w15.alloc (.cells #[.string (itx q3.num),.string (dec q3.den),.string (itx q4.num),.string (dec q4.den)] 42)).heap[w15.heap.size]?=some (.cells #[.string (itx q3.num),.string (dec q3.den),.string (itx q4.num),.string (dec q4.den)] 42 (0,0))):=heap_alloc_new w15 _;replace F1:=hd_ (Kl F1.out (.cells #[.string (itx q3.num),.string (dec q3.den),.string (itx q4.num),.string (dec q4.den)] 42));replace FP:=hd_ (Kl FP.out (.cells #[.string (itx q3.num),.string (dec q3.den),.string (itx q4.num),.string (dec q4.den)] 42));replace FC:=hd_ (Kl FC.out (.cells #[.string (itx q3.num),.string (dec q3.den),.string (itx q4.num),.string (dec q4.den)] 42));replace F5:=hd_ (Kl F5.out (.cells #[.string (itx q3.num),.string (dec q3.den),.string (itx q4.num),.string (dec q4.den)] 42));replace F6:=hd_ (Kl F6.out (.cells #[.string (itx q3.num),.string (dec q3.den),.string (itx q4.num),.string (dec q4.den)] 42));replace HR:=hd_ (HR.out.below ((Below.refl w15.heap.size w15).alloc nr_ (.cells #[.string (itx q3.num),.string (dec q3.den),.string (itx q4.num),.string (dec q4.den)] 42)) nr_);clear LZ;generalize hg_:w15.heap.size=ga3 at *
 generalize hw_:w15.alloc (.cells #[.string (itx q3.num),.string (dec q3.den),.string (itx q4.num),.string (dec q4.den)] 42)=w16 at *
 clear hg_ hw_;refine cm_ (HC.out _ Jk.out _ _ (Zj FP.out) (Zj FA.out)) ?_;rintro e_ w17 ⟨rfl,H7⟩;have AP:=hd_ (Jk.out.trans (H7.mono Jk.out.size));replace F1:=hd_ (Kd F1.out H7 nr_);replace FP:=hd_ (Kd FP.out H7 nr_);replace FC:=hd_ (Kd FC.out H7 nr_);replace F5:=hd_ (Kd F5.out H7 nr_);replace F6:=hd_ (Kd F6.out H7 nr_);replace FA:=hd_ (Kd FA.out H7 nr_);replace HR:=hd_ (HR.out.below H7 nr_);clear Jk;clear H7 HC FA N3 N4 FP
 go_wp2_with fail
 obtain⟨k0,k1,k2,-⟩:=Ki F1.out;obtain⟨k3,k4,k5,-⟩:=Ki FC.out;obtain⟨k6,k7,-,-⟩:=Ka F5.out;obtain⟨k8,k9,-,-⟩:=Ka F6.out;obtain⟨br,orr,rfl,hbr,gH⟩:=HR.out.open (by decide)
 have kr:w17.cell? ⟨br,orr+5,none⟩=some (.string (dec 811)):=gH 5 _ rfl;have q0:=NW.cell k0;have q1:=NW.cell k1;have q2:=NW.cell k2;have q3:=NW.cell k3;have q4:=NW.cell k4;have nQ:=NW.cell k5;have nP:=NW.cell k6;have q7:=NW.cell k7;have q8:=NW.cell k8;have q9:=NW.cell k9;have qr:=NW.cell kr;have iW:(dec 811)=⟨#[56,49,49]⟩:=by
  have:(dec 811).data = #[56,49,49]:=by decide +kernel
  exact ByteArray.ext this
 have Me:b12=⟨#[49,50]⟩:=by
  rw[← Dg.out];have:(dec 12).data = #[49,50]:=by decide +kernel
  exact ByteArray.ext this
 rw[iW] at qr;rw[Me] at q2;have gk:Nonempty (NW w17):=⟨⟨w17,Below.refl _ _⟩⟩;have I:Hid (Below w17.heap.size w17 w17.drew):=(Below.refl _ _).drew;clear k0 k1 k2 k3 k4 k5 k6 k7 k8 k9 kr gH iW Me hbr HR F1 FC F5 F6;refine RP.wp_region_readers 57 [(2,0),(2,1),(2,2),(1,3),(2,4),(2,5),(2,6),(2,7),(2,8),(2,9),(2,10),(2,11),(2,12),(1,13),(2,14),(2,15),(2,16),(2,17),(1,18),(2,19),(2,20),(2,21),(2,22),(1,23),(2,24),(2,25),(2,26),(2,27),(2,28),(1,29),(2,30),(2,31),(1,32),(2,33),(2,34),(2,35),(2,36),(2,37),(2,38),(2,39),(1,40),(0,41),(2,42),(2,43),(2,44),(1,45),(0,46),(2,47),(2,48),(2,49),(2,50),(2,51),(2,52),(2,53),(2,54),(2,55),(2,56),(0,57)] (fun w'=>∃ p:NW w17,w'=p.w) (by kernel_rfl) (by kernel_rfl) ?_ ?_
 ·exact⟨⟨_,I.out⟩,rfl⟩
 refine RP.walkR_any ?_;simp only[dz_,Kg,tz_]
 first | go_big_quiet_step (fail) | quiet_step (fail)
 refine wpQuiet_nil ?_;refine RP.walkR_any ?_;simp only[Kh,dz_,Kg,tz_]
 first | go_big_quiet_step (fail) | quiet_step (fail)
 refine wpQuiet_nil ?_;refine RP.walkR_any ?_;simp only[Kh,dz_,Kg,tz_]
 first | go_big_quiet_step (fail) | quiet_step (fail)
 refine wpQuiet_nil ?_;refine RP.walkR_read ?_;simp only[Kh,dz_,Kg,tz_]
 first | go_big_quiet_step (fail) | quiet_step (fail)
 refine wpQuiet_nil ?_;refine RP.walkR_any ?_;simp only[Kh,dz_,Kg,tz_]
 first | go_big_quiet_step (fail) | quiet_step (fail)
 refine wpQuiet_nil ?_;refine RP.walkR_any ?_;simp only[Kh,dz_,Kg,tz_];refine BigFrame.wpQuiet_want rfl fun K hK=>Zm5 _ _ _ 3 3 3 3 _ _ rfl rfl rfl (hK _ ?_)
 refine wpQuiet_nil ?_;refine RP.walkR_any ?_;simp only[Kh,dz_,Kg,tz_]
 first | go_big_quiet_step (fail) | quiet_step (fail)
 refine wpQuiet_nil ?_;refine RP.walkR_any ?_;simp only[Kh,dz_,Kg,tz_]
 first | go_big_quiet_step (fail) | quiet_step (fail)
 refine wpQuiet_nil ?_;refine RP.walkR_any ?_;simp only[Kh,dz_,Kg,tz_]
 first | go_big_quiet_step (fail) | quiet_step (fail)
 refine wpQuiet_nil ?_;refine RP.walkR_any ?_;simp only[Kh,dz_,Kg,tz_]
 first | go_big_quiet_step (fail) | quiet_step (fail)
 refine wpQuiet_nil ?_;refine RP.walkR_any ?_;simp only[Kh,dz_,Kg,tz_]
 first | go_big_quiet_step (fail) | quiet_step (fail)
 refine wpQuiet_nil ?_;refine RP.walkR_any ?_;simp only[Kh,dz_,Kg,tz_]
 first | go_big_quiet_step (fail) | quiet_step (fail)
 refine wpQuiet_nil ?_;refine RP.walkR_any ?_;simp only[Kh,dz_,Kg,tz_]
 first | go_big_quiet_step (fail) | quiet_step (fail)
 refine wpQuiet_nil ?_;refine RP.walkR_read ?_;simp only[Kh,dz_,Kg,tz_]
 first | go_big_quiet_step (fail) | quiet_step (fail)
 refine wpQuiet_nil ?_;refine RP.walkR_any ?_;simp only[Kh,dz_,Kg,tz_]
 first | go_big_quiet_step (fail) | quiet_step (fail)
 refine wpQuiet_nil ?_;refine RP.walkR_any ?_;simp only[Kh,dz_,Kg,tz_]
 first | go_big_quiet_step (fail) | quiet_step (fail)
 refine wpQuiet_nil ?_;refine RP.walkR_any ?_;simp only[Kh,dz_,Kg,tz_]
 first | go_big_quiet_step (fail) | quiet_step (fail)
 refine wpQuiet_nil ?_;refine RP.walkR_any ?_;simp only[Kh,dz_,Kg,tz_]
 first | go_big_quiet_step (fail) | quiet_step (fail)
 refine wpQuiet_nil ?_;refine RP.walkR_read ?_;simp only[Kh,dz_,Kg,tz_]
 first | go_big_quiet_step (fail) | quiet_step (fail)
 refine wpQuiet_nil ?_;refine RP.walkR_any ?_;simp only[Kh,dz_,Kg,tz_]
 first | go_big_quiet_step (fail) | quiet_step (fail)
 refine wpQuiet_nil ?_;refine RP.walkR_any ?_;simp only[Kh,dz_,Kg,tz_]
 first | go_big_quiet_step (fail) | quiet_step (fail)
 refine wpQuiet_nil ?_;refine RP.walkR_any ?_;simp only[Kh,dz_,Kg,tz_]
 first | go_big_quiet_step (fail) | quiet_step (fail)
 refine wpQuiet_nil ?_;refine RP.walkR_any ?_;simp only[Kh,dz_,Kg,tz_]
 first | go_big_quiet_step (fail) | quiet_step (fail)
 refine wpQuiet_nil ?_;refine RP.walkR_read ?_;simp only[Kh,dz_,Kg,tz_]
 first | go_big_quiet_step (fail) | quiet_step (fail)
 refine wpQuiet_nil ?_;refine RP.walkR_any ?_;simp only[Kh,dz_,Kg,tz_]
 first | go_big_quiet_step (fail) | quiet_step (fail)
 refine wpQuiet_nil ?_;refine RP.walkR_any ?_;simp only[Kh,dz_,Kg,tz_]
 first | go_big_quiet_step (fail) | quiet_step (fail)
 refine wpQuiet_nil ?_;refine RP.walkR_any ?_;simp only[Kh,dz_,Kg,tz_]
 first | go_big_quiet_step (fail) | quiet_step (fail)
 refine wpQuiet_nil ?_;refine RP.walkR_any ?_;simp only[Kh,dz_,Kg,tz_]
 first | go_big_quiet_step (fail) | quiet_step (fail)
 refine wpQuiet_nil ?_;refine RP.walkR_any ?_;simp only[Kh,dz_,Kg,tz_]
 first | go_big_quiet_step (fail) | quiet_step (fail)
 refine wpQuiet_nil ?_;refine RP.walkR_read ?_;simp only[Kh,dz_,Kg,tz_]
 first | go_big_quiet_step (fail) | quiet_step (fail)
 refine wpQuiet_nil ?_;refine RP.walkR_any ?_;simp only[Kh,dz_,Kg,tz_]
 first | go_big_quiet_step (fail) | quiet_step (fail)
 refine wpQuiet_nil ?_;refine RP.walkR_any ?_;simp only[Kh,dz_,Kg,tz_]
 first | go_big_quiet_step (fail) | quiet_step (fail)
 refine wpQuiet_nil ?_;refine RP.walkR_read ?_;simp only[Kh,dz_,Kg,tz_]
 first | go_big_quiet_step (fail) | quiet_step (fail)
 refine wpQuiet_nil ?_;refine RP.walkR_any ?_;simp only[Kh,dz_,Kg,tz_]
 first | go_big_quiet_step (fail) | quiet_step (fail)
 refine wpQuiet_nil ?_;refine RP.walkR_any ?_;simp only[Kh,dz_,Kg,tz_]
 first | go_big_quiet_step (fail) | quiet_step (fail)
 refine wpQuiet_nil ?_;refine RP.walkR_any ?_;simp only[Kh,dz_,Kg,tz_]
 first | go_big_quiet_step (fail) | quiet_step (fail)
 refine wpQuiet_nil ?_;refine RP.walkR_any ?_;simp only[Kh,dz_,Kg,tz_]
 first | go_big_quiet_step (fail) | quiet_step (fail)
 refine wpQuiet_nil ?_;refine RP.walkR_any ?_;simp only[Kh,dz_,Kg,tz_]
 first | go_big_quiet_step (fail) | quiet_step (fail)
 refine wpQuiet_nil ?_;refine RP.walkR_any ?_;simp only[Kh,dz_,Kg,tz_]
 first | go_big_quiet_step (fail) | quiet_step (fail)
 refine wpQuiet_nil ?_;refine RP.walkR_any ?_;simp only[Kh,dz_,Kg,tz_]
 first | go_big_quiet_step (fail) | quiet_step (fail)
 refine wpQuiet_nil ?_;refine RP.walkR_read ?_;simp only[Kh,dz_,Kg,tz_]
 first | go_big_quiet_step (fail) | quiet_step (fail)
 refine wpQuiet_nil ?_;refine RP.walkR_move ?_;simp only[Kh,dz_,Kg,tz_]
 go_wp2_with fail
 refine cm_ (N5.out _ (AP.out.trans (I.out.mono AP.out.size))) ?_;rintro e_ y1 ⟨rfl,H7⟩;have J1:Hid (Below w17.heap.size w17 y1):=I.out.trans (H7.mono I.out.size);clear H7 I
 go_wp2_with fail
 refine⟨⟨⟨_,J1.out⟩,rfl⟩,?_⟩;refine RP.walkR_any ?_;simp only[Kh,dz_,Kg,tz_];refine BigFrame.wpQuiet_want rfl fun K hK=>Zib _ _ _ q5 q5 rfl rfl rfl (hK _ ?_)
 refine wpQuiet_nil ?_;refine RP.walkR_any ?_;simp only[Kh,dz_,Kg,tz_]
 first | go_big_quiet_step (fail) | quiet_step (fail)
 refine wpQuiet_nil ?_;refine RP.walkR_any ?_;simp only[Kh,dz_,Kg,tz_]
 first | go_big_quiet_step (fail) | quiet_step (fail)
 refine wpQuiet_nil ?_;refine RP.walkR_read ?_;simp only[Kh,dz_,Kg,tz_]
 first | go_big_quiet_step (fail) | quiet_step (fail)
 refine wpQuiet_nil ?_;clear gk q0 q1 q2 q3 q4 nQ nP q7 q8 q9 qr;refine RP.walkR_move ?_;simp only[Kh,dz_,Kg,tz_]
 go_wp2_with fail
 refine cm_ (N6.out _ (AP.out.trans (J1.out.mono AP.out.size))) ?_;rintro e_ y2 ⟨rfl,H7⟩;have J2:Hid (Below w17.heap.size w17 y2):=J1.out.trans (H7.mono J1.out.size);clear H7 J1
 go_wp2_with fail
 refine⟨⟨⟨_,J2.out⟩,rfl⟩,?_⟩;refine RP.walkR_any ?_;simp only[Kh,dz_,Kg,tz_];refine BigFrame.wpQuiet_want rfl fun K hK=>Zib _ _ _ q6 q6 rfl rfl rfl (hK _ ?_)
 refine wpQuiet_nil ?_;refine RP.walkR_any ?_;simp only[Kh,dz_,Kg,tz_]
 first | go_big_quiet_step (fail) | quiet_step (fail)
 refine wpQuiet_nil ?_;refine RP.walkR_any ?_;simp only[Kh,dz_,Kg,tz_]
 first | go_big_quiet_step (fail) | quiet_step (fail)
 refine wpQuiet_nil ?_;refine RP.walkR_any ?_;simp only[Kh,dz_,Kg,tz_]
 first | go_big_quiet_step (fail) | quiet_step (fail)
 refine wpQuiet_nil ?_;refine RP.walkR_any ?_;simp only[Kh,dz_,Kg,tz_]
 first | go_big_quiet_step (fail) | quiet_step (fail)
 refine wpQuiet_nil ?_;refine RP.walkR_any ?_;simp only[Kh,dz_,Kg,tz_]
 first | go_big_quiet_step (fail) | quiet_step (fail)
 refine wpQuiet_nil ?_;refine RP.walkR_any ?_;simp only[Kh,dz_,Kg,tz_]
 first | go_big_quiet_step (fail) | quiet_step (fail)
 refine wpQuiet_nil ?_;refine RP.walkR_any ?_;simp only[Kh,dz_,Kg,tz_]
 first | go_big_quiet_step (fail) | quiet_step (fail)
 refine wpQuiet_nil ?_;refine RP.walkR_any ?_;simp only[Kh,dz_,Kg,tz_]
 first | go_big_quiet_step (fail) | quiet_step (fail)
 refine wpQuiet_nil ?_;refine RP.walkR_any ?_;simp only[Kh,dz_,Kg,tz_]
 first | go_big_quiet_step (fail) | quiet_step (fail)
 refine wpQuiet_nil ?_;refine RP.walkR_move ?_;simp only[Kh,dz_,Kg,tz_]
 go_wp2_with fail
 simp only[RP.walkR]
 go_wp2_with fail
 go_ret;exact⟨rfl,AP.out.trans (J2.out.mono AP.out.size)⟩
structure Qc7 (w:World) (ps:List Int) (a0 a1 a2:Option Addr) (l1 l2:Ze9):Prop where
 rp:Rd w a0 (Qt ps)
 hi:Ziv ps
 hl:ps.length≤1000
 r1:Rd w a1 (Qv l1)
 r2:Rd w a2 (Qv l2)
 n1:l1.length≤1000
 n2:l2.length≤1000
 s1:Ssz l1
 s2:Ssz l2
 L:Qd w
theorem Qc7.all{w W:World}{ps:List Int}{a0 a1 a2:Option Addr}{l1 l2:Ze9}(H:Qc7 w ps a0 a1 a2 l1 l2)(hW:Below w.heap.size w W){g c0 c1 c2:Nat}(hg:W.heap[g]?=some (.cells #[.slice a1 l1.length c1,.slice a2 l2.length c2] 38 (0,0))):
  Kc Tryz.prog 107 #[.slice a0 ps.length c0,.slice (some ⟨g,0,none⟩) 2 2] W (.int .i64 (Zlh ps [l1,l2])) :=
 Zcv W a0 _ c0 2 ps [l1,l2] (H.rp.below hW nr_) H.hi (Nat.le_trans H.hl (by decide)) (Zm2 hg (H.r1.below hW nr_) (H.r2.below hW nr_)) (by simp)
  (by intro l hl;simp only[List.mem_cons,List.not_mem_nil,or_false] at hl;rcases hl with rfl | rfl;exact⟨Nat.le_trans H.n1 (by decide),H.s1⟩;exact⟨Nat.le_trans H.n2 (by decide),H.s2⟩) (H.L.below hW)
def okE (s:ByteArray):Prop:=s.size≤5∨(31<s.size∧s.size≤40)
instance (s:ByteArray):Decidable (okE s):=inferInstanceAs (Decidable (_∨_))
theorem Ze4(L:List (Int×Int×ByteArray))(k:Nat)(h:k<L.length):
  (Qb L)[k*3]?=some (.int .i64 L[k].1)∧(Qb L)[k*3+1]?=some (.int .i64 L[k].2.1)∧(Qb L)[k*3+2]?=some (.string L[k].2.2):=by
 induction L generalizing k with
 | nil=>exact absurd h (Nat.not_lt_zero _)
 | cons x l ih =>
  have e:Qb (x::l) = .int .i64 x.1 :: .int .i64 x.2.1 :: .string x.2.2::Qb l:=rfl;rw[e];cases k with
  | zero=>exact⟨rfl,rfl,rfl⟩
  | succ k =>
   obtain⟨h0,h1,h2⟩:=ih k (by simpa using h)
   refine⟨?_,?_,?_⟩
   ·rw[show (k+1)*3=k*3+3 by omega];exact h0
   ·rw[show (k+1)*3+1=k*3+1+3 by omega];exact h1
   ·rw[show (k+1)*3+2=k*3+2+3 by omega];exact h2
theorem Zkz{w wr:World}{a:Option Addr}{L:List (Int×Int×ByteArray)}{B:Nat}(h:Rd w a (Qb L))(hb:Below B w wr)(hB:w.heap.size≤B)(k:Nat)(hk:k<L.length):
  ∃ b off,a=some ⟨b,off,none⟩∧wr.cell? ⟨b,off+k*3,none⟩=some (.int .i64 L[k].1)∧wr.cell? ⟨b,off+k*3+1,none⟩=some (.int .i64 L[k].2.1)∧wr.cell? ⟨b,off+k*3+2,none⟩=some (.string L[k].2.2):=by
 obtain⟨b,off,rfl,Fu,hcells⟩:=h.open (by rw[Zd8];omega)
 obtain⟨x0,x1,x2⟩:=Ze4 L k hk;have y0:=hcells _ _ x0;have y1:=hcells _ _ x1;have y2:=hcells _ _ x2;rw[← hb.cell (p:=⟨b,off+k*3,none⟩) (Nat.lt_of_lt_of_le Fu hB)] at y0;rw[← Nat.add_assoc,← hb.cell (p:=⟨b,off+k*3+1,none⟩) (Nat.lt_of_lt_of_le Fu hB)] at y1;rw[← Nat.add_assoc,← hb.cell (p:=⟨b,off+k*3+2,none⟩) (Nat.lt_of_lt_of_le Fu hB)] at y2;exact⟨b,off,rfl,y0,y1,y2⟩
theorem Zlf{T:Nat→Bool}(h:T 1000=true):∃ n,Zbh T n:=by
 have Gm:∀ k,k≤1000→T k=true→∃ n,Zbh T n:=by
  intro k
  induction k with
  | zero=>intro _ h;exact⟨0,h,.inl rfl,by decide⟩
  | succ k ih =>
   intro hk h;cases hT:T k
   ·exact⟨k+1,h,.inr (by simpa using hT),hk⟩
   ·exact ih (by omega) hT
 exact Gm 1000 nr_ h
theorem Zn4(w:World)(a0 a1:Option Addr)(c0 c1:Nat)(ps:List Int)(l:List Rat)(rp:Rd w a0 (Qt ps))(rl:Rd w a1 (Kt l))(hi:Ziv ps)(hl:l.length=ps.length)(hn:ps.length≤100)(hs:∀ q∈l,Sm 30 q)
  (fh:Vo ps=0) (hnz:l.any nzQ=false) (L:Qd w) :
  Kc Tryz.prog 26 #[.slice a0 ps.length c0,.slice a1 ps.length c1] w (.tuple #[Zee 0 0 none 0 0,.int .i64 0]):=by
 unfold Kc Zee;have gj:=hd_ ((Below.refl w.heap.size w).alloc nr_ (.cells #[.int .i64 0,.int .i64 0,.slice none 0 0] 51));have gi:Hid ((w.alloc (.cells #[.int .i64 0,.int .i64 0,.slice none 0 0] 51)).heap[w.heap.size]?=some (.cells #[.int .i64 0,.int .i64 0,.slice none 0 0] 51 (0,0))):=heap_alloc_new w _;have HC:=hd_ (fun W (hW:Below w.heap.size w W)=>Zd7 W a0 a1 c0 c1 ps l (rp.below hW nr_) (rl.below hW nr_) hi hl hn hs fh (L.below hW))
 have HZ:=hd_ (fun W (hW:Below w.heap.size w W)=>Zjr W a1 c1 l (rl.below hW nr_) (by omega))
 rw[hnz,hl] at HZ;clear rp rl hi hl hn hs fh hnz L;generalize ps.length=n1 at *
 go_enter Tryz.func26,Tryz.ntmps26
 go_wp2_with fail
 generalize w.alloc (.cells #[.int .i64 0,.int .i64 0,.slice none 0 0] 51)=W0 at *
 refine cm_ (HC.out _ gj.out) ?_;rintro e w1 ⟨rfl,hb⟩;have gv:Hid (w1.heap[w.heap.size]?=some (.cells #[.int .i64 0,.int .i64 0,.slice none 0 0] 51 (0,0))):=by
  show _=_
  rw[hb.block _ (Array.getElem?_eq_some_iff.1 gi.out).1];exact gi.out
 have gP:=hd_ (gj.out.trans (hb.mono gj.out.size));clear hb HC gi gj
 go_wp2_with fail
 refine cm_ (HZ.out _ gP.out) ?_;rintro e w2 ⟨rfl,hb⟩;obtain⟨k0,k1,k2,kf⟩:=Ki (Kd gv.out hb nr_);have Lp:=hd_ (gP.out.trans (hb.mono gP.out.size));have f0:=kf 0;have f1:=kf 1;have f2:=kf 2;clear hb HZ kf gv gP;go_wp2;obtain⟨c0,c1,c2,hb3⟩:=Zi (.int .i64 0) (.int .i64 0) (.slice none 0 0) k0 k1 k2 nr_ Lp.out;generalize ((w2.setCell ⟨w.heap.size,0,none⟩ (.int .i64 0)).setCell ⟨w.heap.size,1,none⟩ (.int .i64 0)).setCell ⟨w.heap.size,2,none⟩ (.slice none 0 0)=w9 at *
 exact bodyPost_ret (v := .tuple #[.agg #[.int .i64 0,.int .i64 0,.slice none 0 0],.int .i64 0]) (by simp[results,Tryz.results26,go_sem,c0,c1,c2]) rfl ⟨rfl,hb3⟩
def Qb5 (F:FuncId) (args:Array Value) (w:World) (sg n:Int) (BL:List (Int×Int×ByteArray)):Prop :=
 Calls Tryz.prog F args w fun e w'=>∃ a c,e = .returned (.tuple #[Zee sg n a BL.length c,.int .i64 0])∧Rd w' a (Qb BL)∧Below w.heap.size w w'
theorem Zs7(q:Rat):nzQ q=true↔q≠0:=by
 unfold nzQ;rw[bne_iff_ne];constructor
 ·intro h e;exact h (by rw[e];rfl)
 ·intro h e;exact h (Rat.num_eq_zero.1 (Int.sign_eq_zero_iff_zero.1 e))
theorem Zsr{w w9:World}{a p:Option Addr}{BL:List (Int×Int×ByteArray)}{g m c:Nat}{x y:Int}{t:TypeId}(h:Rd w a (Qb BL))(hob:w.heap[g]?=some (.cells #[.int .i64 x,.int .i64 y,.slice p m c] t (0,0)))
  (hh:∀ b,b≠g→w9.heap[b]?=w.heap[b]?) (GJ:w9.heap.size=w.heap.size):Rd w9 a (Qb BL):=by
 cases BL with
 | nil=>exact .inl rfl
 | cons z l =>
  rcases h with h|⟨b,off,rfl,hb,hc⟩
  ·cases h
  ·have h2:=hc 2 (.string z.2.2) rfl;have gq:b≠g:=by
    intro e;subst e;rw[cell_of_row w b (off+2) _ t (0,0) hob] at h2;rcases off with _|off
    ·cases h2
    ·rw[show off+1+2=off+3 by omega] at h2
     simp at h2
   refine .inr ⟨b,off,rfl,by rw[GJ];exact hb,fun i v hi=>?_⟩
   have h3:=hc i v hi;rw[← h3];simp only[World.cell?,hh b gq]
theorem Za3(w:World)(n:Nat):Kc Tryz.prog 116 #[.string (dec n)] w (.string (dec n)):=by
 unfold Kc;have dz:∀ W,(Instr.index 25 (.string (dec n)) (.int .i64 0)).run Tryz.prog W = .ok (.int .u8 ((lb (dec n)).getD 0 0).toNat) W:=fun W=>Zws W _ (Yi n)
 have hf:=Za4 n;have hs:=Yi n;have en:(0:Int)<(dec n).size:=by omega
 generalize ((lb (dec n)).getD 0 0).toNat=c at *
 have hc:((c:Int)==45)=false:=by rw[beq_eq_false_iff_ne];omega
 clear hf;generalize dec n=s at *
 go_enter Tryz.func116,Tryz.ntmps116;go_wp2;go_ret;exact⟨rfl,Below.refl _ _⟩
theorem Zjg(w:World)(z:Int)(h0 : -9223372036854775808≤z)(h1:z≤9223372036854775807)(L:Qd w):
  Kc Tryz.prog 118 #[.int .i64 z] w (.string (itx z)):=by
 unfold Kc;have HI:=hd_ (Zo8 w z h0 h1 L);generalize itx z=s at *
 clear h0 h1 L;go_enter Tryz.func118,Tryz.ntmps118
 go_wp2_with fail
 refine cm_ HI.out ?_;rintro e w1 ⟨rfl,hb⟩;have B1:=hd_ hb;clear hb HI
 go_wp2_with fail
 go_ret;exact⟨rfl,B1.out⟩
theorem Zqa(w:World)(n:Nat)(hn:(dec n).size≤18):
  Kc Tryz.prog 185 #[.string (dec n)] w (.tuple #[.int .i64 n,.bool true]):=by
 unfold Kc;have dz:∀ W,(Instr.index 9 (.string (dec n)) (.int .i64 0)).run Tryz.prog W = .ok (.int .u8 ((lb (dec n)).getD 0 0).toNat) W:=fun W=>Zws W _ (Yi n)
 have hf:=Za4 n;have hs:=Yi n;have en:(0:Int)<(dec n).size:=by omega
 have fg:((0:Int)==(dec n).size)=false:=by rw[beq_eq_false_iff_ne];omega
 have Hd:Hid (Za6 (lb (dec n))):=by show Za6 _;rw[Vz];exact Zr n
 have Gv:=hd_ (Yf (dec n));have bz:Hid (Qu (lb (dec n))=n):=by show _=_;rw[Vz];exact Yy n
 generalize ((lb (dec n)).getD 0 0).toNat=c at *
 have hc:((c:Int)==45)=false:=by rw[beq_eq_false_iff_ne];omega
 clear hf;generalize dec n=s at *
 go_enter Tryz.func185,Tryz.ntmps185
 go_wp2_with fail
 go_loop [7,5] (fun n i=>∃ t:Nat,t≤s.size∧i = .int .i64 t∧n = .int .i64 (-((Qu ((lb s).take t):Nat):Int))) (fun _ i=>s.size-(intOf i).toNat)
 case atStart=>exact⟨0,Nat.zero_le _,rfl,rfl⟩
 case round =>
  obtain⟨t,ht,rfl,rfl⟩:=hrel;have hD:=Zhu Hd.out t (by omega)
  by_cases H9:t<s.size
  ·have gm:(t:Int)<s.size:=by omega
   have Ej:=Yt (lb s) t (by rw[Gv.out];exact H9)
   have dW:=Hd.out ((lb s).getD t 0) (by rw[List.getD_eq_getElem?_getD,List.getElem?_eq_getElem (by rw[Gv.out];exact H9)];exact List.getElem_mem _)
   have hg:(lb s).getD t 0=s[t]'H9:=by
    rw[List.getD_eq_getElem?_getD,List.getElem?_eq_getElem (by rw[Gv.out];exact H9)];rfl
   have iS:Qu ((lb s).take t)<100000000000000000:=by
    have h1:=Zy (Hd.out.take t);have h2:10^((lb s).take t).length≤10^17:=Nat.pow_le_pow_right (by decide) (by simp;omega)
    exact Nat.lt_of_lt_of_le h1 h2
   rw[hg] at Ej dW;clear hg hD;have Fg:=hd_ Ej;clear Ej;generalize Qu ((lb s).take t)=D at *
   generalize Dw:(s[t]'H9).toNat=b at *
   obtain⟨gK,Gk⟩:=dW;have e1:IntKind.i64.wrap ((b:Int)-48)=(b:Int)-48:=iw_ _ (by omega)
   have e2:IntKind.i64.wrap (-9223372036854775808+((b:Int)-48)) = -9223372036854775808+((b:Int)-48):=iw_ _ (by omega)
   have e3:IntKind.i64.wrap (-(D:Int)*10) = -(D:Int)*10:=iw_ _ (by omega)
   have e4:IntKind.i64.wrap (-(D:Int)*10-((b:Int)-48)) = -(D:Int)*10-((b:Int)-48):=iw_ _ (by omega)
   have e5:IntKind.i64.wrap ((t:Int)+1)=((t+1:Nat):Int):=by rw[← Int.natCast_succ];exact iw_ _ (by omega)
   have q1:Int.tdiv (-9223372036854775808+((b:Int)-48)) 10 ≤ -100000000000000000:=by
    have:=Int.mul_tdiv_add_tmod (-9223372036854775808+((b:Int)-48)) 10
    have:=Int.tmod_lt_of_pos (-9223372036854775808+((b:Int)-48)) (show (0:Int)<10 by decide)
    have:=Int.lt_tmod_of_pos (-9223372036854775808+((b:Int)-48)) (show (0:Int)<10 by decide)
    omega
   have q2 : -1000000000000000000≤Int.tdiv (-9223372036854775808+((b:Int)-48)) 10:=by
    have:=Int.mul_tdiv_add_tmod (-9223372036854775808+((b:Int)-48)) 10
    have:=Int.tmod_lt_of_pos (-9223372036854775808+((b:Int)-48)) (show (0:Int)<10 by decide)
    have:=Int.lt_tmod_of_pos (-9223372036854775808+((b:Int)-48)) (show (0:Int)<10 by decide)
    omega
   obtain⟨Q,hQ⟩:∃ Q,Int.tdiv (-9223372036854775808+((b:Int)-48)) 10=Q:=⟨_,rfl⟩;rw[hQ] at q1 q2;have e6:IntKind.i64.wrap Q=Q:=iw_ _ (by omega)
   have n1:¬ ((b:Int)-48<0):=by omega
   have n2:¬ (9<(b:Int)-48):=by omega
   have n3:¬ (-(D:Int)<Q):=by omega
   go_wp2_with fail
   refine⟨⟨t+1,by omega,by go_num,by rw[Fg.out];congr 1;omega⟩,by simp[intOf];omega⟩
  ·have gm:¬ (t:Int)<s.size:=by omega
   have Ej:t=s.size:=by omega
   have Hf:Hid (Qu ((lb s).take t)=n):=by
    show _=_
    rw[Ej,← Gv.out,List.take_length];exact bz.out
   rw[Hf.out] at hD ⊢;have n1:(-(n:Int) == -9223372036854775808)=false:=by rw[beq_eq_false_iff_ne];omega
   have e1:IntKind.i64.wrap (0 - -(n:Int))=(n:Int):=by rw[show 0 - -(n:Int)=n by omega];exact iw_ _ (by omega)
   have e2:IntKind.i64.wrap (n:Int)=(n:Int):=iw_ _ (by omega)
   go_wp2_with fail
   go_ret2
   exact⟨rfl,Below.refl _ _⟩
theorem Zc3(w:World)(n:Nat):
  Kc Tryz.prog 117 #[.string (dec n)] w (if (dec n).size≤18 then .tuple #[.int .i64 n,.bool true] else .tuple #[.int .i64 0,.bool false]):=by
 unfold Kc;have HD:=hd_ (fun W=>Za3 W n)
 by_cases h:(dec n).size≤18
 ·rw[if_pos h];have HS:=hd_ (fun W=>Zqa W n h)
  have h':¬ (18:Int)<(dec n).size:=by omega
  generalize dec n=s at *
  go_enter Tryz.func117,Tryz.ntmps117
  go_wp2_with fail
  refine cm_ (HD.out _) ?_;rintro e w1 ⟨rfl,hb⟩;have B1:=hd_ hb;clear hb HD
  go_wp2_with fail
  refine cm_ (HS.out _) ?_;rintro e w2 ⟨rfl,hb⟩;have B2:=hd_ (B1.out.trans (hb.mono B1.out.size));clear hb HS B1
  go_wp2_with fail
  go_ret2
  exact⟨rfl,B2.out⟩
 ·rw[if_neg h];have h':(18:Int)<(dec n).size:=by omega
  generalize dec n=s at *
  go_enter Tryz.func117,Tryz.ntmps117
  go_wp2_with fail
  refine cm_ (HD.out _) ?_;rintro e w1 ⟨rfl,hb⟩;have B1:=hd_ hb;clear hb HD
  go_wp2_with fail
  go_ret2
  exact⟨rfl,B1.out⟩
theorem Zsh(w:World)(n:Nat):Kc Tryz.prog 134 #[.string (dec n)] w (.int .i64 (if n=0 then 0 else 1)):=by
 unfold Kc
 by_cases h0:n=0
 ·subst h0;rw[if_pos rfl,show dec 0=⟨#[48]⟩ from by rw[← Zcx.1];exact(Kj 0).symm]
  go_enter Tryz.func134,Tryz.ntmps134;go_wp2;go_ret;exact⟨rfl,Below.refl _ _⟩
 ·rw[if_neg h0];have dz:∀ W,(Instr.index 25 (.string (dec n)) (.int .i64 0)).run Tryz.prog W = .ok (.int .u8 ((lb (dec n)).getD 0 0).toNat) W:=fun W=>Zws W _ (Yi n)
  have hf:=Za4 n;have hq:=Zg0 (n:Int);rw[Kj,decide_eq_false (by omega)] at hq
  generalize ((lb (dec n)).getD 0 0).toNat=c at *
  have hc:((c:Int)==45)=false:=by rw[beq_eq_false_iff_ne];omega
  clear hf h0;generalize dec n=s at *
  go_enter Tryz.func134,Tryz.ntmps134;go_wp2;go_ret;exact⟨rfl,Below.refl _ _⟩
theorem Zdt(w:World)(n:Nat):Kc Tryz.prog 120 #[.string (dec n)] w (.int .i64 1):=by
 unfold Kc;obtain⟨z,hz,Fs⟩:∃ z:Int,(if n=0 then (0:Int) else 1)=z∧0≤z:=⟨_,rfl,by split<;>decide⟩
 have HS:=hd_ (fun W=>Zsh W n)
 rw[hz] at HS;have Oy:¬ z<0:=by omega
 clear hz;generalize dec n=s at *
 go_enter Tryz.func120,Tryz.ntmps120
 go_wp2_with fail
 refine cm_ (HS.out _) ?_;rintro e w1 ⟨rfl,hb⟩;have B1:=hd_ hb;clear hb HS
 go_wp2_with fail
 go_ret;exact⟨rfl,B1.out⟩
def nI (l:List Nat):List Int:=l.map fun x:Nat=>(x:Int)
theorem Qr(l:List Nat):(nI l).length=l.length:=List.length_map ..
theorem Zng(l:List Nat)(k:Nat):(nI l).take k=nI (l.take k):=List.map_take.symm
theorem Zbt(l m:List Nat):nI (l++m)=nI l++nI m:=List.map_append
theorem Qax(l:List Nat)(k x:Nat):(nI l).set k (x:Int)=nI (l.set k x):=by
 unfold nI;rw[List.map_set]
theorem Zx8(l:List Nat)(i:Nat)(hi:i<l.length)(h:i<(nI l).length):(nI l)[i]=((l.getD i 0:Nat):Int):=by
 simp only[nI,List.getElem_map];rw[List.getD_eq_getElem?_getD,List.getElem?_eq_getElem hi];rfl
theorem Zep{w:World}{a:Option Addr}{l:List Nat}(h:Rd w a (Qt (nI l)))(k:Nat)(hk:k<l.length):∃ b off,a=some ⟨b,off,none⟩∧b<w.heap.size∧∀ i,i<l.length→w.cell? ⟨b,off+i,none⟩=some (.int .i64 (l.getD i 0:Nat)):=by
 obtain⟨b,off,rfl,hb,hc⟩:=h.open (by rw[Qf,Qr];omega)
 refine⟨b,off,rfl,hb,fun i hi=>hc i _ ?_⟩
 have h1:i<(nI l).length:=by rw[Qr];exact hi
 rw[Ym (nI l) i h1,Zx8 l i hi h1]
theorem Zga(w:World)(a:Option Addr)(c:Nat)(l:List Nat)(hr:Rd w a (Qt (nI l)))(hp:Pcs l)(hl:l.length≤1000000)(hc:l.length≤c):
  Kc Tryz.prog 186 #[.slice a l.length c] w (.slice a (Kf (val l)).length c):=by
 unfold Kc;have Hr:=hd_ hr;have Hp:=hd_ hp;clear hr hp;generalize hn:l.length=n at *
 have Hn:=hd_ hn;clear hn;go_enter Tryz.func186,Tryz.ntmps186
 go_wp2_with fail
 go_loop [3] (fun s=>∃ m:Nat,m≤n∧s = .int .i64 m∧Hid (val (l.take m)=val l)) (fun s=>(intOf s).toNat)
 case atStart=>exact⟨n,Nat.le_refl _,rfl,by show _=_;rw[← Hn.out,List.take_length]⟩
 case round =>
  obtain⟨m,hm,rfl,Hv⟩:=hrel
  by_cases h0:m=0
  ·subst h0;have gZ:Hid ((Kf (val l)).length=0):=by
    show _=_
    rw[← Zap l Hp.out 0 (Nat.zero_le _) Hv.out (.inl rfl)];simp
   go_wp2_with fail
   go_ret;exact⟨by rw[gZ.out];rfl,Below.refl _ _⟩
  ·obtain⟨k,rfl⟩:∃ k,m=k+1:=⟨m-1,by omega⟩
   obtain⟨b,off,rfl,hb,hcells⟩:=Zep Hr.out k (by rw[Hn.out];omega)
   have cx:=hcells k (by rw[Hn.out];omega)
   have ew:IntKind.i64.wrap (((k+1:Nat):Int)-1)=(k:Nat):=by rw[show ((k+1:Nat):Int)-1=k by omega];exact iw_ _ (by omega)
   have pw:IntKind.i64.wrap ((k:Int)+1-1)=(k:Nat):=by rw[show (k:Int)+1-1=k by omega];exact iw_ _ (by omega)
   have Gj:(0:Int)<(k:Int)+1:=by omega
   clear hcells
   by_cases hz:l.getD k 0=0
   ·have FJ:Hid (val (l.take k)=val l):=by
     show _=_
     have:=Zb1 l (k+1) (by omega) (by rw[Hn.out];omega) hz
     rw[Nat.add_sub_cancel] at this;rw[this];exact Hv.out
    rw[hz] at cx;clear hz Hv
    go_wp2_with fail
    refine⟨⟨k,by omega,rfl,FJ⟩,by simp[intOf]⟩
   ·have gZ:Hid ((Kf (val l)).length=k+1):=by
     show _=_
     rw[← Zap l Hp.out (k+1) (by rw[Hn.out];exact hm) Hv.out (.inr hz),List.length_take,Hn.out]
     omega
    have hq:(((l.getD k 0:Nat):Int)==0)=false:=by rw[beq_eq_false_iff_ne];omega
    clear Hv hz;generalize l.getD k 0=x at *
    go_wp2_with fail
    go_ret;exact⟨by rw[gZ.out];rfl,Below.refl _ _⟩
theorem Zfb.cap2{w:World}{B c:Nat}{a:Option Addr}{l:List Int}(h:Zfb w B a c l):l.length≤c:=by
 rcases h.2 with⟨h1,h0⟩|⟨g,cap,cur,h1,h2,h3,h4,h5⟩
 ·rw[h0];exact Nat.zero_le _
 ·simp only[Value.slice.injEq] at h1;obtain⟨-,-,rfl⟩:=h1;exact h4
def Zfo (f:FuncId) (args:Array Value) (w:World) (n:Nat):Prop :=
 Calls Tryz.prog f args w fun e w'=>∃ a c,e = .returned (.slice a (Kf n).length c)∧Rd w' a (Qt (nI (Kf n)))∧(Kf n).length≤c∧Below w.heap.size w w'
structure Qcz (d j:Nat) (a:Option Addr) (c:Nat) (w wr:World):Prop where
 own:Zfb wr w.heap.size a c (nI (Yu d j))
 bel:Below w.heap.size w wr
theorem Zp8(s:ByteArray)(w:World)(hd:Za6 (lb s))(hl:s.size≤9000000):
  Zfo 122 #[.string s] w (Qu (lb s)):=by
 unfold Zfo;have Hd:=hd_ hd;clear hd;have Gv:=hd_ (Yf s);obtain⟨S,hS⟩:∃ S,S=s.size:=⟨_,rfl⟩;have HS:=hd_ hS;rw[← hS] at hl;clear hS;go_enter Tryz.func122,Tryz.ntmps122
 go_wp2_with fail
 go_loopw [0,3] (fun x o wr=>∃ (j e:Nat) (X:ByteArray) (a:Option Addr) (c:Nat),9*j<S+9∧e=S-9*j∧X.size=e∧x = .string X∧o = .slice a j c∧Hid (lb X=(lb s).take e)∧Hid (Qcz (Qu (lb s)) j a c w wr)) (fun x _ _=>match x with | .string X=>X.size | _=>0)
 case atStart =>
  refine⟨0,S,s,none,0,by omega,by omega,HS.out.symm,rfl,rfl,?_,⟨Zfb.nil w w.heap.size,Below.refl _ _⟩⟩
  show _=_
  rw[HS.out,← Gv.out,List.take_length]
 case round =>
  obtain⟨j,e,X,a,c,hj,he,hX,rfl,rfl,HX,HC⟩:=hrel
  by_cases Gj:0<e
  ·obtain⟨lo,fk⟩:∃ lo,lo=e-9:=⟨_,rfl⟩;obtain⟨K,hK⟩:∃ K,K=min 9 e:=⟨_,rfl⟩;have mN:e=lo+K:=by omega
   have pg:0<K:=by omega
   have dZ:K≤9:=by omega
   have bI:Hid (Qu (((lb s).drop lo).take K)=Qu (lb s)/1000000000^j%1000000000):=by
    show _=_
    have h:=Zhc (lb s) Hd.out j (by rw[Gv.out,← HS.out];omega)
    rw[Gv.out,← HS.out,← he,← fk,← hK] at h;exact h
   have mW:(lb X).length=e:=by rw[Yf,hX]
   have DF:Hid (∀ t,t<K→∃ h:lo+t<X.size,(((lb s).drop lo).take K).getD t 0=X[lo+t]'h):=fun t ht=>by
    have h0:lo+t<X.size:=by omega
    refine⟨h0,?_⟩;have e1:X[lo+t]'h0=(lb X).getD (lo+t) 0:=by
     rw[List.getD_eq_getElem?_getD,List.getElem?_eq_getElem (by rw[mW];omega)];rfl
    rw[e1,HX.out];simp only[List.getD_eq_getElem?_getD,List.getElem?_take,List.getElem?_drop];rw[if_pos ht,if_pos (by omega)]
   have DE:Hid (Za6 (((lb s).drop lo).take K)):=(Hd.out.drop _).take _;have eB:Hid ((((lb s).drop lo).take K).length=K):=by
    show _=_
    simp only[List.length_take,List.length_drop,Gv.out,← HS.out];omega
   have G2:Hid ((X.extract 0 lo).size=lo∧lb (X.extract 0 lo)=(lb s).take lo∧lo=S-9*(j+1)):=by
    refine⟨by rw[ByteArray.size_extract];omega,?_,by omega⟩
    rw[Zeu,HX.out,List.drop_zero,List.take_take];congr 1;omega
   have mJ:9*(j+1)<S+9:=by omega
   have OU:(0:Int)<e:=by omega
   clear mW HX;generalize ((lb s).drop lo).take K=ch at *
   have j6:=hd_ mN;have OV:e≤9000000:=by omega
   have dG:Hid (lo=e-9):=fk;clear he fk hK mN;have Lw:=hd_ hX
   -- the digits of one piece
   have AC:Hid (∀ t,t≤K→(t<K↔((lo:Int)+t<e))):=fun t ht=>by have:=j6.out;constructor<;>intro h<;>omega
   by_cases h9:(9:Int)<e
   ·have hw:IntKind.i64.wrap ((e:Int)-9)=(lo:Nat):=by
     have:=dG.out
     rw[show (e:Int)-9=(lo:Nat) by omega];exact iw_ _ (by omega)
    go_wp2_with fail
    go_loopw [5,6] (fun n i w2=>∃ t:Nat,t≤K∧i = .int .i64 ((lo:Int)+t)∧n = .int .i64 (Qu (ch.take t):Nat)∧Hid (w2=wr)) (fun _ i _=>e-(intOf i).toNat)
    case atStart=>exact⟨0,Nat.zero_le _,by simp,rfl,rfl⟩
    case round =>
     obtain⟨t,ht,rfl,rfl,cX⟩:=hrel;have AY:=cX.out;subst AY;clear cX;have hD:=Zbd DE.out t (by omega)
     by_cases H9:t<K
     ·obtain⟨hlo2,hcx⟩:=DF.out t H9;have Ej:=Yt ch t (by rw[eB.out];exact H9)
      have dW:=DE.out (ch.getD t 0) (by rw[List.getD_eq_getElem?_getD,List.getElem?_eq_getElem (by rw[eB.out];exact H9)];exact List.getElem_mem _)
      have Fg:=hd_ Ej;clear Ej;generalize Qu (ch.take t)=D at *
      rw[hcx] at dW Fg;clear hcx;generalize hb:(X[lo+t]'hlo2).toNat=b at *
      obtain⟨gK,Gk⟩:=dW;have gm:(lo:Int)+t<e:=(AC.out t ht).1 H9;have e1:IntKind.u8.wrap ((b:Int)-48)=(b:Int)-48:=IntKind.wrap_u8 _ ▸ by omega
      have e2:IntKind.i64.wrap (10*(D:Int))=10*(D:Int):=iw_ _ (by omega)
      have e3:IntKind.i64.wrap (10*(D:Int)+((b:Int)-48))=10*(D:Int)+((b:Int)-48):=iw_ _ (by omega)
      have e4:IntKind.i64.wrap ((lo:Int)+t+1)=(lo:Int)+t+1:=iw_ _ (by omega)
      go_wp2_with fail
      refine⟨⟨t+1,by omega,by go_num,by rw[Fg.out];congr 1;omega,trivial⟩,by simp[intOf];omega⟩
     ·obtain rfl:t=K:=by omega
      have cJ:Qu (ch.take t)=Qu (lb s)/1000000000^j%1000000000:=by
       rw[← eB.out,List.take_length];exact bI.out
      have Ab:=hd_ cJ;clear cJ;generalize Qu (ch.take t)=D at *
      have gm:¬ (lo:Int)+t<e:=fun h=>H9 ((AC.out t ht).2 h)
      have gH:wr.ownsRow w.heap.size 3 1 (.slice a j c) j (Qt (nI (Yu (Qu (lb s)) j))):=by have:=HC.out.own;unfold Zfb at this;rw[Qr,Kv] at this;exact this
      have gA:=hd_ gH;clear gH;have Nv:((lo:Nat):Int)≤e:=by have:=j6.out;omega
      have Nx:(0:Int)≤lo:=by omega
      have Nw:lo≤e:=by have:=j6.out;omega
      go_wp2_with (at_builtin;refine Km rfl (.tmp 31) (.tmp 33) 35 rfl Zrd _ 1 [.int .i64 D] rfl rfl gA.out HC.out.bel.size rfl ?c1 (by omega) (by omega) ?_)
      case c1=>first | rfl | (intro u hu;obtain rfl:=List.mem_singleton.1 hu;rfl)
      intro v' w3 ge hg3 _;obtain⟨a3,c3,rfl⟩:=Qk ge;have eX:Hid (Qcz (Qu (lb s)) (j+1) a3 c3 w w3):=by
       refine⟨?_,(HC.out.bel.alloc HC.out.bel.size _).grown hg3 (by have:=HC.out.bel.size;simp;omega) (fun k hk=>(gA.out.lt k hk).1)⟩
       unfold Zfb;rw[Qr,Kv,Yn,Zbt,Zf];have:=ge
       rw[Ab.out] at this;exact this
      clear ge hg3 HC
      go_wp2_with fail
      obtain⟨m1,m2,m3⟩:=G2.out;refine⟨⟨j+1,lo,X.extract 0 lo,a3,c3,mJ,m3,m1,rfl,rfl,m2,eX⟩,?_⟩
      show (X.extract 0 lo).size<X.size
      have:=j6.out
      omega
   ·have e9:lo=0:=by have:=dG.out;omega
    subst e9;replace DF:Hid (∀ t,t<K→∃ h:t<X.size,ch.getD t 0=X[t]'h):=fun t ht=>by
     obtain⟨h,e1⟩:=DF.out t ht;simp only[Nat.zero_add] at h e1;exact⟨h,e1⟩
    replace AC:Hid (∀ t:Nat,t≤K→(t<K↔((t:Int)<e))):=fun t ht=>by
     have:=AC.out t ht
     rw[show ((0:Nat):Int)+(t:Int)=t by omega] at this
     exact this
    go_wp2_with fail
    go_loopw [5,6] (fun n i w2=>∃ t:Nat,t≤K∧i = .int .i64 (t:Int)∧n = .int .i64 (Qu (ch.take t):Nat)∧Hid (w2=wr)) (fun _ i _=>e-(intOf i).toNat)
    case atStart=>exact⟨0,Nat.zero_le _,by simp,rfl,rfl⟩
    case round =>
     obtain⟨t,ht,rfl,rfl,cX⟩:=hrel;have AY:=cX.out;subst AY;clear cX;have hD:=Zbd DE.out t (by omega)
     by_cases H9:t<K
     ·obtain⟨hlo2,hcx⟩:=DF.out t H9;have Ej:=Yt ch t (by rw[eB.out];exact H9)
      have dW:=DE.out (ch.getD t 0) (by rw[List.getD_eq_getElem?_getD,List.getElem?_eq_getElem (by rw[eB.out];exact H9)];exact List.getElem_mem _)
      have Fg:=hd_ Ej;clear Ej;generalize Qu (ch.take t)=D at *
      rw[hcx] at dW Fg;clear hcx;generalize hb:(X[t]'hlo2).toNat=b at *
      obtain⟨gK,Gk⟩:=dW;have gm:(t:Int)<e:=(AC.out t ht).1 H9;have e1:IntKind.u8.wrap ((b:Int)-48)=(b:Int)-48:=IntKind.wrap_u8 _ ▸ by omega
      have e2:IntKind.i64.wrap (10*(D:Int))=10*(D:Int):=iw_ _ (by omega)
      have e3:IntKind.i64.wrap (10*(D:Int)+((b:Int)-48))=10*(D:Int)+((b:Int)-48):=iw_ _ (by omega)
      have e4:IntKind.i64.wrap ((t:Int)+1)=(t:Int)+1:=iw_ _ (by omega)
      go_wp2_with fail
      refine⟨⟨t+1,by omega,by go_num,by rw[Fg.out];congr 1;omega,trivial⟩,by simp[intOf];omega⟩
     ·obtain rfl:t=K:=by omega
      have cJ:Qu (ch.take t)=Qu (lb s)/1000000000^j%1000000000:=by
       rw[← eB.out,List.take_length];exact bI.out
      have Ab:=hd_ cJ;clear cJ;generalize Qu (ch.take t)=D at *
      have gm:¬ (t:Int)<e:=fun h=>H9 ((AC.out t ht).2 h)
      have gH:wr.ownsRow w.heap.size 3 1 (.slice a j c) j (Qt (nI (Yu (Qu (lb s)) j))):=by have:=HC.out.own;unfold Zfb at this;rw[Qr,Kv] at this;exact this
      have gA:=hd_ gH;clear gH
      go_wp2_with (at_builtin;refine Km rfl (.tmp 31) (.tmp 33) 35 rfl Zrd _ 1 [.int .i64 D] rfl rfl gA.out HC.out.bel.size rfl ?c1 (by omega) (by omega) ?_)
      case c1=>first | rfl | (intro u hu;obtain rfl:=List.mem_singleton.1 hu;rfl)
      intro v' w3 ge hg3 _;obtain⟨a3,c3,rfl⟩:=Qk ge;have eX:Hid (Qcz (Qu (lb s)) (j+1) a3 c3 w w3):=by
       refine⟨?_,(HC.out.bel.alloc HC.out.bel.size _).grown hg3 (by have:=HC.out.bel.size;simp;omega) (fun k hk=>(gA.out.lt k hk).1)⟩
       unfold Zfb;rw[Qr,Kv,Yn,Zbt,Zf];have:=ge
       rw[Ab.out] at this;exact this
      clear ge hg3 HC
      go_wp2_with fail
      obtain⟨m1,m2,m3⟩:=G2.out;refine⟨⟨j+1,0,ByteArray.empty,a3,c3,mJ,m3,rfl,rfl,rfl,(show lb ByteArray.empty=List.take 0 (lb s) from by rw[List.take_zero];rfl),eX⟩,?_⟩
      show (ByteArray.empty).size<X.size
      have:(ByteArray.empty).size=0:=rfl
      omega
  ·have hz:¬ (0:Int)<e:=by omega
   have hv:val (Yu (Qu (lb s)) j)=Qu (lb s):=by
    rw[Zg8,Nat.mod_eq_of_lt];have h1:=Zy Hd.out;rw[Gv.out] at h1;have h2:10^s.size≤10^(9*j):=Nat.pow_le_pow_right (by decide) (by have:=HS.out;omega)
    rw[show (1000000000:Nat)^j=10^(9*j) by rw[Nat.pow_mul]]
    omega
   have dw:(Yu (Qu (lb s)) j).length=j:=Kv _ _;have eN:=HC.out.own.cap2;rw[Qr,dw] at eN;have HT:=hd_ (Zga wr a c (Yu (Qu (lb s)) j) HC.out.own.rd (Za2 _ _) (by rw[dw];omega) (by rw[dw];exact eN))
   rw[hv,dw] at HT;have HR:Hid (Rd wr a (Qt (nI (Kf (Qu (lb s)))))):=by
    show Rd _ _ _
    have h1:=Qx (Yu (Qu (lb s)) j) (Za2 _ _);rw[hv] at h1;have h2:=HC.out.own.rd;rw[← h1,← Zng,show ∀ (L:List Int) (k:Nat),Qt (L.take k)=(Qt L).take k from fun L k=>List.map_take]
    exact Zm3 h2 _
   have Dd:Hid ((Kf (Qu (lb s))).length≤c):=by
    show _≤_
    have h1:=Vd (Yu (Qu (lb s)) j) (Za2 _ _);rw[hv,dw] at h1;omega
   have HB:=hd_ HC.out.bel;clear hv dw eN he HX HC
   go_wp2_with fail
   refine cm_ HT.out ?_;rintro e_ w1 ⟨rfl,hb⟩;have B1:=hd_ (HB.out.trans (hb.mono HB.out.size));have R1:=hd_ (HR.out.below hb nr_);clear hb HT
   go_wp2_with fail
   go_ret;exact⟨a,c,rfl,R1.out,Dd.out,B1.out⟩
theorem Zxb{y u:Nat}{x:List UInt8}(hy:0<y)(hd:Za6 x)(hl:x.length=9)(hv:Qu x=u):Lib.decDigits (u+1000000000*y)=Lib.decDigits y++x:=by
 have h1:=Zl0 y;have hc:Zch (Lib.decDigits y++x):=by
  refine⟨fun c hc=>?_,fun e=>h1.2.1 (List.append_eq_nil_iff.1 e).1,.inr ?_⟩
  ·rcases List.mem_append.1 hc with h | h
   ·exact h1.1 c h
   ·exact hd c h
  ·rcases h1.2.2 with h2 | h2
   ·have h3:Lib.decDigits y=[UInt8.ofNat (48+y)]:=by
     refine Yh ?_;have:=(Ku y 1 (by decide)).1 (by omega)
     simpa using this
    have h4:y<10:=by
     have:=(Ku y 1 (by decide)).1 (by omega)
     simpa using this
    rw[h3];intro h5;simp only[List.singleton_append,List.head?_cons,Option.some.injEq] at h5;have h6:=congrArg UInt8.toNat h5;simp only[UInt8.toNat_ofNat'] at h6;have h7:(48:UInt8).toNat=48:=rfl;omega
   ·cases e:Lib.decDigits y with
    | nil=>exact absurd e h1.2.1
    | cons c t=>rw[e] at h2;exact h2
 rw[Zl9 hc,Za1,Yy,hl,hv];congr 1;omega
theorem Zrw{L:List Nat}(h:L=[]∨L.getD (L.length-1) 0≠0):∀ d k,L.length=k+d+1→0<val (L.drop k)
 | 0,k,hk=>by
  have h1:=Zb3 L k (by omega)
  rcases h with h|h
  ·rw[h] at hk;simp at hk
  ·rw[show L.length-1=k by omega] at h
   omega
 | d+1,k,hk=>by
  have h1:=Zb3 L k (by omega)
  have h2:=Zrw h d (k+1) (by omega)
  omega
theorem Zn7{y u:Nat}{X:ByteArray}(hy:0<y)(hd:Za6 (lb X))(hl:X.size=9)(hv:Qu (lb X)=u):dec y++X=dec (u+1000000000*y):=by
 have h:=Zxb hy hd (by rw[Yf];exact hl) hv
 have e:lb (dec y++X)=lb (dec (u+1000000000*y)):=by
  rw[Vz,h];unfold lb;rw[ByteArray.data_append,Array.toList_append];rw[show (dec y).data.toList=Lib.decDigits y from Vz y]
 rw[← bs_lb (dec y++X),e,bs_lb]
theorem Zly{L:List Nat}(hp:Pcs L)(k:Nat):(dec (val (L.drop k))).size≤9*L.length+1:=by
 rw[Ky];refine(Ku _ _ (by omega)).2 ?_
 have h1:=Zoj (l:=L.drop k) (fun x hx=>hp x (List.mem_of_mem_drop hx))
 refine Nat.lt_of_lt_of_le h1 ?_;rw[show (1000000000:Nat)^(L.drop k).length=10^(9*(L.drop k).length) by rw[Nat.pow_mul]]
 exact Nat.pow_le_pow_right (by decide) (by rw[List.length_drop];omega)
theorem Zt1(w:World)(a:Option Addr)(c:Nat)(l:List Nat)(hr:Rd w a (Qt (nI l)))(hp:Pcs l)(hl:l.length≤1000000)(hz:l=[]∨l.getD (l.length-1) 0≠0)(L:Qd w):
  Kc Tryz.prog 187 #[.slice a l.length c] w (.string (dec (val l))):=by
 unfold Kc
 by_cases h0:l.length=0
 ·obtain rfl:l=[]:=List.length_eq_zero_iff.1 h0;rw[show dec (val [])=⟨#[48]⟩ by rw[← Zcx.1];exact(Kj 0).symm]
  rw[List.length_nil];clear hr;go_enter Tryz.func187,Tryz.ntmps187
  go_wp2_with fail
  go_ret;exact⟨rfl,Below.refl _ _⟩
 ·obtain⟨n,hn⟩:∃ n,l.length=n+1:=⟨l.length-1,by omega⟩
  obtain⟨b,off,rfl,hb,hcells⟩:=Zep hr 0 (by omega)
  have Hc:=hd_ (fun W (hW:Below w.heap.size w W) i (hi:i<n+1)=>show W.cell? ⟨b,off+i,none⟩=some (.int .i64 (l.getD i 0:Nat)) from by
   rw[hW.cell (p:=⟨b,off+i,none⟩) hb];exact hcells i (by omega))
  have HI:=hd_ (fun W (hW:Below w.heap.size w W) i=>show Kc Tryz.prog 144 #[.int .i64 (l.getD i 0:Nat)] W (.string (dec (l.getD i 0))) from by
   have h9:=hp.getD i;have:=Zo8 W ((l.getD i 0:Nat):Int) (by omega) (by omega) (L.below hW)
   rw[Kj] at this;exact this)
  have Db:Hid (val (l.drop n)=l.getD n 0):=by
   show _=_
   rw[Zb3 l n (by omega),List.drop_eq_nil_of_le (by omega)]
   show _+1000000000*0=_
   omega
  have oM:=hd_ (fun k (hk:k<n+1)=>Zb3 l k (by omega))
  have oN:=hd_ (fun k (hk:k<n+1)=>Zrw hz (n-k) k (by omega))
  have fF:=hd_ (fun k=>Zly hp k)
  have o4:=hd_ (fun i=>hp.getD i)
  have Od:Hid (l.drop 0=l):=List.drop_zero;rw[hn] at fF hl ⊢;have fN:(((n+1:Nat):Int)==0)=false:=by rw[beq_eq_false_iff_ne];omega
  have Nt:(((n:Int)+1)==0)=false:=by rw[beq_eq_false_iff_ne];omega
  have ew:IntKind.i64.wrap ((n:Int)+1-1)=(n:Nat):=by rw[show (n:Int)+1-1=n by omega];exact iw_ _ (by omega)
  have jN:IntKind.i64.wrap ((n:Int)+1-2)=(n:Int)-1:=by rw[show (n:Int)+1-2=(n:Int)-1 by omega];exact iw_ _ (by omega)
  have cx:=Hc.out w (Below.refl _ _) n (by omega)
  have LQ:=hd_ (fun W hW=>HI.out W hW n)
  clear hr hp hz L h0 hcells hn;obtain⟨u0,Ak⟩:∃ u0,l.getD n 0=u0:=⟨_,rfl⟩;rw[Ak] at cx LQ Db;clear Ak;go_enter Tryz.func187,Tryz.ntmps187
  go_wp2_with fail
  refine cm_ (LQ.out _ (Below.refl _ _)) ?_;rintro e_ w1 ⟨rfl,hZ⟩;have B1:=hd_ hZ;clear hZ cx LQ
  go_wp2_with fail
  have fT:dec u0=dec (val (l.drop n)):=by rw[Db.out]
  rw[fT];clear fT Db
  go_loopw [3,4] (fun s i wr=>∃ k:Nat,k≤n∧s = .string (dec (val (l.drop k)))∧i = .int .i64 ((k:Int)-1)∧Hid (Below w.heap.size w wr)) (fun _ i _=>(intOf i+1).toNat)
  case atStart=>exact⟨n,Nat.le_refl _,rfl,rfl,B1⟩
  case round =>
   obtain⟨k,hk,rfl,rfl,B⟩:=hrel
   by_cases DZ:k=0
   ·subst DZ;have G5:¬ (0:Int)≤((0:Nat):Int)-1:=by omega
    have mB:¬ (0:Int) ≤ -1:=by omega
    rw[Od.out]
    go_wp2_with fail
    go_ret;exact⟨rfl,B.out⟩
   ·obtain⟨q,rfl⟩:∃ q,k=q+1:=⟨k-1,by omega⟩
    have ei:((q+1:Nat):Int)-1=(q:Int):=by omega
    rw[ei];have cq:=Hc.out wr B.out q (by omega)
    have lC:IntKind.i64.wrap ((q:Int)-1)=(q:Int)-1:=iw_ _ (by omega)
    have mj:=oM.out q (by omega)
    have Ms:=hd_ mj;have Ii:=hd_ (oN.out (q+1) (by omega))
    have Nk:=fF.out (q+1);have Ng:=o4.out q;have m8:=hd_ (fun W hW=>HI.out W hW q)
    clear mj ei;generalize l.getD q 0=u at *
    obtain⟨y,hy⟩:∃ y,val (l.drop (q+1))=y:=⟨_,rfl⟩;rw[hy] at Ii Nk Ms ⊢;have Jz:(dec u).size≤9:=by
     rw[Ky];exact(Ku u 9 (by decide)).2 Ng
    have oS:Hid (Za6 (lb (dec u))):=by show Za6 _;rw[Vz];exact Zr u
    have oQ:Hid (Qu (lb (dec u))=u):=by show _=_;rw[Vz];exact Yy u
    clear hy
    go_wp2_with fail
    refine cm_ (m8.out _ B.out) ?_;rintro e_ w2 ⟨rfl,HU⟩;have B2:=hd_ (B.out.trans (HU.mono B.out.size));clear HU B cq m8
    go_wp2_with fail
    go_loopw [5] (fun x w'=>∃ X:ByteArray,x = .string X∧X.size≤9∧Hid (Za6 (lb X))∧Hid (Qu (lb X)=u)∧Hid (w'=w2)) (fun x _=>match x with | .string X=>9-X.size | _=>0)
    case atStart=>exact⟨dec u,rfl,Jz,oS,oQ,rfl⟩
    case round =>
     obtain⟨X,rfl,hX,Hxd,Hxv,cX⟩:=hrel;have AY:=cX.out;subst AY;clear cX
     by_cases h9:X.size<9
     ·have jL:(X.size:Int)<9:=by omega
      have iL:lb (⟨#[48]⟩++X)=48::lb X:=by
       unfold lb;rw[ByteArray.data_append,Array.toList_append];rfl
      have mV:(⟨#[48]⟩++X:ByteArray).size=X.size+1:=by rw[← Yf,iL,List.length_cons,Yf]
      have GL:=hd_ iL;have Lw:=hd_ mV;clear iL mV
      go_wp2_with fail
      refine⟨⟨⟨#[48]⟩++X,rfl,by rw[Lw.out];omega,?_,?_,trivial⟩,?_⟩
      ·show Za6 _
       rw[GL.out];intro c hc;rcases List.mem_cons.1 hc with rfl|h
       ·exact⟨by decide,by decide⟩
       ·exact Hxd.out c h
      ·show _=_
       rw[GL.out,Zaf,Hxv.out]
       show (48-48)*_+u=u
       omega
      ·show 9-(⟨#[48]⟩++X:ByteArray).size<9-X.size
       rw[Lw.out];omega
     ·have jL:¬ (X.size:Int)<9:=by omega
      have HT:Hid (dec y++X=dec (val (l.drop q))):=by
       show _=_
       rw[Ms.out];exact Zn7 Ii.out Hxd.out (by omega) Hxv.out
      go_wp2_with fail
      refine⟨⟨q,by omega,by rw[HT.out],rfl,B2⟩,by simp[intOf]⟩
theorem Zqy(n:Nat):Kf n=[]∨(Kf n).getD ((Kf n).length-1) 0≠0:=by
 induction n using Nat.strongRecOn with
 | ind n ih =>
  by_cases h:n=0
  ·left;subst h;exact Qp
  ·right;have e:Kf n=n%1000000000::Kf (n/1000000000):=by rw[Kf,dif_neg h]
   have h1:=ih (n/1000000000) (Nat.div_lt_self (by omega) (by decide))
   rw[e];rcases h1 with h2|h2
   ·rw[h2];have h3:=Kq (n/1000000000);rw[h2] at h3;have h4:n/1000000000=0:=h3.symm
    show n%1000000000≠0
    omega
   ·cases e2:Kf (n/1000000000) with
    | nil=>rw[e2] at h2;exact absurd rfl h2
    | cons x t=>rw[e2] at h2;exact h2
theorem Zgk(w:World)(a:Option Addr)(c:Nat)(l:List Nat)(hr:Rd w a (Qt (nI l)))(hp:Pcs l)(hl:l.length≤1000000)(hc:l.length≤c)(L:Qd w):
  Kc Tryz.prog 119 #[.bool false,.slice a l.length c] w (.string (dec (val l))):=by
 unfold Kc;have HT:=hd_ (Zga w a c l hr hp hl hc);have HJ:=hd_ (fun W (hW:Below w.heap.size w W)=>show Kc Tryz.prog 187 #[.slice a (Kf (val l)).length c] W (.string (dec (val l))) from by
  have h1:=Qx l hp;have h2:Rd w a (Qt (nI (Kf (val l)))):=by
   rw[← h1,← Zng,show ∀ (L:List Int) (k:Nat),Qt (L.take k)=(Qt L).take k from fun L k=>List.map_take]
   exact Zm3 hr _
  have h3:=Vd l hp;have h4:=Zt1 W a c (Kf (val l)) (h2.below hW nr_) (Ko _) (by omega) (Zqy _) (L.below hW)
  rw[Kq] at h4;exact h4)
 clear hr hp hl hc L;generalize (Kf (val l)).length=m at *
 generalize l.length=n at *
 generalize dec (val l)=s at *
 go_enter Tryz.func119,Tryz.ntmps119
 go_wp2_with fail
 refine cm_ HT.out ?_;rintro e_ w1 ⟨rfl,hb⟩;have B1:=hd_ hb;clear hb HT
 go_wp2_with fail
 refine cm_ (HJ.out _ B1.out) ?_;rintro e_ w2 ⟨rfl,hb⟩;have B2:=hd_ (B1.out.trans (hb.mono B1.out.size));clear hb HJ B1
 go_wp2_with fail
 go_ret;exact⟨rfl,B2.out⟩
def Zpx (w:World) (B:Nat) (a:Option Addr) (c:Nat) (l:List Nat):Prop:=Zfb w B a c (nI l)
theorem Zpx.open{w:World}{B c:Nat}{a:Option Addr}{l:List Nat}(h:Zpx w B a c l)(hn:0<l.length):
  ∃ g,a=some ⟨g,0,none⟩∧B≤g∧g<w.heap.size∧l.length≤c∧(∀ j,j<l.length→w.cell? ⟨g,j,none⟩=some (.int .i64 (l.getD j 0:Nat)))∧(∀ j,w.frozen? ⟨g,j,none⟩=false):=by
 obtain⟨g,cap,hv,h1,h2,h3,h4,h5⟩:=Vy h (by rw[Qr];exact hn)
 simp only[Value.slice.injEq] at hv;obtain⟨rfl,-,rfl⟩:=hv;rw[Qr] at h3 h4;refine⟨g,rfl,h1,h2,h3,fun j hj=>?_,h5⟩
 have h6:j<(nI l).length:=by rw[Qr];exact hj
 rw[h4 j (by omega),Ym (nI l) j h6,Zx8 l j hj h6]
theorem Zpx.store{w:World}{B c g:Nat}{l:List Nat}(h:Zpx w B (some ⟨g,0,none⟩) c l)(j x:Nat):
  Zpx (w.setCell ⟨g,j,none⟩ (.int .i64 (x:Nat))) B (some ⟨g,0,none⟩) c (l.set j x):=by
 have:=(World.ownsRow.stored h j (.int .i64 (x:Nat))).1
 unfold Zpx Zfb;rw[← Qax,List.length_set,show Qt ((nI l).set j (x:Int))=(Qt (nI l)).set j (.int .i64 x) by simp[Qt,List.map_set]]
 exact this
theorem Zpx.below{w w':World}{B c:Nat}{a:Option Addr}{l:List Nat}(h:Zpx w B a c l){D:Nat}(hb:Below D w w')(hD:w.heap.size≤D):Zpx w' B a c l:=Zfb.below h hb hD
theorem Zpx.rd{w:World}{B c:Nat}{a:Option Addr}{l:List Nat}(h:Zpx w B a c l):Rd w a (Qt (nI l)):=Zfb.rd h
theorem Zs5(w:World)(l:List Nat)(hl:l.length≤100000000):Zpx (w.alloc (.cells (Qt (nI l)).toArray 3)) w.heap.size (some ⟨w.heap.size,0,none⟩) l.length l :=
 ⟨by simp[Qf],.inr ⟨w.heap.size,(nI l).length,(Qt (nI l)).toArray,by rw[Qr],Nat.le_refl _,heap_alloc_new _ _,Nat.le_refl _,by rw[Qr];unfold maxLen;omega,by simp[Qf],by rw[Nat.mul_one];exact List.take_of_length_le (by simp[Qf])⟩⟩
theorem Zni(n:Nat):(madeCells #[.int .i64 0] n)=(Qt (nI (List.replicate n 0))).toArray:=by
 apply Array.ext';rw[toList_madeCells_one];simp[Qt,nI]
theorem Qa1(n:Nat)(w:World)(hn:n≤100000000):
  (Instr.makeSlice 35 (.int .i64 (n:Int)) (.int .i64 (n:Int))).run Tryz.prog w = .ok (.slice (some ⟨w.heap.size,0,none⟩) n n) (w.alloc (.cells (Qt (nI (List.replicate n 0))).toArray 3)):=by
 have:=run_make_row' (P:=Tryz.prog) 35 3 (.int .i64 0) 8 Tryz.underlying35 Qbi rfl .i64 .i64 n (by omega) (by omega) w
 rw[Zni] at this;exact this
structure TuO (p q:List Nat) (B k:Nat) (L:List Nat) (w wr:World):Prop where
 len:L.length=p.length+q.length+1
 pcs:Pcs L
 v:val L=val (p.take k)*val q
 z:∀ j,k+q.length≤j→L.getD j 0=0
 own:Zpx wr B (some ⟨B,0,none⟩) (p.length+q.length+1) L
 bel:Below B w wr
structure TuI (p q L:List Nat) (B i m cc:Nat) (M:List Nat) (w wr:World):Prop where
 len:M.length=p.length+q.length+1
 pcs:Pcs M
 v:val M+1000000000^(i+m)*cc=val L+1000000000^i*(p.getD i 0*val (q.take m))
 z:∀ j,i+q.length≤j→M.getD j 0=0
 own:Zpx wr B (some ⟨B,0,none⟩) (p.length+q.length+1) M
 bel:Below B w wr
theorem Zp4(w:World)(a1 a2:Option Addr)(c1 c2:Nat)(p q:List Nat)(h1:Rd w a1 (Qt (nI p)))(h2:Rd w a2 (Qt (nI q)))(p1:Pcs p)(p2:Pcs q)(l1:p.length≤400000)(l2:q.length≤400000):
  Zfo 121 #[.slice a1 p.length c1,.slice a2 q.length c2] w (val p*val q):=by
 unfold Zfo;have H1:=hd_ h1;have H2:=hd_ h2;have P1:=hd_ p1;have P2:=hd_ p2;clear h1 h2 p1 p2;obtain⟨n,hn⟩:∃ n,p.length=n:=⟨_,rfl⟩;obtain⟨m,hm⟩:∃ m,q.length=m:=⟨_,rfl⟩;rw[hn] at l1 ⊢;rw[hm] at l2 ⊢;have Hn:=hd_ hn;have Hm:=hd_ hm;clear hn hm;have eI:=Qa1 (n+m+1) w (by omega)
 have gz:=hd_ (Zs5 w (List.replicate (n+m+1) 0) (by simp;omega))
 have Hb:=hd_ ((Below.refl w.heap.size w).alloc nr_ (.cells (Qt (nI (List.replicate (n+m+1) 0))).toArray 3))
 push_cast at eI
 have e1:IntKind.i64.wrap ((n:Int)+m)=(n:Int)+m:=iw_ _ (by omega)
 have e2:IntKind.i64.wrap ((n:Int)+m+1)=(n:Int)+m+1:=iw_ _ (by omega)
 generalize w.alloc (.cells (Qt (nI (List.replicate (n+m+1) 0))).toArray 3)=w5 at *
 go_enter Tryz.func121,Tryz.ntmps121
 go_wp2_with fail
 go_loopw [6] (fun i wr=>∃ (k:Nat) (L:List Nat),k≤n∧i = .int .i64 k∧Hid (TuO p q w.heap.size k L w wr)) (fun i _=>n-(intOf i).toNat)
 case atStart =>
  refine⟨0,List.replicate (n+m+1) 0,Nat.zero_le _,rfl,?_⟩;refine⟨by simp[Hn.out,Hm.out],Pcs.zeros _,by simp[Zdo,val],fun j _=>?_,?_,Hb.out⟩
  ·rw[List.getD_eq_getElem?_getD,List.getElem?_replicate];split<;>rfl
  ·have:=gz.out
   rw[List.length_replicate] at this;rw[Hn.out,Hm.out];exact this
 case round =>
  obtain⟨k,L,hk,rfl,HT⟩:=hrel;clear gz Hb eI
  by_cases H9:k<n
  ·obtain⟨b1,o1,rfl,hZ,gK⟩:=Zep H1.out k (by rw[Hn.out];exact H9)
   have gm:(k:Int)<n:=by omega
   go_wp2_with fail
   go_loopw [7,8] (fun c j wr=>∃ (t cc:Nat) (M:List Nat),cc<1000000000∧j = .int .i64 t∧c = .int .i64 cc∧((t≤m∧Hid (TuI p q L w.heap.size k t cc M w wr))∨(t=m+1∧cc=0∧Hid (TuO p q w.heap.size (k+1) M w wr)))) (fun _ j _=>m+1-(intOf j).toNat)
   case atStart =>
    refine⟨0,0,L,by omega,rfl,rfl,.inl ⟨Nat.zero_le _,?_⟩⟩
    exact⟨HT.out.len,HT.out.pcs,by simp[val],fun j hj=>HT.out.z j hj,HT.out.own,HT.out.bel⟩
   case round =>
    obtain⟨t,cc,M,et,rfl,rfl,JH⟩:=hrel;rcases JH with⟨ht,HI⟩|⟨rfl,rfl,HO⟩
    ·obtain⟨g,hg,fP,fO,hg3,hg4,hg5⟩:=HI.out.own.open (by rw[HI.out.len];omega)
     obtain rfl:w.heap.size=g:=by simpa using hg
     clear hg
     by_cases Gb:t<m
     ·have cx:=gK k (by rw[Hn.out];exact H9)
      rw[← HI.out.bel.cell (p:=⟨b1,o1+k,none⟩) hZ] at cx;have hx:=P1.out.getD k;obtain⟨x,hxx⟩:∃ x,p.getD k 0=x:=⟨_,rfl⟩;rw[hxx] at cx hx;have dC:=hd_ hxx;clear hxx;obtain⟨b2,o2,rfl,HU,Gk⟩:=Zep H2.out t (by rw[Hm.out];exact Gb)
      have cy:=Gk t (by rw[Hm.out];exact Gb)
      rw[← HI.out.bel.cell (p:=⟨b2,o2+t,none⟩) HU] at cy;have hy:=P2.out.getD t;have ce:=hg4 (k+t) (by rw[HI.out.len,Hn.out,Hm.out];omega)
      have he:=HI.out.pcs.getD (k+t);have fe:=hg5 (k+t);have Dl:=Zo2 hx hy;have gE:=Zh0 M q k t x cc (val L) (by rw[Hm.out];exact Gb) (by rw[HI.out.len,Hn.out,Hm.out];omega) (by have:=HI.out.v;rw[dC.out] at this;exact this)
      have gn:Hid (∀ nq,TuI p q L w.heap.size k (t+1) ((cc+(M.getD (k+t) 0+x*q.getD t 0))/1000000000) (M.set (k+t) ((cc+(M.getD (k+t) 0+x*q.getD t 0))%1000000000)) w ((wr.drewN nq).setCell ⟨w.heap.size,k+t,none⟩ (.int .i64 ((cc+(M.getD (k+t) 0+x*q.getD t 0))%1000000000:Nat)))) :=
       fun nq=>⟨by rw[List.length_set];exact HI.out.len,HI.out.pcs.set _ _ (Nat.mod_lt _ (by decide)),by rw[dC.out];exact gE,fun j hj=>by rw[Ye _ _ _ _ (by have:=Hm.out;omega)];exact HI.out.z j hj,(HI.out.own.below (Qh (Below.refl _ _) nq) nr_).store (k+t) _,(Qh HI.out.bel nq).setCell (p:=⟨w.heap.size,k+t,none⟩) nr_ _⟩
      clear gE Gk hg4 hg5;generalize M.getD (k+t) 0=e at *
      generalize q.getD t 0=y at *
      have nW:(x:Int)*(y:Int)=((x*y:Nat):Int):=by rw[Int.natCast_mul]
      generalize x*y=xy at *
      have Fl:IntKind.i64.wrap (xy:Int)=(xy:Int):=iw_ _ (by omega)
      have EP:IntKind.i64.wrap ((e:Int)+(cc:Int))=(e:Int)+(cc:Int):=iw_ _ (by omega)
      have JN:IntKind.i64.wrap ((e:Int)+(cc:Int)+(xy:Int))=(e:Int)+(cc:Int)+(xy:Int):=iw_ _ (by omega)
      have dS:IntKind.i64.wrap ((k:Int)+(t:Int))=((k+t:Nat):Int):=by rw[← Int.natCast_add];exact iw_ _ (by have:=Hn.out;omega)
      have eJ:IntKind.i64.wrap ((t:Int)+1)=((t+1:Nat):Int):=by rw[← Int.natCast_succ];exact iw_ _ (by omega)
      have G1:Int.tmod ((e:Int)+(cc:Int)+(xy:Int)) 1000000000=(((cc+(e+xy))%1000000000:Nat):Int):=by rw[Int.tmod_eq_emod_of_nonneg (by omega)];omega
      have iD:((e:Int)+(cc:Int)+(xy:Int))%1000000000=(((cc+(e+xy))%1000000000:Nat):Int):=by omega
      have Fn:Int.tdiv ((e:Int)+(cc:Int)+(xy:Int)) 1000000000=(((cc+(e+xy))/1000000000:Nat):Int):=by rw[Int.tdiv_eq_ediv_of_nonneg (by omega)];omega
      have iC:((e:Int)+(cc:Int)+(xy:Int))/1000000000=(((cc+(e+xy))/1000000000:Nat):Int):=by omega
      have Du:(cc+(e+xy))/1000000000<1000000000:=by omega
      have J9:(cc+(e+xy))%1000000000<1000000000:=Nat.mod_lt _ (by decide)
      generalize (cc+(e+xy))/1000000000=cd at *
      generalize (cc+(e+xy))%1000000000=d at *
      have OO:IntKind.i64.wrap (cd:Int)=(cd:Int):=iw_ _ (by omega)
      have ON:IntKind.i64.wrap (d:Int)=(d:Int):=iw_ _ (by omega)
      have FE:(t:Int)<m:=by omega
      clear HT HI
      go_wp2_with fail
      go_quiet (fail)
      go_wp2_with fail
      refine⟨⟨t+1,cd,_,Du,by go_num,rfl,.inl ⟨by omega,gn.out _⟩⟩,by simp[intOf];omega⟩
     ·obtain rfl:t=m:=by omega
      have fe:=hg5 (k+t);have ce:=hg4 (k+t) (by rw[HI.out.len,Hn.out,Hm.out];omega)
      have e9:M.getD (k+t) 0=0:=HI.out.z _ (by rw[Hm.out];exact Nat.le_refl _)
      rw[e9] at ce;have gH:=Zko L M p q k cc (by rw[Hn.out];exact H9) (by rw[HI.out.len,Hn.out,Hm.out];omega) (by rw[Hm.out];exact e9) HT.out.v (by rw[Hm.out];exact HI.out.v)
      rw[Hm.out] at gH;have FE:¬ (t:Int)<t:=by omega
      by_cases fB:cc=0
      ·subst fB;have G4:M.set (k+t) 0=M:=by
        refine List.ext_getElem (by simp) fun i h1 h2=>?_
        by_cases hi:k+t=i
        ·subst hi;rw[List.getElem_set_self];rw[List.getD_eq_getElem?_getD,List.getElem?_eq_getElem h2] at e9;exact e9.symm
        ·rw[List.getElem_set_ne hi]
       rw[G4] at gH;have HO:Hid (TuO p q w.heap.size (k+1) M w wr):=⟨HI.out.len,HI.out.pcs,gH,fun j hj=>HI.out.z j (by omega),HI.out.own,HI.out.bel⟩
       have du:¬ (0:Int)<0:=by omega
       clear gH hg4 hg5 Gb HT e9 G4 HI
       go_wp2_with fail
       refine⟨⟨k+1,M,by omega,by go_num,HO⟩,by simp[intOf];omega⟩
      ·have iE:(0:Int)<cc:=by omega
       have dS:IntKind.i64.wrap ((k:Int)+(t:Int))=((k+t:Nat):Int):=by rw[← Int.natCast_add];exact iw_ _ (by have:=Hn.out;omega)
       have eJ:IntKind.i64.wrap ((t:Int)+1)=((t+1:Nat):Int):=by rw[← Int.natCast_succ];exact iw_ _ (by omega)
       have EP:IntKind.i64.wrap (cc:Int)=(cc:Int):=iw_ _ (by omega)
       have G1:Int.tmod (cc:Int) 1000000000=(cc:Int):=by rw[Int.tmod_eq_emod_of_nonneg (by omega)];omega
       have iD:(cc:Int)%1000000000=(cc:Int):=by omega
       have Fn:Int.tdiv (cc:Int) 1000000000=0:=by rw[Int.tdiv_eq_ediv_of_nonneg (by omega)];omega
       have iC:(cc:Int)/1000000000=0:=by omega
       have HO:Hid (TuO p q w.heap.size (k+1) (M.set (k+t) cc) w (wr.setCell ⟨w.heap.size,k+t,none⟩ (.int .i64 (cc:Nat)))) :=
        ⟨by rw[List.length_set];exact HI.out.len,HI.out.pcs.set _ _ et,gH,fun j hj=>by rw[Ye _ _ _ _ (by have:=Hm.out;omega)];exact HI.out.z j (by omega),HI.out.own.store (k+t) cc,HI.out.bel.setCell (p:=⟨w.heap.size,k+t,none⟩) nr_ _⟩
       clear gH hg4 hg5 Gb HT e9 HI
       go_wp2_with fail
       refine⟨⟨t+1,0,_,by omega,by go_num,rfl,.inr ⟨rfl,rfl,HO⟩⟩,by simp[intOf]⟩
    ·have Gb:¬ ((m:Int)+1<m):=by omega
     clear HT
     go_wp2_with fail
     refine⟨⟨k+1,M,by omega,by go_num,HO⟩,by simp[intOf];omega⟩
  ·obtain rfl:k=n:=by omega
   have gm:¬ (k:Int)<k:=by omega
   have hv:val L=val p*val q:=by
    have:=HT.out.v
    rw[← Hn.out,List.take_length] at this;exact this
   have gh:L.length=k+m+1:=by rw[HT.out.len,Hn.out,Hm.out]
   have GT:=Zga wr (some ⟨w.heap.size,0,none⟩) (k+m+1) L HT.out.own.rd HT.out.pcs (by omega) (by omega)
   rw[gh,hv] at GT;have f8:=hd_ GT;have h3:=Vd L HT.out.pcs;have h4:=Qx L HT.out.pcs;rw[hv,gh] at h3;rw[hv] at h4;have HR:Hid (Rd wr (some ⟨w.heap.size,0,none⟩) (Qt (nI (Kf (val p*val q))))):=by
    show Rd _ _ _
    rw[← h4,← Zng,show ∀ (L:List Int) (k:Nat),Qt (L.take k)=(Qt L).take k from fun L k=>List.map_take]
    exact Zm3 HT.out.own.rd _
   have HB:=hd_ HT.out.bel;have H3:=hd_ h3;clear GT hv gh h3 h4 HT
   push_cast at f8
   go_wp2_with fail
   refine cm_ f8.out ?_;rintro e_ w6 ⟨rfl,hb6⟩;have B6:=hd_ (HB.out.trans (hb6.mono HB.out.size));have R6:=hd_ (HR.out.below hb6 nr_);clear hb6 f8
   go_wp2_with fail
   go_ret;exact⟨some ⟨w.heap.size,0,none⟩,k+m+1,rfl,R6.out,H3.out,B6.out⟩
theorem Zc1(w:World)(n:Nat)(hn:Num n):Zfo 122 #[.string (dec n)] w n:=by
 have h1:(dec n).size≤1000000:=hn;have:=Zp8 (dec n) w (by rw[Vz];exact Zr n) (by omega)
 rw[show Qu (lb (dec n))=n from by rw[Vz];exact Yy n] at this
 exact this
theorem Zaz(n:Nat)(hn:Num n):(Kf n).length≤400000:=by
 have h:(dec n).size≤1000000:=hn;obtain⟨k,hk⟩:∃ k,k=400000:=⟨_,rfl⟩;rw[← hk,Kn];have h1:=(Zc n (9*k) (by omega)).1 (by omega)
 rwa [Nat.pow_mul] at h1
theorem Zv6(w:World)(x y:Nat)(hx:Num x)(hy:Num y)(L:Qd w):
  Kc Tryz.prog 44 #[.string (dec x),.string (dec y)] w (.string (dec (x*y))):=by
 unfold Kc;have dJ:(dec x).size≤1000000:=hx;have jx:(dec y).size≤1000000:=hy;have D1:=hd_ fun w:World=>Za3 w x
 have D2:=hd_ fun w:World=>Za3 w y
 by_cases hs:(dec x).size+(dec y).size≤18
 ·have Q1:=hd_ fun w:World=>Zc3 w x
  have Q2:=hd_ fun w:World=>Zc3 w y
  rw[if_pos (by omega)] at Q1 Q2
  have d1:=(Ku x (dec x).size (by rw[Ky];exact Ys x)).1 (by rw[Ky];exact Nat.le_refl _)
  have d2:=(Ku y (dec y).size (by rw[Ky];exact Ys y)).1 (by rw[Ky];exact Nat.le_refl _)
  have d3:x*y<10^((dec x).size+(dec y).size):=by rw[Nat.pow_add];exact Nat.mul_lt_mul_of_lt_of_lt d1 d2
  have d4:10^((dec x).size+(dec y).size)≤10^18:=Nat.pow_le_pow_right (by decide) hs
  have d5:x*y<1000000000000000000:=by omega
  have fM:IntKind.i64.wrap ((x:Int)*(y:Int))=((x*y:Nat):Int):=by rw[← Int.natCast_mul];exact iw_ _ (by omega)
  have jg:=hd_ fun (W:World) (hW:Below w.heap.size w W)=>Zjg W ((x*y:Nat):Int) (by omega) (by omega) (L.below hW)
  rw[Kj] at jg;have en:((dec x).size:Int)+(dec y).size≤18:=by omega
  clear d1 d2 d3 d4 d5 hx hy dJ jx L;generalize dec (x*y)=r at *
  generalize x*y=u at *
  generalize dec x=s1 at *
  generalize dec y=s2 at *
  go_enter Tryz.func44,Tryz.ntmps44
  go_wp2_with fail
  refine cm_ (D1.out _) ?_;rintro e w1 ⟨rfl,hZ⟩;have HQ:=hd_ hZ;clear hZ
  go_wp2_with fail
  refine cm_ (D2.out _) ?_;rintro e w2 ⟨rfl,HU⟩;have H6:=hd_ (HQ.out.trans (HU.mono HQ.out.size));clear HU HQ
  go_wp2_with fail
  refine Calls.mono (Q1.out _) ?_;rintro e w3 ⟨rfl,hb3⟩;have gd:=hd_ (H6.out.trans (hb3.mono H6.out.size));clear hb3 H6
  go_wp2_with fail
  refine Calls.mono (Q2.out _) ?_;rintro e w4 ⟨rfl,gw⟩;have gl:=hd_ (gd.out.trans (gw.mono gd.out.size));clear gw gd
  go_wp2_with fail
  refine cm_ (jg.out _ gl.out) ?_;rintro e w5 ⟨rfl,hb5⟩;have gt:=hd_ (gl.out.trans (hb5.mono gl.out.size));clear hb5 gl
  go_wp2_with fail
  go_ret;exact⟨rfl,gt.out⟩
 ·have en:¬ ((dec x).size:Int)+(dec y).size≤18:=by omega
  have S1:=hd_ fun w:World=>Zdt w x
  have S2:=hd_ fun w:World=>Zdt w y
  have av:=hd_ fun w:World=>Zc1 w x hx
  have au:=hd_ fun w:World=>Zc1 w y hy
  unfold Zfo at av au;have HT:=hd_ fun (W:World) (a1 a2:Option Addr) (c1 c2:Nat) (h1:Rd W a1 (Qt (nI (Kf x)))) (h2:Rd W a2 (Qt (nI (Kf y))))=>Zp4 W a1 a2 c1 c2 (Kf x) (Kf y) h1 h2 (Ko _) (Ko _) (Zaz x hx) (Zaz y hy)
  rw[Kq,Kq] at HT;unfold Zfo at HT;have JI:(Kf (x*y)).length≤1000000:=by
   have h1:=Zfg x y;have h2:=Zaz x hx;have h3:=Zaz y hy;omega
  have HG:=hd_ fun (W:World) (a:Option Addr) (c:Nat) (h:Rd W a (Qt (nI (Kf (x*y))))) (hc:(Kf (x*y)).length≤c) (LW:Qd W)=>Zgk W a c (Kf (x*y)) h (Ko _) JI hc LW
  rw[Kq] at HG;have HL:=hd_ L;clear hx hy L JI;generalize dec (x*y)=r at *
  generalize dec x=s1 at *
  generalize dec y=s2 at *
  obtain⟨lp,hlp⟩:∃ lp,(Kf x).length=lp:=⟨_,rfl⟩;obtain⟨lq,Ao⟩:∃ lq,(Kf y).length=lq:=⟨_,rfl⟩;obtain⟨lr,JO⟩:∃ lr,(Kf (x*y)).length=lr:=⟨_,rfl⟩;rw[hlp] at av HT;rw[Ao] at au HT;rw[JO] at HT HG;clear hlp Ao JO;go_enter Tryz.func44,Tryz.ntmps44
  go_wp2_with fail
  refine cm_ (D1.out _) ?_;rintro e w1 ⟨rfl,hZ⟩;have HQ:=hd_ hZ;clear hZ
  go_wp2_with fail
  refine cm_ (D2.out _) ?_;rintro e w2 ⟨rfl,HU⟩;have H6:=hd_ (HQ.out.trans (HU.mono HQ.out.size));clear HU HQ
  go_wp2_with fail
  refine cm_ (S1.out _) ?_;rintro e w3 ⟨rfl,hb3⟩;have gd:=hd_ (H6.out.trans (hb3.mono H6.out.size));clear hb3 H6
  go_wp2_with fail
  refine cm_ (S2.out _) ?_;rintro e w4 ⟨rfl,gw⟩;have gl:=hd_ (gd.out.trans (gw.mono gd.out.size));clear gw gd
  go_wp2_with fail
  refine cm_ (D1.out _) ?_;rintro e w5 ⟨rfl,hb5⟩;have gt:=hd_ (gl.out.trans (hb5.mono gl.out.size));clear hb5 gl
  go_wp2_with fail
  refine cm_ (av.out _) ?_;rintro e w6 ⟨a1,c1,rfl,r1,gK,hb6⟩;have gM:=hd_ (gt.out.trans (hb6.mono gt.out.size));have R1:=hd_ r1;clear hb6 gt r1 gK
  go_wp2_with fail
  refine cm_ (D2.out _) ?_;rintro e w7 ⟨rfl,hb7⟩;have fw:=hd_ (gM.out.trans (hb7.mono gM.out.size));replace R1:=hd_ (R1.out.below hb7 nr_);clear hb7 gM
  go_wp2_with fail
  refine cm_ (au.out _) ?_;rintro e w8 ⟨a2,c2,rfl,r2,Gk,GE⟩;have dh:=hd_ (fw.out.trans (GE.mono fw.out.size));replace R1:=hd_ (R1.out.below GE nr_);have R2:=hd_ r2;clear GE fw r2 Gk
  go_wp2_with fail
  refine cm_ (HT.out _ a1 a2 c1 c2 R1.out R2.out) ?_;rintro e w9 ⟨a3,c3,rfl,r3,Ge,Ew⟩;have C9:=hd_ (dh.out.trans (Ew.mono dh.out.size));have R3:=hd_ r3;have eX:=hd_ Ge;clear Ew dh r3 Ge R1 R2 HT
  go_wp2_with fail
  refine cm_ (HG.out _ a3 c3 R3.out eX.out (HL.out.below C9.out)) ?_;rintro e w10 ⟨rfl,hb10⟩;have Cx:=hd_ (C9.out.trans (hb10.mono C9.out.size));clear hb10 C9
  go_wp2_with fail
  go_ret;exact⟨rfl,Cx.out⟩
theorem Zc4(w:World)(b n:Nat)(hb:1≤b)(hN:Num (b^(2*n+2)))(hn:n≤1000000)(L:Qd w):
  Kc Tryz.prog 45 #[.string (dec b),.int .i64 n] w (.string (dec (b^n))):=by
 unfold Kc;have HN:Hid (∀ k,k≤2*n+2→Num (b^k)):=fun k hk=>Nat.le_trans (Zpl (Nat.pow_le_pow_right hb hk)) hN
 have HM:=hd_ fun (W:World) (x y:Nat) (hx:x≤2*n+2) (hy:y≤2*n+2) (hW:Below w.heap.size w W)=>Zv6 W (b^x) (b^y) (HN.out x hx) (HN.out y hy) (L.below hW)
 have H1:Hid (dec (b^0)=⟨#[49]⟩):=by show _=_;rw[Nat.pow_zero,Vg]
 have HQ:Hid (dec b=dec (b^1)):=by show _=_;rw[Nat.pow_one]
 clear hN L;go_enter Tryz.func45,Tryz.ntmps45
 go_wp2_with fail
 go_loopw [0,1,5] (fun A m o wr=>∃ (k x y:Nat),A = .string (dec (b^y))∧m = .int .i64 k∧o = .string (dec (b^x))∧k≤n∧Hid (x+y*k=n)∧Hid (y≤2*n+2)∧Hid (Below w.heap.size w wr)) (fun _ m _ _=>(intOf m).toNat)
 case atStart =>
  refine⟨n,0,1,by rw[HQ.out],rfl,by rw[H1.out],Nat.le_refl _,?_,?_,Below.refl _ _⟩
  ·show _=_;omega
  ·show _≤_;omega
 case round =>
  obtain⟨k,x,y,rfl,rfl,rfl,hk,Hxy,Hy,HB⟩:=hrel
  by_cases DZ:k=0
  ·subst DZ;have dS:¬ (0:Int)<((0:Nat):Int):=by omega
   have Bl:Hid (x=n):=by show _=_;have:=Hxy.out;omega
   go_wp2_with fail
   go_ret;exact⟨by rw[Bl.out];rfl,HB.out⟩
  ·have dS:(0:Int)<k:=by omega
   have Hx:Hid (x≤2*n+2):=by show _≤_;have:=Hxy.out;omega
   have Mm:Hid (y≤n):=by
    show _≤_
    have:=Hxy.out
    have h2:y*1≤y*k:=Nat.mul_le_mul_left _ (by omega)
    omega
   have NP:Int.tdiv (k:Int) 2=((k/2:Nat):Int):=by rw[Int.tdiv_eq_ediv_of_nonneg (by omega)];omega
   have mO:(k:Int)/2=((k/2:Nat):Int):=by omega
   have OD:IntKind.i64.wrap ((k/2:Nat):Int)=((k/2:Nat):Int):=iw_ _ (by omega)
   have lO:Hid (Kc Tryz.prog 44 #[.string (dec (b^y)),.string (dec (b^y))] wr (.string (dec (b^(y+y))))):=by
    have:=HM.out wr y y Hy.out Hy.out HB.out
    rw[← Nat.pow_add] at this;exact this
   have Lh:Hid (x+(y+y)*(k/2)=n∨k%2=1):=by
    by_cases h:k%2=1
    ·exact .inr h
    ·refine .inl ?_;have h1:=Hxy.out;obtain⟨u,rfl⟩:∃ u,k=2*u:=⟨k/2,by omega⟩
     rw[show (2*u)/2=u by omega,Nat.add_mul]
     rw[Nat.mul_left_comm] at h1;omega
   have IB:Hid (k%2=1→x+y+(y+y)*(k/2)=n):=fun h=>by
    have h1:=Hxy.out;obtain⟨u,rfl⟩:∃ u,k=2*u+1:=⟨k/2,by omega⟩
    rw[show (2*u+1)/2=u by omega,Nat.add_mul]
    rw[Nat.mul_add,Nat.mul_left_comm] at h1;omega
   have Ef:Hid (k/2<k∧k/2≤n):=⟨by omega,by omega⟩
   have pK:Hid (0<k/2→2*y≤n):=fun h=>by
    have:=Hxy.out
    have h2:y*2≤y*k:=Nat.mul_le_mul_left _ (by omega)
    omega
   have Hz:Hid (¬ 0<k/2→k=1):=fun h=>by omega
   by_cases Fj:k%2=1
   ·have BT:Int.tmod (k:Int) 2=1:=by rw[Int.tmod_eq_emod_of_nonneg (by omega)];omega
    have ig:(k:Int)%2=1:=by omega
    have f':Hid (Kc Tryz.prog 44 #[.string (dec (b^x)),.string (dec (b^y))] wr (.string (dec (b^(x+y))))):=by
     have:=HM.out wr x y Hx.out Hy.out HB.out
     rw[← Nat.pow_add] at this;exact this
    have Ip:Hid (∀ W,Below w.heap.size w W→Kc Tryz.prog 44 #[.string (dec (b^y)),.string (dec (b^y))] W (.string (dec (b^(y+y))))):=fun W hW=>by
     have:=HM.out W y y Hy.out Hy.out hW
     rw[← Nat.pow_add] at this;exact this
    replace IB:=hd_ (IB.out Fj);clear Fj lO Lh;generalize hh:k/2=h at *
    clear hh;have Ei:=HB
    go_wp2_with fail
    refine cm_ f'.out ?_;rintro e w5 ⟨rfl,hb5⟩;have B5:=hd_ (HB.out.trans (hb5.mono HB.out.size));clear hb5 HB Ei f'
    by_cases NH:0<h
    ·have iu:(0:Int)<h:=by omega
     have jT:Hid (y+y≤2*n+2):=by show _≤_;have:=Mm.out;omega
     go_wp2_with fail
     refine cm_ (Ip.out _ B5.out) ?_;rintro e w6 ⟨rfl,hb6⟩;have B6:=hd_ (B5.out.trans (hb6.mono B5.out.size));clear hb6 B5 Ip
     go_wp2_with fail
     refine⟨⟨h,x+y,y+y,rfl,rfl,rfl,Ef.out.2,IB,jT,B6⟩,?_⟩;have:=Ef.out.1
     simp[intOf];omega
    ·have iu:¬ (0:Int)<h:=by omega
     have E3:Hid (x+y+y*h=n):=by
      show _=_
      have h1:=IB.out;obtain rfl:h=0:=by omega
      rw[Nat.mul_zero] at h1 ⊢;exact h1
     go_wp2_with fail
     refine⟨⟨h,x+y,y,rfl,rfl,rfl,Ef.out.2,E3,Hy,B5⟩,?_⟩;have:=Ef.out.1
     simp[intOf];omega
   ·have BT:Int.tmod (k:Int) 2=0:=by rw[Int.tmod_eq_emod_of_nonneg (by omega)];omega
    have ig:(k:Int)%2=0:=by omega
    have E3:Hid (x+(y+y)*(k/2)=n):=by
     rcases Lh.out with h|h
     ·exact h
     ·exact absurd h Fj
    have NH:0<k/2:=by omega
    have iu:(0:Int)<((k/2:Nat):Int):=by omega
    have jT:Hid (y+y≤2*n+2):=by show _≤_;have:=Mm.out;omega
    clear Fj Lh IB;generalize hh:k/2=h at *
    clear hh
    go_wp2_with fail
    refine cm_ lO.out ?_;rintro e w6 ⟨rfl,hb6⟩;have B6:=hd_ (HB.out.trans (hb6.mono HB.out.size));clear hb6 HB lO
    go_wp2_with fail
    refine⟨⟨h,x,y+y,rfl,rfl,rfl,Ef.out.2,E3,jT,B6⟩,?_⟩;have:=Ef.out.1
    simp[intOf];omega
theorem Zr0(n:Nat)(_:n<18446744073709551616):bits .and .u64 (n:Int) 4294967295=((n%4294967296:Nat):Int):=by
 have h1:(BitVec.ofInt 64 4294967295).toNat=2^32-1:=by decide
 have Gm:(BitVec.ofInt 64 (n:Int) &&& BitVec.ofInt 64 4294967295).toNat=((n:Int)%((2^64:Nat):Int)).toNat%2^32:=by
  rw[BitVec.toNat_and,BitVec.toNat_ofInt,h1,Nat.and_two_pow_sub_one_eq_mod]
 show IntKind.u64.wrap ((BitVec.ofInt 64 (n:Int) &&& BitVec.ofInt 64 4294967295).toNat:Nat)=_
 rw[Gm];have e:((n:Int)%((2^64:Nat):Int)).toNat%2^32=n%4294967296:=by
  have:((2^64:Nat):Int)=18446744073709551616:=by decide
  rw[this];omega
 rw[e];exact Zad _ (by omega)
structure BtO (n t:Nat) (L:List Nat) (a:Option Addr) (c:Nat) (w wr:World):Prop where
 own:Qy wr w.heap.size a c L
 wd:Zpw L
 v:vS L=val ((Kf n).drop t)
 top:L.length=0∨4294967296^(L.length-1)≤vS L
 ln:L.length+t≤(Kf n).length
 bel:Below w.heap.size w wr
structure BtI (L:List Nat) (x k cc:Nat) (M:List Nat) (a:Option Addr) (c:Nat) (w wr:World):Prop where
 len:M.length=L.length
 wd:Zpw M
 same:∀ j,k≤j→M.getD j 0=L.getD j 0
 v:vS (M.take k)+4294967296^k*cc=1000000000*vS (L.take k)+x
 own:Qy wr w.heap.size a c M
 bel:Below w.heap.size w wr
theorem Zrx(l:List Nat)(t:Nat)(h:t<l.length):val (l.drop t)=l.getD t 0+1000000000*val (l.drop (t+1)):=by
 rw[List.drop_eq_getElem_cons h,val];have e:l.getD t 0=l[t]:=by rw[List.getD_eq_getElem?_getD,List.getElem?_eq_getElem h];rfl
 rw[e]
theorem Zxl(w:World)(n k:Nat)(hn:Num n)(ao:18446744073709551616≤n)(h1:2^k≤n)(h2:n<2^(k+1))(hk:k≤100000000)(L:Qd w):
  Kc Tryz.prog 127 #[.string (dec n)] w (.int .i64 ((k+1:Nat):Int)):=by
 unfold Kc;have fN:(dec n).size≤1000000:=hn;have h:=Zbq w n (by omega) L
 rw[if_neg (by omega)] at h
 have HS:=hd_ h;have HC:=hd_ (fun W=>Zva W n hn)
 have Hk:Hid (∀ N m t a,n=a+4294967296^N*t→a<4294967296^N→2^m≤t→t<2^(m+1)→k=32*N+m):=fun N m t a e1 e2 e3 e4=>Zxk n k m N t a e1 e2 e3 e4 h1 h2
 have Hl:Hid (∀ (b:Nat) (W:World),b<18446744073709551616→Calls Tryz.prog 191 #[.int .u64 b] W fun e w'=>e = .returned (.int .i64 (Lib.bitLen b))∧w'=W):=fun b W hb=>Tryz.bits_Len64 b W (by omega) (by omega)
 have gh:(Kf n).length≤400000:=Zaz n hn;have lX:Hid (0<(Kf n).length):=by
  show 0<_
  rw[Vl (show 0<n by omega)];simp
 have Hp:=hd_ (Ko n);have bz:Hid (val ((Kf n).drop 0)=n):=by show _=_;rw[List.drop_zero,Kq]
 unfold Zde at HC;clear h L hn h1 h2 fN;obtain⟨N,hN⟩:∃ N,(Kf n).length=N:=⟨_,rfl⟩;have HN:=hd_ hN;rw[hN] at gh HC;clear hN;generalize dec n=s at *
 go_enter Tryz.func127,Tryz.ntmps127
 go_wp2_with fail
 refine cm_ HS.out ?_;rintro e w1 ⟨rfl,hZ⟩;have B1:=hd_ hZ;clear hZ HS
 go_wp2_with fail
 refine cm_ (HC.out _) ?_;rintro e w2 ⟨ap,cp,rfl,ho,HU⟩;have B2:=hd_ (B1.out.trans (HU.mono B1.out.size));have RP:=hd_ ho.reads;clear HU B1 HC ho;have pv:IntKind.i64.wrap ((N:Int)-1)=(N:Int)-1:=iw_ _ (by omega)
 go_wp2_with fail
 go_loopw [5,7] (fun o i wr=>∃ (a:Option Addr) (c t:Nat) (L:List Nat),o = .slice a L.length c∧i = .int .i64 ((t:Int)-1)∧t≤N∧Hid (BtO n t L a c w2 wr)) (fun _ i _=>(intOf i+1).toNat)
 case atStart =>
  refine⟨none,0,N,[],rfl,rfl,Nat.le_refl _,⟨Qy.nil w2 w2.heap.size,fun _ h=>absurd h List.not_mem_nil,?_,.inl rfl,?_,Below.refl _ _⟩⟩
  ·rw[← HN.out,List.drop_length];rfl
  ·rw[HN.out];simp
 case round =>
  obtain⟨a,c,t,L,rfl,rfl,ht,HO⟩:=hrel
  by_cases ht0:0<t
  ·obtain⟨i,rfl⟩:∃ i,t=i+1:=⟨t-1,by omega⟩
   have JW:((i+1:Nat):Int)-1=(i:Int):=by omega
   have NG:(i:Int)+1-1=(i:Int):=by omega
   have bX:(0:Int)≤i:=by omega
   have Au:IntKind.i64.wrap ((i:Int)-1)=(i:Int)-1:=iw_ _ (by omega)
   obtain⟨b,o,rfl,hb,Ec⟩:=RP.out.open lX.out;have cx:=Ec i (by rw[HN.out];omega)
   rw[← HO.out.bel.cell (p:=⟨b,o+i,none⟩) hb] at cx;have hx:=Hp.out.getD i;have oP:=hd_ (Zrx (Kf n) i (by rw[HN.out];omega))
   generalize (Kf n).getD i 0=x at *
   have ll:=HO.out.ln;rw[HN.out] at ll;have G3:Hid (BtI L x 0 x L a c w2 wr):=⟨rfl,HO.out.wd,fun _ _=>rfl,by simp[vS],HO.out.own,HO.out.bel⟩
   obtain⟨m,hm⟩:∃ m,L.length=m:=⟨_,rfl⟩;have Hm:=hd_ hm;rw[hm] at ll ⊢;clear hm Ec;rw[JW]
   go_wp2_with fail
   go_loopw [8,33] (fun cv z w9=>∃ (k cc:Nat) (M:List Nat),k≤m∧cc<1000000000∧cv = .int .u64 cc∧z = .int .i64 k∧Hid (BtI L x k cc M a c w2 w9)) (fun _ z _=>m-(intOf z).toNat)
   case atStart=>exact⟨0,x,L,Nat.zero_le _,hx,rfl,rfl,G3⟩
   case round =>
    obtain⟨k,cc,M,hk,et,rfl,rfl,HI⟩:=hrel;clear G3 cx
    by_cases il:k<m
    ·obtain⟨g,rfl,fP,fO,hg3,hg4,hg5⟩:=HI.out.own.open (by rw[HI.out.len,Hm.out];omega)
     have ce:=hg4 k (by rw[HI.out.len,Hm.out];exact il)
     have fe:=hg5 k;have he:=HI.out.wd.getD k;have Gz:=HI.out.same k nr_;obtain⟨e,hee⟩:∃ e,M.getD k 0=e:=⟨_,rfl⟩;rw[hee] at ce he Gz;obtain⟨r,hr⟩:∃ r,(cc+e*1000000000)%4294967296=r:=⟨_,rfl⟩;obtain⟨q,hq⟩:∃ q,(cc+e*1000000000)/4294967296=q:=⟨_,rfl⟩;have fT:=Zuv L M k cc x r q e (by rw[HI.out.len,Hm.out];exact il) (by rw[Hm.out];exact il) Gz.symm HI.out.v (by omega)
     have gn:Hid (BtI L x (k+1) q (M.set k r) (some ⟨g,0,none⟩) c w2 (wr.setCell ⟨g,k,none⟩ (.int .u64 (r:Nat)))) :=
      ⟨by rw[List.length_set];exact HI.out.len,HI.out.wd.set _ _ (by omega),fun j hj=>by rw[Ye _ _ _ _ (by omega)];exact HI.out.same j (by omega),fT,HI.out.own.store k r,HI.out.bel.setCell (p:=⟨g,k,none⟩) fP _⟩
     obtain⟨E,hE⟩:∃ E,e*1000000000=E:=⟨_,rfl⟩;obtain⟨T,hT⟩:∃ T,cc+E=T:=⟨_,rfl⟩;rw[hE,hT] at hr hq;have Np:q<1000000000:=by omega
     have fM:IntKind.u64.wrap ((e:Int)*1000000000)=(E:Int):=by rw[show (e:Int)*1000000000=(E:Int) by omega];exact Zad _ (by omega)
     have fL:IntKind.u64.wrap ((cc:Int)+(E:Int))=(T:Int):=by rw[show (cc:Int)+(E:Int)=(T:Int) by omega];exact Zad _ (by omega)
     have DN:=Zr0 T (by omega)
     rw[hr] at DN;have Ea:(T:Int)/4294967296=(q:Int):=by omega
     have JS:(k:Int)<m:=by omega
     have dR:IntKind.i64.wrap ((k:Int)+1)=((k+1:Nat):Int):=by rw[← Int.natCast_succ];exact iw_ _ (by omega)
     have N7:T<18446744073709551616:=by omega
     clear fT hg4 hg5 Gz hee HI hr hq hE hT he
     go_wp2_with fail
     refine⟨⟨k+1,q,M.set k r,by omega,Np,rfl,by go_num,gn⟩,by simp[intOf];omega⟩
    ·obtain rfl:k=m:=by omega
     have JS:¬ (k:Int)<k:=by omega
     have e1:M.take k=M:=List.take_of_length_le (by rw[HI.out.len,Hm.out];exact Nat.le_refl _)
     have e2:L.take k=L:=List.take_of_length_le (by rw[Hm.out];exact Nat.le_refl _)
     have hv:=HI.out.v;rw[e1,e2,HO.out.v] at hv;have jy:=oP.out;have jA:vS L≤vS M+4294967296^k*cc:=by rw[hv,HO.out.v];omega
     have FW:k=0∨4294967296^(k-1)≤vS L:=by
      have:=HO.out.top
      rw[Hm.out] at this;exact this
     have cG:M.length=k:=by rw[HI.out.len,Hm.out]
     by_cases fB:cc=0
     ·subst fB;have iE:¬ (0:Int)<0:=by omega
      rw[Nat.mul_zero,Nat.add_zero] at hv jA;have EK:Hid (BtO n i M a c w2 wr):=⟨HI.out.own,HI.out.wd,by rw[jy,hv];omega,by rw[cG];exact FW.elim (fun h => .inl h) (fun h => .inr (Nat.le_trans h jA)),by rw[cG,HN.out];omega,HI.out.bel⟩
      clear hv jy jA FW e1 e2 HI HO;have oa:M.length=k:=cG
      go_wp2_with fail
      refine⟨⟨a,c,i,M,by rw[cG],rfl,by omega,EK⟩,by simp[intOf]⟩
     ·have iE:(0:Int)<cc:=by omega
      have gH:wr.ownsRow w2.heap.size 193 1 (.slice a k c) k (Zu M):=by have:=HI.out.own;unfold Qy at this;rw[cG] at this;exact this
      have gA:=hd_ gH;have HB:=hd_ HI.out.bel;have EK:Hid (∀ a3 c3 w3,Qy w3 w2.heap.size a3 c3 (M++[cc])→Below w2.heap.size w2 w3→BtO n i (M++[cc]) a3 c3 w2 w3):=fun a3 c3 w3 ho hb=>by
       refine⟨ho,HI.out.wd.snoc (by omega),?_,.inr ?_,?_,hb⟩
       ·rw[Zmm,cG,hv,jy];omega
       ·rw[Zmm,cG,List.length_append,cG]
        show 4294967296^(k+1-1)≤_
        rw[Nat.add_sub_cancel];have:=Nat.mul_le_mul_left (4294967296^k) (show 1≤cc by omega)
        omega
       ·rw[List.length_append,cG,HN.out];simp;omega
      have nC:=hd_ cG;clear hv jy jA FW e1 e2 HI HO gH cG
      go_wp2_with (at_builtin;refine Km rfl (.tmp 53) (.tmp 55) 194 rfl Qcu _ 1 [.int .u64 cc] rfl rfl gA.out HB.out.size rfl ?c1 (by omega) (by omega) ?_)
      case c1=>first | rfl | (intro u hu;obtain rfl:=List.mem_singleton.1 hu;rfl)
      intro v' w3 ge hg3 _;obtain⟨a3,c3,rfl⟩:=Qk ge;have eX:=hd_ (EK.out a3 c3 w3 (by
       unfold Qy;rw[List.length_append,nC.out,Ve];exact ge) ((HB.out.alloc HB.out.size _).grown hg3 (by have:=HB.out.size;simp;omega) (fun k hk=>(gA.out.lt k hk).1)))
      clear ge hg3 EK gA HB;have Nz:(M++[cc]).length=k+1:=by rw[List.length_append,nC.out];rfl
      go_wp2_with fail
      refine⟨⟨a3,c3,i,M++[cc],by rw[Nz],rfl,by omega,eX⟩,by simp[intOf]⟩
  ·obtain rfl:t=0:=by omega
   have hv:=HO.out.v;rw[bz.out] at hv;have gq:0<L.length:=by
    rcases Nat.eq_zero_or_pos L.length with h0|h0
    ·rw[List.eq_nil_of_length_eq_zero h0] at hv;simp[vS] at hv;omega
    ·exact h0
   obtain⟨m,hm⟩:∃ m,L.length=m+1:=⟨L.length-1,by omega⟩
   have FW:4294967296^m≤vS L:=by
    rcases HO.out.top with h|h
    ·omega
    ·rw[hm,Nat.add_sub_cancel] at h;exact h
   have A6:=Zco L m (by omega)
   rw[List.take_of_length_le (by omega),hv] at A6
   have gJ:=Qaj (HO.out.wd.take m);rw[List.length_take,Nat.min_eq_left (by omega)] at gJ
   have hd:=HO.out.wd.getD m;rw[hv] at FW;obtain⟨g,rfl,fP,fO,hg3,hg4,-⟩:=HO.out.own.open gq;have cx:=hg4 m (by omega)
   have FZ:=HO.out.ln;rw[hm,HN.out] at FZ;obtain⟨tt,htt⟩:∃ tt,L.getD m 0=tt:=⟨_,rfl⟩;rw[htt] at A6 hd cx;have mo:tt≠0:=by
    intro h;subst h;rw[Nat.mul_zero] at A6;omega
   obtain⟨bl,Fu⟩:∃ bl,Lib.bitLen tt=bl:=⟨_,rfl⟩;obtain⟨b1,b2,b3⟩:=Zmb mo (by omega) Fu
   have Dp:=Hk.out m (bl-1) tt _ A6 gJ b2 (by rw[Nat.sub_add_cancel b1];exact b3)
   have iN:=hd_ (Hl.out tt wr (by omega))
   rw[Fu] at iN;have HB:=hd_ (B2.out.trans (HO.out.bel.mono B2.out.size));have NU:bl≤64:=by
    refine Nat.le_of_not_lt fun hc=>?_
    have:2^64≤2^(bl-1):=Nat.pow_le_pow_right (by decide) (by omega)
    omega
   have e1:IntKind.i64.wrap ((m:Int)+1-1)=(m:Int):=by rw[show (m:Int)+1-1=m by omega];exact iw_ _ (by omega)
   have Mf:IntKind.i64.wrap (((m+1:Nat):Int)-1)=(m:Int):=by rw[show ((m+1:Nat):Int)-1=m by omega];exact iw_ _ (by omega)
   have e2:IntKind.i64.wrap (32*(m:Int))=32*(m:Int):=iw_ _ (by omega)
   have e3:IntKind.i64.wrap (32*(m:Int)+(bl:Int))=((k+1:Nat):Int):=by rw[show 32*(m:Int)+(bl:Int)=((k+1:Nat):Int) by omega];exact iw_ _ (by omega)
   have hz:((0:Nat):Int)-1 = -1:=by omega
   rw[hm,hz];have e0:wrap64 (m:Int)=(m:Int):=IntWalk.wrap64_in _ ⟨by clear e1 Mf e2 e3;omega,by clear e1 Mf e2 e3;omega⟩
   clear hv gq FW A6 gJ hd hg4 FZ htt mo Fu b1 b2 b3 Dp HO Hk bz hm ht0
   go_wp2_with fail
   refine cm_ iN.out ?_;rintro e_ w9 ⟨rfl,rfl⟩
   go_wp2_with fail
   go_ret;exact⟨rfl,HB.out⟩
theorem Zxj(w:World)(n k:Nat)(h0:n≠0)(ao:n<18446744073709551616)(h1:2^k≤n)(h2:n<2^(k+1))(L:Qd w):
  Kc Tryz.prog 127 #[.string (dec n)] w (.int .i64 ((k+1:Nat):Int)):=by
 unfold Kc;have h:=Zbq w n (Nat.le_trans (show (dec n).size≤20 from (Zc n 20 (by decide)).2 (by omega)) (by decide)) L
 rw[if_pos ao] at h;have H:=hd_ h;have Hl:Hid (∀ W:World,Calls Tryz.prog 191 #[.int .u64 n] W fun e w'=>e = .returned (.int .i64 ((k+1:Nat):Int))∧w'=W):=fun W=>by
  have:=Tryz.bits_Len64 n W (by omega) (by omega)
  obtain⟨b1,b2,b3⟩:=Zmb h0 ao rfl;have a1:=(Nat.pow_lt_pow_iff_right (a:=2) (by decide)).1 (Nat.lt_of_le_of_lt h1 b3)
  have a2:=(Nat.pow_lt_pow_iff_right (a:=2) (by decide)).1 (Nat.lt_of_le_of_lt b2 h2)
  rw[show ((n:Nat):Int).toNat=n from rfl,show Lib.bitLen n=k+1 by omega] at this
  exact this
 clear L h h0 ao h1 h2;generalize dec n=s at *
 generalize ((k+1:Nat):Int)=r at *
 go_enter Tryz.func127,Tryz.ntmps127
 go_wp2_with fail
 refine cm_ H.out ?_;rintro e w1 ⟨rfl,hZ⟩;have B1:=hd_ hZ;clear hZ H
 go_wp2_with fail
 refine cm_ (Hl.out _) ?_;rintro e w2 ⟨rfl,rfl⟩;clear Hl
 go_wp2_with fail
 go_ret;exact⟨rfl,B1.out⟩
theorem Zux(w:World)(n k:Nat)(hn:Num n)(h1:2^k≤n)(h2:n<2^(k+1))(hk:k≤100000000)(L:Qd w):
  Kc Tryz.prog 127 #[.string (dec n)] w (.int .i64 ((k+1:Nat):Int)):=by
 have h0:n≠0:=by have:=Nat.two_pow_pos k;omega
 rcases Nat.lt_or_ge n 18446744073709551616 with h|h
 ·exact Zxj w n k h0 h h1 h2 L
 ·exact Zxl w n k hn h h1 h2 hk L
theorem Zm4(w:World)(x1 x2 y1 y2:Option Addr)(e1 e2 g1 g2 d g:Nat)(tx ty:List (Int×Int))(X:Vq w tx x1 x2)(Y:Vq w ty y1 y2)(L:Qd w)
  (hy:∀ x∈ty,okT 100000 x) (hd:d≤10000) (hg:g≤10000) (fu:0<d) (fQ:0<g)
  (h1:0≤Zbp tx) (h2:Zbp tx≤Vr tx) (h3:(∀ x∈tx,okT 100000 x)→Vr tx≤100000000000000) (h4:0<Zbp ty) (h5:Zbp ty≤Vr ty) (h6:Vr ty≤100000000000000) :
  Calls Tryz.prog 221 #[.agg (Kr x1 e1 x2 e2 tx.length d),.agg (Kr y1 g1 y2 g2 ty.length g)] w fun e w'=>∃ q b,e = .returned (.tuple #[.int .i64 q,.bool b])∧(b=true→(∀ x∈tx,okT 100000 x)∧q=Zbp tx*g/(Vr ty*d))∧Below w.heap.size w w':=by
 obtain⟨one,fU,hone2⟩:∃ one:Bool,(∀ W,Below w.heap.size w W→Kc Tryz.prog 210 #[.agg (Kr x1 e1 x2 e2 tx.length d),.int .i64 100000] W (if one then .tuple #[.int .i64 (Zbp tx),.int .i64 (Vr tx),.bool true] else .tuple #[.int .i64 0,.int .i64 0,.bool false]))∧(one=true→∀ x∈tx,okT 100000 x):=by
  by_cases hx:∀ x∈tx,okT 100000 x
  ·refine⟨true,fun W hW=>?_,fun _=>hx⟩
   have:=Zfy W x1 x2 e1 e2 d tx 100000 (by decide) (by decide) X.len (X.below hW).r1 (X.below hW).r2 X.p X.z (L.below hW)
   unfold Zem at this;rw[if_pos hx] at this;exact this
  ·refine⟨false,fun W hW=>?_,fun h=>by cases h⟩
   have:=Zfy W x1 x2 e1 e2 d tx 100000 (by decide) (by decide) X.len (X.below hW).r1 (X.below hW).r2 X.p X.z (L.below hW)
   unfold Zem at this;rw[if_neg hx] at this;exact this
 have G2:=hd_ fU;have F4:=hd_ hone2;have dF:Hid (∀ W,Below w.heap.size w W→Kc Tryz.prog 210 #[.agg (Kr y1 g1 y2 g2 ty.length g),.int .i64 100000] W (.tuple #[.int .i64 (Zbp ty),.int .i64 (Vr ty),.bool true])):=fun W hW=>by
  have:=Zfy W y1 y2 g1 g2 g ty 100000 (by decide) (by decide) Y.len (Y.below hW).r1 (Y.below hW).r2 Y.p Y.z (L.below hW)
  unfold Zem at this;rw[if_pos hy] at this;exact this
 have jZ:Hid (∀ W,Below w.heap.size w W→Kc Tryz.prog 239 #[.string (dec d)] W (.tuple #[.int .i64 d,.bool true])):=fun W hW=>by
  have:=Zei W (d:Int) (Kw (D:=5) (show (d:Int).natAbs<10^5 by omega) (by decide) (by decide)) (L.below hW)
  rw[if_pos (by omega),Kj] at this
  exact this
 have Ga:Hid (∀ W,Below w.heap.size w W→Kc Tryz.prog 239 #[.string (dec g)] W (.tuple #[.int .i64 g,.bool true])):=fun W hW=>by
  have:=Zei W (g:Int) (Kw (D:=5) (show (g:Int).natAbs<10^5 by omega) (by decide) (by decide)) (L.below hW)
  rw[if_pos (by omega),Kj] at this
  exact this
 have n5:¬ (d:Int) > 10000:=by omega
 have n6:¬ (g:Int) > 10000:=by omega
 clear X Y L fU hy;generalize hxh:Vr tx=xh at *
 generalize Zbp tx=xl at *
 generalize Zbp ty=yl at *
 generalize Vr ty=yh at *
 generalize tx.length=n at *
 generalize ty.length=m at *
 have R1:Hid (((w.alloc (.cells (Kr x1 e1 x2 e2 n d) 163)).alloc (.cells (Kr y1 g1 y2 g2 m g) 163)).heap[w.heap.size]?=some (.cells #[.slice x1 n e1,.slice x2 n e2,.string (dec d)] 163 (0,0))):=Kl (Qq w _ _ _ rfl) _;have R2:Hid (((w.alloc (.cells (Kr x1 e1 x2 e2 n d) 163)).alloc (.cells (Kr y1 g1 y2 g2 m g) 163)).heap[w.heap.size+1]?=some (.cells #[.slice y1 m g1,.slice y2 m g2,.string (dec g)] 163 (0,0))):=Qq _ _ _ _ (by show (w.heap.push _).size=_;exact Array.size_push ..)
 have B0:Hid (Below w.heap.size w ((w.alloc (.cells (Kr x1 e1 x2 e2 n d) 163)).alloc (.cells (Kr y1 g1 y2 g2 m g) 163))):=by
  show Below _ _ _
  have b1:=(Below.refl w.heap.size w).alloc nr_ (.cells (Kr x1 e1 x2 e2 n d) 163);exact b1.alloc b1.size _
 cases one with
 | false =>
  rw[if_neg Bool.false_ne_true] at G2;clear h1 h2 h3 h4 h5 h6 hone2 F4;go_enter Tryz.func221,Tryz.ntmps221
  go_wp2_with fail
  generalize (w.alloc (.cells (Kr x1 e1 x2 e2 n d) 163)).alloc (.cells (Kr y1 g1 y2 g2 m g) 163)=W0 at *
  refine cm_ (G2.out _ B0.out) ?_;rintro e W1 ⟨rfl,hb⟩;have B1:=hd_ (B0.out.trans (hb.mono B0.out.size));have R3:=hd_ (Kd R1.out hb nr_);have R4:=hd_ (Kd R2.out hb nr_);clear hb B0 R1 R2 G2;obtain⟨k0,k1,k2,-⟩:=Kp R3.out;obtain⟨m0,m1,m2,-⟩:=Kp R4.out
  go_wp2_with fail
  refine cm_ (dF.out _ B1.out) ?_;rintro e W2 ⟨rfl,hb⟩;have B2:=hd_ (B1.out.trans (hb.mono B1.out.size));have R5:=hd_ (Kd R3.out hb nr_);have R6:=hd_ (Kd R4.out hb nr_);clear hb B1 R3 R4 dF k0 k1 k2 m0 m1 m2;obtain⟨k0,k1,k2,-⟩:=Kp R5.out
  go_wp2_with fail
  refine cm_ (jZ.out _ B2.out) ?_;rintro e W3 ⟨rfl,hb⟩;have B3:=hd_ (B2.out.trans (hb.mono B2.out.size));have R8:=hd_ (Kd R6.out hb nr_);clear hb B2 R5 R6 jZ k0 k1 k2;obtain⟨m0,m1,m2,-⟩:=Kp R8.out
  go_wp2_with fail
  refine cm_ (Ga.out _ B3.out) ?_;rintro e W4 ⟨rfl,hb⟩;have B4:=hd_ (B3.out.trans (hb.mono B3.out.size));clear hb B3 R8 Ga m0 m1 m2
  go_wp2_with fail
  go_ret2
  exact⟨0,false,rfl,fun h=>(by cases h),B4.out⟩
 | true =>
  rw[if_pos rfl] at G2;have ov:=h3 (hone2 rfl);have DB:=hd_ (hone2 rfl);clear hone2 h3 F4;have p1:0≤xl*g:=Int.mul_nonneg h1 (by omega)
  have p2:xl*g≤100000000000000*10000:=Int.mul_le_mul (by omega) (by omega) (by omega) (by omega)
  have p3:0≤xh*g:=Int.mul_nonneg (by omega) (by omega)
  have p4:xh*g≤100000000000000*10000:=Int.mul_le_mul (by omega) (by omega) (by omega) (by omega)
  have p5:0<yl*d:=Int.mul_pos h4 (by omega)
  have p6:yl*d≤100000000000000*10000:=Int.mul_le_mul (by omega) (by omega) (by omega) (by omega)
  have p7:0<yh*d:=Int.mul_pos (by omega) (by omega)
  have p8:yh*d≤100000000000000*10000:=Int.mul_le_mul (by omega) (by omega) (by omega) (by omega)
  have w1:IntKind.i64.wrap (xl*g)=xl*g:=iw_ _ (by omega)
  have w2:IntKind.i64.wrap (xh*g)=xh*g:=iw_ _ (by omega)
  have w3:IntKind.i64.wrap (yl*d)=yl*d:=iw_ _ (by omega)
  have w4:IntKind.i64.wrap (yh*d)=yh*d:=iw_ _ (by omega)
  have D1:Hid (∀ W,Kc Tryz.prog 247 #[.int .i64 (xl*g),.int .i64 (yh*d)] W (.int .i64 (xl*g/(yh*d)))):=fun W=>Zfl W _ _ (by omega) p7 (by omega)
  have D2:Hid (∀ W,Kc Tryz.prog 247 #[.int .i64 (xh*g),.int .i64 (yl*d)] W (.int .i64 (xh*g/(yl*d)))):=fun W=>Zfl W _ _ (by omega) p5 (by omega)
  have n1:¬ yh≤0:=by omega
  have n2:¬ yl≤0:=by omega
  have n3:¬ xl<0:=by omega
  have n4:¬ xh<0:=by omega
  clear p1 p2 p3 p4 p5 p6 p7 p8 h2 ov h5 h6 hd hg fu fQ h1 h4;generalize GR:xl*g/(yh*d)=q1 at *
  generalize Gh:xh*g/(yl*d)=q2 at *
  clear GR Gh;go_enter Tryz.func221,Tryz.ntmps221
  go_wp2_with fail
  generalize (w.alloc (.cells (Kr x1 e1 x2 e2 n d) 163)).alloc (.cells (Kr y1 g1 y2 g2 m g) 163)=W0 at *
  refine cm_ (G2.out _ B0.out) ?_;rintro e W1 ⟨rfl,hb⟩;have B1:=hd_ (B0.out.trans (hb.mono B0.out.size));have R3:=hd_ (Kd R1.out hb nr_);have R4:=hd_ (Kd R2.out hb nr_);clear hb B0 R1 R2 G2;obtain⟨k0,k1,k2,-⟩:=Kp R3.out;obtain⟨m0,m1,m2,-⟩:=Kp R4.out
  go_wp2_with fail
  refine cm_ (dF.out _ B1.out) ?_;rintro e W2 ⟨rfl,hb⟩;have B2:=hd_ (B1.out.trans (hb.mono B1.out.size));have R5:=hd_ (Kd R3.out hb nr_);have R6:=hd_ (Kd R4.out hb nr_);clear hb B1 R3 R4 dF k0 k1 k2 m0 m1 m2;obtain⟨k0,k1,k2,-⟩:=Kp R5.out
  go_wp2_with fail
  refine cm_ (jZ.out _ B2.out) ?_;rintro e W3 ⟨rfl,hb⟩;have B3:=hd_ (B2.out.trans (hb.mono B2.out.size));have R8:=hd_ (Kd R6.out hb nr_);clear hb B2 R5 R6 jZ k0 k1 k2;obtain⟨m0,m1,m2,-⟩:=Kp R8.out
  go_wp2_with fail
  refine cm_ (Ga.out _ B3.out) ?_;rintro e W4 ⟨rfl,hb⟩;have B4:=hd_ (B3.out.trans (hb.mono B3.out.size));clear hb B3 R8 Ga m0 m1 m2
  go_wp2_with fail
  refine cm_ (D1.out _) ?_;rintro e W5 ⟨rfl,hb⟩;have B5:=hd_ (B4.out.trans (hb.mono B4.out.size));clear hb B4
  go_wp2_with fail
  refine cm_ (D2.out _) ?_;rintro e W6 ⟨rfl,hb⟩;have B6:=hd_ (B5.out.trans (hb.mono B5.out.size));clear hb B5
  go_wp2_with fail
  go_ret2
  exact⟨q1,_,rfl,fun _=>⟨DB.out,rfl⟩,B6.out⟩
structure Qb2 (ps:List Int) (la lb:List Rat) (E:Nat) (q:Int):Prop where
 pr:∀ p∈ps,p∈Zfr
 n6:ps.length≤6
 kx:∀ x∈tlQ ps la,x.2.natAbs<2^E
 ky:∀ x∈tlQ ps lb,x.2.natAbs<2^E
 d:Qc la<2^E
 g:Qc lb<2^E
 e:E≤3000
 pos:∀ n,n≤1024→0≤LN.eLo (lf n) (tlQ ps la)∧0<LN.eLo (lf n) (tlQ ps lb)
 dec:Zt6 128 (tlQ ps la) (tlQ ps lb) (Qc la) (Qc lb)≠none
 val:∀ n r,n=64∨n=128→Zt6 n (tlQ ps la) (tlQ ps lb) (Qc la) (Qc lb)=some r→r=q
 nr:Zot la lb ps.length (Zaw la lb ps.length)=false
 okt:∀ x∈tlQ ps lb,okT 100000 x
 dd:Qc la≤10000
 gg:Qc lb≤10000
 lo:0≤Zbp (tlQ ps la)
 lh:Zbp (tlQ ps la)≤Vr (tlQ ps la)
 hi:(∀ x∈tlQ ps la,okT 100000 x)→Vr (tlQ ps la)≤100000000000000
 yl:0<Zbp (tlQ ps lb)
 ylh:Zbp (tlQ ps lb)≤Vr (tlQ ps lb)
 yh:Vr (tlQ ps lb)≤100000000000000
 quo:(∀ x∈tlQ ps la,okT 100000 x)→Zbp (tlQ ps la)*Qc lb/(Vr (tlQ ps lb)*Qc la)=q ∧ -9223372036854775808≤q∧q≤9223372036854775807
theorem Zwx(w:World)(ps:List Int)(a0 a1 a2:Option Addr)(c0 c1 c2 D E:Nat)(la lb:List Rat)(q:Int)(A:Zs w ps a0 a1 la D)(B:Zs w ps a0 a2 lb D)(hD0:0<D)(F:Qb2 ps la lb E q)(L:Qd w):
  Kc Tryz.prog 193 #[.slice a0 ps.length c0,.slice a1 la.length c1,.slice a2 lb.length c2] w (.string (itx q)):=by
 unfold Kc;have hn:=A.n;have dB:=A.d;have HL:=hd_ L;have HF:=hd_ F;have Cv:=hd_ F.dec;have hr:=F.nr;have aL:=hd_ (Zss w a1 a2 c1 c2 ps.length D la lb A.rl B.rl A.len B.len A.sm B.sm (by omega) hD0 dB L)
 rw[hr] at aL;have Mz:Hid (∀ W,Below w.heap.size w W→Calls Tryz.prog 100 #[.slice a0 ps.length c0,.slice a1 ps.length c1] W fun e w'=>∃ b1 d1 b2 d2,e = .returned (.agg (Kr b1 d1 b2 d2 (tlQ ps la).length (Qc la)))∧Vq w' (tlQ ps la) b1 b2∧Below W.heap.size W w'):=fun W hW=>by
  have:=Zfs (c0:=c0) (c:=c1) (A.below hW) (L.below hW)
  rw[A.len] at this;exact this
 have My:Hid (∀ W,Below w.heap.size w W→Calls Tryz.prog 100 #[.slice a0 ps.length c0,.slice a2 ps.length c2] W fun e w'=>∃ b1 d1 b2 d2,e = .returned (.agg (Kr b1 d1 b2 d2 (tlQ ps lb).length (Qc lb)))∧Vq w' (tlQ ps lb) b1 b2∧Below W.heap.size W w'):=fun W hW=>by
  have:=Zfs (c0:=c0) (c:=c2) (B.below hW) (L.below hW)
  rw[B.len] at this;exact this
 have hE:=F.e;have lx:(tlQ ps la).length≤6:=Nat.le_trans (by have:=(Zav (Qc la) ps la).length_le;rw[List.length_map] at this;exact this) F.n6
 have ly:(tlQ ps lb).length≤6:=Nat.le_trans (by have:=(Zav (Qc lb) ps lb).length_le;rw[List.length_map] at this;exact this) F.n6
 have fu:=LN.tden_pos' la;have fQ:=LN.tden_pos' lb;have px:PrT (tlQ ps la):=fun x hx=>Ze7 (F.pr _ (Yb hx).1)
 have py:PrT (tlQ ps lb):=fun x hx=>Ze7 (F.pr _ (Yb hx).1)
 have MC:Hid (∀ W x1 x2 y1 y2 e1 e2 g1 g2,Vq W (tlQ ps la) x1 x2→Vq W (tlQ ps lb) y1 y2→Qd W→Calls Tryz.prog 221 #[.agg (Kr x1 e1 x2 e2 (tlQ ps la).length (Qc la)),.agg (Kr y1 g1 y2 g2 (tlQ ps lb).length (Qc lb))] W fun e w'=>∃ z b,e = .returned (.tuple #[.int .i64 z,.bool b])∧(b=true→z=q ∧ -9223372036854775808≤q∧q≤9223372036854775807)∧Below W.heap.size W w'):=fun W x1 x2 y1 y2 e1 e2 g1 g2 X Y LW=>by
  refine cm_ (Zm4 W x1 x2 y1 y2 e1 e2 g1 g2 _ _ _ _ X Y LW F.okt F.dd F.gg fu fQ F.lo F.lh F.hi F.yl F.ylh F.yh) ?_;rintro e w' ⟨z,b,rfl,h,hb⟩;refine⟨z,b,rfl,fun hZ=>?_,hb⟩
  obtain⟨k1,k2⟩:=h hZ;obtain⟨k3,k4⟩:=F.quo k1;exact⟨k2.trans k3,k4⟩
 have Gg:Hid (∀ W q,-9223372036854775808≤q→q≤9223372036854775807→Below w.heap.size w W→Kc Tryz.prog 73 #[.int .i64 q] W (.string (itx q))):=fun W q h1 h2 hW=>Zaj W q h1 h2 (L.below hW)
 have MV:Hid (∀ n r,n=64∨n=128→Zt6 n (tlQ ps la) (tlQ ps lb) (Qc la) (Qc lb)=some r→r=q):=fun n r hn h=>F.val n r hn h
 have Az:Hid (∀ n,n≤1024→(0≤LN.eLo (lf n) (tlQ ps la)∧LN.eLo (lf n) (tlQ ps la)≤LN.eHi (lf n) (tlQ ps la))∧0<LN.eLo (lf n) (tlQ ps lb)):=fun n hn=>⟨⟨(F.pos n hn).1,Zug _ _⟩,(F.pos n hn).2⟩
 have IS:Hid (∀ (n:Nat) W x1 x2 e1 e2,n≤1056→Vq W (tlQ ps la) x1 x2→Qd W→Kc Tryz.prog 172 #[.agg (Kr x1 e1 x2 e2 (tlQ ps la).length (Qc la)),.int .i64 n] W (.tuple #[.string (itx (LN.eLo (lf n) (tlQ ps la))),.string (itx (LN.eHi (lf n) (tlQ ps la)))])):=fun n W x1 x2 e1 e2 hn T LW =>
  Zjy W x1 x2 e1 e2 _ n E _ T px (by omega) F.kx hn LW
 have IR:Hid (∀ (n:Nat) W x1 x2 e1 e2,n≤1056→Vq W (tlQ ps lb) x1 x2→Qd W→Kc Tryz.prog 172 #[.agg (Kr x1 e1 x2 e2 (tlQ ps lb).length (Qc lb)),.int .i64 n] W (.tuple #[.string (itx (LN.eLo (lf n) (tlQ ps lb))),.string (itx (LN.eHi (lf n) (tlQ ps lb)))])):=fun n W x1 x2 e1 e2 hn T LW =>
  Zjy W x1 x2 e1 e2 _ n E _ T py (by omega) F.ky hn LW
 obtain⟨K,hK⟩:∃ K:Nat,K=E+1060+10:=⟨_,rfl⟩;have MZ:Hid (∀ n:Nat,n≤1024→(LN.eLo (lf n) (tlQ ps la)).natAbs<2^K∧(LN.eHi (lf n) (tlQ ps la)).natAbs<2^K):=fun n hn=>by
  obtain⟨h1,h2⟩:=Zj0 (n:=n) (E:=E) (by omega) (tlQ ps la) (by omega) px F.kx
  exact⟨Nat.lt_of_lt_of_le h1 (Nat.pow_le_pow_right (by decide) (by omega)),Nat.lt_of_lt_of_le h2 (Nat.pow_le_pow_right (by decide) (by omega))⟩
 have MY:Hid (∀ n:Nat,n≤1024→(LN.eLo (lf n) (tlQ ps lb)).natAbs<2^K∧(LN.eHi (lf n) (tlQ ps lb)).natAbs<2^K):=fun n hn=>by
  obtain⟨h1,h2⟩:=Zj0 (n:=n) (E:=E) (by omega) (tlQ ps lb) (by omega) py F.ky
  exact⟨Nat.lt_of_lt_of_le h1 (Nat.pow_le_pow_right (by decide) (by omega)),Nat.lt_of_lt_of_le h2 (Nat.pow_le_pow_right (by decide) (by omega))⟩
 have jI:K+K<90000:=by omega
 have J8:Qc la<2^K:=Nat.lt_of_lt_of_le F.d (Nat.pow_le_pow_right (by decide) (by omega))
 have JY:Qc lb<2^K:=Nat.lt_of_lt_of_le F.g (Nat.pow_le_pow_right (by decide) (by omega))
 have HS:Hid (∀ (z:Int) W,Kc Tryz.prog 84 #[.string (itx z)] W (.int .i64 z.sign)):=fun z W=>Yk W z
 have HN:Hid (∀ (z:Int) W,z.natAbs<2^K→Kc Tryz.prog 71 #[.string (itx z)] W (.string (itx (-z)))):=fun z W hz=>Zne W z (Vf hz (by omega))
 have nE:Hid (∀ (a:Int) W,a.natAbs<2^K→Below w.heap.size w W→Kc Tryz.prog 115 #[.string (itx a),.string (dec (Qc la))] W (.string (itx (a*(Qc la:Int))))):=fun a W ha hW=>by
  have:=Qb8 W a (Qc la:Int) K K jI ha (by rw[Int.natAbs_natCast];exact J8) (L.below hW)
  rw[Kj] at this;exact this
 have nD:Hid (∀ (a:Int) W,a.natAbs<2^K→Below w.heap.size w W→Kc Tryz.prog 115 #[.string (itx a),.string (dec (Qc lb))] W (.string (itx (a*(Qc lb:Int))))):=fun a W ha hW=>by
  have:=Qb8 W a (Qc lb:Int) K K jI ha (by rw[Int.natAbs_natCast];exact JY) (L.below hW)
  rw[Kj] at this;exact this
 have AL:Hid (∀ (a b:Int) W,a.natAbs<2^K→b.natAbs<2^K→0<b→Below w.heap.size w W→Kc Tryz.prog 163 #[.string (itx (a*(Qc lb:Int))),.string (itx (b*(Qc la:Int)))] W (.tuple #[.string (itx (a*(Qc lb:Int)/(b*(Qc la:Int)))),.string (itx (a*(Qc lb:Int)%(b*(Qc la:Int)))),.int .i64 0])):=fun a b W ha hb g7 hW =>
  Qdg W _ _ (K+K) jI (Zas ha JY) (Zas hb J8) (Int.mul_pos g7 (by omega)) (L.below hW)
 have Cu:Hid (∀ n,Zt6 n (tlQ ps la) (tlQ ps lb) (Qc la) (Qc lb)=flS (LN.eLo (lf n) (tlQ ps la)) (LN.eHi (lf n) (tlQ ps la)) (LN.eLo (lf n) (tlQ ps lb)) (LN.eHi (lf n) (tlQ ps lb)) (Qc lb) (Qc la)):=fun n=>rfl
 unfold fr fv at aL;rw[A.len,B.len];clear A B L hr F hn dB hE lx ly fu fQ px py hK jI J8 JY hD0;generalize Zaw la lb ps.length=k at *
 generalize tlQ ps la=tx at *
 generalize tlQ ps lb=ty at *
 generalize Qc la=dx at *
 generalize Qc lb=dy at *
 go_enter Tryz.func193,Tryz.ntmps193
 go_wp2_with fail
 refine cm_ aL.out ?_;rintro e w1 ⟨rfl,hb⟩;have B2:=hd_ (hb.alloc hb.size (.cells #[.string (itx k.num),.string (dec k.den)] 42));clear hb aL
 go_wp2_with fail
 generalize w1.alloc (.cells #[.string (itx k.num),.string (dec k.den)] 42)=w2 at *
 refine cm_ (Mz.out _ B2.out) ?_;rintro e w3 ⟨b1,d1,b2,d2,rfl,X,hb⟩;have B3:=hd_ (B2.out.trans (hb.mono B2.out.size));have HX:=hd_ X;clear hb Mz X B2
 go_wp2_with fail
 refine cm_ (My.out _ B3.out) ?_;rintro e w4 ⟨b3,d3,b4,d4,rfl,Y,hb⟩;have B4:=hd_ (B3.out.trans (hb.mono B3.out.size));have nc:=hd_ (HX.out.below hb);have HY:=hd_ Y;clear hb My Y B3 HX
 go_wp2_with fail
 have Bx:=hd_ (((Below.refl w4.heap.size w4).alloc nr_ (.cells #[.slice b1 tx.length d1,.slice b2 tx.length d2,.string (dec dx)] 163)).alloc ((Below.refl w4.heap.size w4).alloc nr_ (.cells #[.slice b1 tx.length d1,.slice b2 tx.length d2,.string (dec dx)] 163)).size (.cells #[.slice b3 ty.length d3,.slice b4 ty.length d4,.string (dec dy)] 163));have S1:=hd_ (Kl (Qq w4 #[.slice b1 tx.length d1,.slice b2 tx.length d2,.string (dec dx)] 163 _ rfl) (.cells #[.slice b3 ty.length d3,.slice b4 ty.length d4,.string (dec dy)] 163));have S2:=hd_ (Qq (w4.alloc (.cells #[.slice b1 tx.length d1,.slice b2 tx.length d2,.string (dec dx)] 163)) #[.slice b3 ty.length d3,.slice b4 ty.length d4,.string (dec dy)] 163 (w4.heap.size+1) (by show (w4.heap.push _).size=_;exact Array.size_push ..))
 have Lx:=hd_ (nc.out.below Bx.out);have Lv:=hd_ (HY.out.below Bx.out);have B5:=hd_ (B4.out.trans (Bx.out.mono B4.out.size));clear nc HY Bx;generalize hN:w4.heap.size=N9 at *
 generalize (w4.alloc (.cells #[.slice b1 tx.length d1,.slice b2 tx.length d2,.string (dec dx)] 163)).alloc (.cells #[.slice b3 ty.length d3,.slice b4 ty.length d4,.string (dec dy)] 163)=w5 at *
 clear hN B4;refine cm_ (MC.out _ _ _ _ _ d1 d2 d3 d4 Lx.out Lv.out (HL.out.below B5.out)) ?_;rintro e w6 ⟨q0,bq,rfl,bS,hb⟩;have B6:=hd_ (B5.out.trans (hb.mono B5.out.size));have T1:=hd_ (Kd S1.out hb nr_);have T2:=hd_ (Kd S2.out hb nr_);have M9:=hd_ (Lx.out.below hb);have M7:=hd_ (Lv.out.below hb);have It:=hd_ bS;clear hb MC Lx Lv S1 S2 B5 bS;cases bq with
 | true =>
  obtain⟨hqt,fk,eK⟩:=It.out rfl;have MG:=hd_ (Gg.out w6 q fk eK B6.out);rw[hqt];clear hqt fk eK
  go_wp2_with fail
  refine cm_ MG.out ?_;rintro e w7 ⟨rfl,hb⟩;have B7:=hd_ (B6.out.trans (hb.mono B6.out.size));clear hb MG
  go_wp2_with fail
  go_ret;exact⟨rfl,B7.out⟩
 | false =>
  clear It Gg
  go_wp2_with fail
  go_loopw [13] (fun a wr=>∃ (n:Nat),Hid (n=64∨n=128)∧n≤128∧a = .int .i64 n∧Hid (Below w.heap.size w wr)∧Hid (wr.heap[N9]?=some (.cells #[.slice b1 tx.length d1,.slice b2 tx.length d2,.string (dec dx)] 163 (0,0)))∧Hid (wr.heap[N9+1]?=some (.cells #[.slice b3 ty.length d3,.slice b4 ty.length d4,.string (dec dy)] 163 (0,0)))∧Hid (Vq wr tx b1 b2)∧Hid (Vq wr ty b3 b4)) (fun a _=>128-(intOf a).toNat)
  case atStart=>exact⟨64,.inl rfl,by decide,rfl,B6,T1,T2,M9,M7⟩
  case round =>
   clear B6 T1 T2 M9 M7;obtain⟨n,Hp,hn,rfl,B1,T1,T2,HX,HY⟩:=hrel;obtain⟨vx1,vx2⟩:=MZ.out n (by omega)
   obtain⟨vy1,vy2⟩:=MY.out n (by omega)
   have Eh:=hd_ (IS.out n wr b1 b2 d1 d2 (by omega) HX.out (HL.out.below B1.out))
   have Fc:Hid (∀ W,Below wr.heap.size wr W→Kc Tryz.prog 172 #[.agg (Kr b3 d3 b4 d4 ty.length dy),.int .i64 n] W (.tuple #[.string (itx (LN.eLo (lf n) ty)),.string (itx (LN.eHi (lf n) ty))])):=fun W hW=>IR.out n W b3 b4 d3 d4 (by omega) (HY.out.below hW) (HL.out.below (B1.out.trans (hW.mono B1.out.size)))
   have Hf:=hd_ (Cu.out n);have Ce:Hid (∀ r,Zt6 n tx ty dx dy=some r→r=q):=fun r h=>MV.out n r Hp.out h
   obtain⟨⟨AX,hxx⟩,hy0⟩:=Az.out n (by omega)
   have du:0<n:=by rcases Hp.out with h | h<;>omega
   have G2:Hid (Zt6 n tx ty dx dy=none→n*2≤128∧(n*2=64∨n*2=128)):=fun h=>by
    rcases Hp.out with e|e
    ·subst e;exact⟨by decide,.inr rfl⟩
    ·subst e;exact absurd h Cv.out
   clear IS IR Cu MV Cv MZ MY Az;have AR:=Zug (lf n) ty;generalize Zt6 n tx ty dx dy=fl at *
   generalize LN.eLo (lf n) tx=xl at *
   generalize LN.eHi (lf n) tx=xh at *
   generalize LN.eLo (lf n) ty=yl at *
   generalize LN.eHi (lf n) ty=yh at *
   have mi:IntKind.i64.wrap ((n:Int)*2)=((n*2:Nat):Int):=by rw[show (n:Int)*2=((n*2:Nat):Int) by omega];exact iw_ _ (by omega)
   obtain⟨m0,m1,m2,-⟩:=Kp T1.out
   go_wp2_with fail
   refine cm_ Eh.out ?_;rintro e_ w2 ⟨rfl,hb⟩;replace Fc:=hd_ (Fc.out w2 hb);have B2:=hd_ (B1.out.trans (hb.mono B1.out.size));replace T1:=hd_ (Kd T1.out hb nr_);replace T2:=hd_ (Kd T2.out hb nr_);replace HX:=hd_ (HX.out.below hb);replace HY:=hd_ (HY.out.below hb);clear hb Eh B1 m0 m1 m2;obtain⟨m0,m1,m2,-⟩:=Kp T2.out
   go_wp2_with fail
   clear m0 m1 m2;refine cm_ (Fc.out) ?_;rintro e_ w3 ⟨rfl,hb⟩;have B3:=hd_ (B2.out.trans (hb.mono B2.out.size));replace T1:=hd_ (Kd T1.out hb nr_);replace T2:=hd_ (Kd T2.out hb nr_);replace HX:=hd_ (HX.out.below hb);replace HY:=hd_ (HY.out.below hb);clear hb B2;clear Fc
   go_wp2_with fail
   refine cm_ (HS.out yh _) ?_;rintro e_ w4 ⟨rfl,hb⟩;have B4:=hd_ (B3.out.trans (hb.mono B3.out.size));replace T1:=hd_ (Kd T1.out hb nr_);replace T2:=hd_ (Kd T2.out hb nr_);replace HX:=hd_ (HX.out.below hb);replace HY:=hd_ (HY.out.below hb);clear hb B3;have Nm:¬ yh.sign≤0:=by have:=Vx yh;omega
   generalize yh.sign=sg0 at *
   go_wp2_with fail
   refine cm_ (HS.out yl _) ?_;rintro e_ w5 ⟨rfl,hb⟩;have B5:=hd_ (B4.out.trans (hb.mono B4.out.size));replace T1:=hd_ (Kd T1.out hb nr_);replace T2:=hd_ (Kd T2.out hb nr_);replace HX:=hd_ (HX.out.below hb);replace HY:=hd_ (HY.out.below hb);clear hb B4;have ft:0<yl.sign:=by have:=Vx yl;omega
   generalize yl.sign=sg at *
   go_wp2_with fail
   clear ft;refine cm_ (HS.out xl _) ?_;rintro e_ w6 ⟨rfl,hb⟩;have B6:=hd_ (B5.out.trans (hb.mono B5.out.size));replace T1:=hd_ (Kd T1.out hb nr_);replace T2:=hd_ (Kd T2.out hb nr_);replace HX:=hd_ (HX.out.below hb);replace HY:=hd_ (HY.out.below hb);clear hb B5;have ft:¬ xl.sign<0:=by have:=Vx xl;omega
   generalize xl.sign=sg at *
   go_wp2_with fail
   clear ft;refine cm_ (HS.out xh _) ?_;rintro e_ w7 ⟨rfl,hb⟩;have B7:=hd_ (B6.out.trans (hb.mono B6.out.size));replace T1:=hd_ (Kd T1.out hb nr_);replace T2:=hd_ (Kd T2.out hb nr_);replace HX:=hd_ (HX.out.below hb);replace HY:=hd_ (HY.out.below hb);clear hb B6;have ft:¬ xh.sign<0:=by have:=Vx xh;omega
   generalize xh.sign=sg at *
   obtain⟨k0,k1,k2,-⟩:=Kp T1.out;obtain⟨m0,m1,m2,-⟩:=Kp T2.out;have s2:=BW.cell k2;have r2:=BW.cell m2;have gk:Nonempty (BW w7):=⟨⟨w7,Below.refl _ _⟩⟩;have I:Hid (Below w7.heap.size w7 w7.drew):=(Below.refl _ _).drew
   go_wp2_with fail
   clear k0 k1 k2 m0 m1 m2;refine RP.wp_region_readers 15 [(1,0),(1,1),(1,2),(1,4),(1,5),(1,6),(0,3),(0,7),(0,8),(2,9),(2,10),(2,11),(2,12),(0,13),(0,14),(0,15)] (fun w'=>∃ p:BW w7,w'=p.w) (by kernel_rfl) (by kernel_rfl) ?_ ?_
   ·exact⟨⟨_,I.out⟩,rfl⟩
   iterate 6 (refine RP.walkR_read ?_;simp only[Kh,dz_,Kg,tz_];go_big_quiet_step (fail);refine wpQuiet_nil ?_)
   clear gk s2 r2;refine RP.walkR_move ?_;simp only[Kh,dz_,Kg,tz_]
   go_wp2_with fail
   refine cm_ (nD.out xl _ (by omega) (B7.out.drew)) ?_
   rintro e_ wa ⟨rfl,hb⟩;have Wa:Hid (Below w7.heap.size w7 wa):=(Below.refl w7.heap.size w7).drew.trans hb;clear hb I
   go_wp2_with fail
   refine⟨⟨⟨_,Wa.out⟩,rfl⟩,?_⟩;refine RP.walkR_move ?_;simp only[Kh,dz_,Kg,tz_]
   go_wp2_with fail
   refine cm_ (nE.out yh _ (by omega) (B7.out.trans (Wa.out.mono B7.out.size))) ?_
   rintro e_ wb ⟨rfl,hb⟩;have Wb:=hd_ (Wa.out.trans (hb.mono Wa.out.size));clear hb Wa
   go_wp2_with fail
   refine⟨⟨⟨_,Wb.out⟩,rfl⟩,?_⟩;refine RP.walkR_move ?_;simp only[Kh,dz_,Kg,tz_]
   go_wp2_with fail
   refine cm_ (AL.out xl yh _ (by omega) (by omega) (by omega) (B7.out.trans (Wb.out.mono B7.out.size))) ?_
   rintro e_ wc ⟨rfl,hb⟩;have Wc:=hd_ (Wb.out.trans (hb.mono Wb.out.size));clear hb Wb
   go_wp2_with fail
   refine⟨⟨⟨_,Wc.out⟩,rfl⟩,?_⟩;refine RP.walkR_any ?_;simp only[Kh,dz_,Kg,tz_]
   go_big_quiet_step (fail)
   refine wpQuiet_nil ?_;refine RP.walkR_any ?_;simp only[Kh,dz_,Kg,tz_]
   go_big_quiet_step (fail)
   refine wpQuiet_nil ?_;refine RP.walkR_any ?_;simp only[Kh,dz_,Kg,tz_]
   go_big_quiet_step (fail)
   refine wpQuiet_nil ?_;refine RP.walkR_any ?_;simp only[Kh,dz_,Kg,tz_]
   go_big_quiet_step (fail)
   refine wpQuiet_nil ?_;refine RP.walkR_move ?_;simp only[Kh,dz_,Kg,tz_]
   go_wp2_with fail
   refine⟨⟨⟨_,Wc.out⟩,rfl⟩,?_⟩;refine RP.walkR_move ?_;simp only[Kh,dz_,Kg,tz_]
   go_wp2_with fail
   refine⟨⟨⟨_,Wc.out⟩,rfl⟩,?_⟩;refine RP.walkR_move ?_;simp only[Kh,dz_,Kg,tz_]
   go_wp2_with fail
   simp only[RP.walkR];have hb:=Wc.out;have B8:=hd_ (B7.out.trans (hb.mono B7.out.size));replace T1:=hd_ (Kd T1.out hb nr_);replace T2:=hd_ (Kd T2.out hb nr_);replace HX:=hd_ (HX.out.below hb);replace HY:=hd_ (HY.out.below hb);clear hb Wc B7;generalize wc=w8 at *
   go_wp2_with fail
   obtain⟨k0,k1,k2,-⟩:=Kp T1.out;obtain⟨m0,m1,m2,-⟩:=Kp T2.out;have s2:=BW.cell k2;have r2:=BW.cell m2;have gk:Nonempty (BW w8):=⟨⟨w8,Below.refl _ _⟩⟩;have I:Hid (Below w8.heap.size w8 w8.drew):=(Below.refl _ _).drew
   go_wp2_with fail
   clear k0 k1 k2 m0 m1 m2;refine RP.wp_region_readers 15 [(1,0),(1,1),(1,2),(1,4),(1,5),(1,6),(0,3),(0,7),(0,8),(2,9),(2,10),(2,11),(2,12),(0,13),(0,14),(0,15)] (fun w'=>∃ p:BW w8,w'=p.w) (by kernel_rfl) (by kernel_rfl) ?_ ?_
   ·exact⟨⟨_,I.out⟩,rfl⟩
   iterate 6 (refine RP.walkR_read ?_;simp only[Kh,dz_,Kg,tz_];go_big_quiet_step (fail);refine wpQuiet_nil ?_)
   clear gk s2 r2;refine RP.walkR_move ?_;simp only[Kh,dz_,Kg,tz_]
   go_wp2_with fail
   refine cm_ (nD.out xh _ (by omega) (B8.out.drew)) ?_
   rintro e_ wa ⟨rfl,hb⟩;have Wa:Hid (Below w8.heap.size w8 wa):=(Below.refl w8.heap.size w8).drew.trans hb;clear hb I
   go_wp2_with fail
   refine⟨⟨⟨_,Wa.out⟩,rfl⟩,?_⟩;refine RP.walkR_move ?_;simp only[Kh,dz_,Kg,tz_]
   go_wp2_with fail
   refine cm_ (nE.out yl _ (by omega) (B8.out.trans (Wa.out.mono B8.out.size))) ?_
   rintro e_ wb ⟨rfl,hb⟩;have Wb:=hd_ (Wa.out.trans (hb.mono Wa.out.size));clear hb Wa
   go_wp2_with fail
   refine⟨⟨⟨_,Wb.out⟩,rfl⟩,?_⟩;refine RP.walkR_move ?_;simp only[Kh,dz_,Kg,tz_]
   go_wp2_with fail
   refine cm_ (AL.out xh yl _ (by omega) (by omega) (by omega) (B8.out.trans (Wb.out.mono B8.out.size))) ?_
   rintro e_ wc ⟨rfl,hb⟩;have Wc:=hd_ (Wb.out.trans (hb.mono Wb.out.size));clear hb Wb
   go_wp2_with fail
   refine⟨⟨⟨_,Wc.out⟩,rfl⟩,?_⟩;refine RP.walkR_any ?_;simp only[Kh,dz_,Kg,tz_]
   go_big_quiet_step (fail)
   refine wpQuiet_nil ?_;refine RP.walkR_any ?_;simp only[Kh,dz_,Kg,tz_]
   go_big_quiet_step (fail)
   refine wpQuiet_nil ?_;refine RP.walkR_any ?_;simp only[Kh,dz_,Kg,tz_]
   go_big_quiet_step (fail)
   refine wpQuiet_nil ?_;refine RP.walkR_any ?_;simp only[Kh,dz_,Kg,tz_]
   go_big_quiet_step (fail)
   refine wpQuiet_nil ?_;refine RP.walkR_move ?_;simp only[Kh,dz_,Kg,tz_]
   go_wp2_with fail
   refine⟨⟨⟨_,Wc.out⟩,rfl⟩,?_⟩;refine RP.walkR_move ?_;simp only[Kh,dz_,Kg,tz_]
   go_wp2_with fail
   refine⟨⟨⟨_,Wc.out⟩,rfl⟩,?_⟩;refine RP.walkR_move ?_;simp only[Kh,dz_,Kg,tz_]
   go_wp2_with fail
   simp only[RP.walkR];have hb:=Wc.out;have B9:=hd_ (B8.out.trans (hb.mono B8.out.size));replace T1:=hd_ (Kd T1.out hb nr_);replace T2:=hd_ (Kd T2.out hb nr_);replace HX:=hd_ (HX.out.below hb);replace HY:=hd_ (HY.out.below hb);clear hb Wc B8;generalize wc=w9 at *
   have D6:fl=if xl*(dy:Int)/(yh*(dx:Int))=xh*(dy:Int)/(yl*(dx:Int)) then some (xl*(dy:Int)/(yh*(dx:Int))) else none:=by
    rw[Hf.out];unfold flS;rw[if_neg (show ¬ yh≤0 by omega)]
    unfold flE LN.quoL LN.quoH;rw[if_neg (show ¬ yl≤0 by omega),if_neg (show ¬ xl<0 by omega),if_neg (show ¬ xh<0 by omega)]
   have Fe:=Zvt (xl*(dy:Int)/(yh*(dx:Int))) (xh*(dy:Int)/(yl*(dx:Int)));clear Hf;generalize xl*(dy:Int)/(yh*(dx:Int))=q1 at *
   generalize xh*(dy:Int)/(yl*(dx:Int))=q2 at *
   by_cases hqq:q1=q2
   ·rw[if_pos hqq] at D6;rw[decide_eq_true hqq] at Fe;have Lu:=hd_ (Ce.out _ D6);clear D6 hqq Ce G2
    go_wp2_with fail
    go_ret;exact⟨by rw[Lu.out];rfl,B9.out⟩
   ·rw[if_neg hqq] at D6;rw[decide_eq_false hqq] at Fe;obtain⟨Do,Gn⟩:=G2.out D6;have AA:=hd_ Gn;clear D6 hqq Ce G2 Gn
    go_wp2_with fail
    go_roundw
    case rel=>exact⟨n*2,AA,Do,rfl,B9,T1,T2,HX,HY⟩
    case measure=>simp[intOf];omega
theorem Zwh:∀ p∈Yp,(lgN ((p:Nat):Int) 128+1)%274877906944≠0:=by decide +kernel
theorem Zew(f:Int→Nat)(p k:Int)(h:0≤k):LN.eLo f [(p,k)]=k*(f p:Int):=by
 have e1:LN.eLo f [(p,k)]=(if k<0 then k*(LN.hiL f p:Int) else k*(f p:Int))+0:=by simp[LN.eLo]
 rw[e1,if_neg (by omega),Int.add_zero]
theorem Zj1(f:Int→Nat)(p k:Int)(h:0≤k):LN.eHi f [(p,k)]=k*(LN.hiL f p:Int):=by
 have e1:LN.eHi f [(p,k)]=(if k<0 then k*(f p:Int) else k*(LN.hiL f p:Int))+0:=by simp[LN.eHi]
 rw[e1,if_neg (by omega),Int.add_zero]
theorem Zwz{p n N:Nat}(hp:p∈Yp)(hN:N≤1056)(hn:n+38≤N)(hl:(lgN p N+1)%274877906944≠0):
  Zt6 N [((p:Int),((2^n:Nat):Int))] [((2:Int),(1:Int))] 1 1=some ((lgN p n:Nat):Int):=by
 have hcut:=Zet (p:=p) (.inr hp) (N-n) (n:=n) (by omega)
 rw[show n+(N-n)=N by omega] at hcut
 have Gn:((p:Nat):Int)≠2:=by have:=Yl hp;omega
 have iU:(2:Nat)^N=2^n*2^(N-n):=by rw[← Nat.pow_add];congr 1;omega
 have bv:274877906944 ∣ 2^(N-n):=by
  rw[show (274877906944:Nat)=2^38 by decide]
  exact Nat.pow_dvd_pow 2 (by omega)
 have bU:¬ 2^(N-n) ∣ lgN p N+1:=fun h=>hl (Nat.mod_eq_zero_of_dvd (Nat.dvd_trans bv h))
 have Am:(lgN p N+1)/2^(N-n)=lgN p N/2^(N-n):=Nat.succ_div_of_not_dvd bU;have Gj:=Nat.two_pow_pos n;have A':=Nat.two_pow_pos (N-n);unfold Zt6;rw[Zew _ _ _ (by omega),Zj1 _ _ _ (by omega),Zew _ _ _ (by decide),Zj1 _ _ _ (by decide)]
 have f1:LN.hiL (lf N) p=lgN p N+1:=by unfold LN.hiL lf;rw[if_neg Gn]
 have f2:LN.hiL (lf N) 2=2^N:=by unfold LN.hiL lf;rw[if_pos rfl,Yq]
 have f3:lf N 2=2^N:=Yq N;have f4:lf N p=lgN p N:=rfl;rw[f1,f2,f3,f4,iU];clear f1 f2 f3 f4 iU hl bU bv;rw[hcut] at Am;generalize lgN p N=L at *
 generalize lgN p n=K at *
 generalize (2:Nat)^n=A at *
 generalize (2:Nat)^(N-n)=D at *
 have g1:((A:Int)*(L:Int))=((A*L:Nat):Int):=by rw[Int.natCast_mul]
 have g2:((A:Int)*((L+1:Nat):Int))=((A*(L+1):Nat):Int):=by rw[Int.natCast_mul]
 have pm:0<A*D:=Nat.mul_pos Gj A';have q1:LN.quoL ((A:Int)*(L:Int)) (1*((A*D:Nat):Int)) (1*((A*D:Nat):Int)) 1 1=(K:Int):=by
  unfold LN.quoL;rw[g1,if_neg (by omega),Int.mul_one,Int.mul_one,Int.one_mul,← Int.natCast_ediv,Nat.mul_div_mul_left _ _ Gj,hcut]
 have q2:LN.quoH ((A:Int)*((L+1:Nat):Int)) (1*((A*D:Nat):Int)) (1*((A*D:Nat):Int)) 1 1=(K:Int):=by
  unfold LN.quoH;rw[g2,if_neg (by omega),Int.mul_one,Int.mul_one,Int.one_mul,← Int.natCast_ediv,Nat.mul_div_mul_left _ _ Gj,Am]
 unfold flS;rw[if_neg (by rw[Int.one_mul];omega)]
 unfold flE;rw[if_neg (by rw[Int.one_mul];omega)]
 have c1:((1:Nat):Int)=1:=rfl;rw[c1,q1,q2,if_pos rfl]
theorem Zlm{p n N:Nat}{r:Int}(hp:p∈Yp)(hN:N≤1056)(h:Zt6 N [((p:Int),((2^n:Nat):Int))] [((2:Int),(1:Int))] 1 1=some r):r=((lgN p n:Nat):Int):=by
 have Gn:((p:Nat):Int)≠2:=by have:=Yl hp;omega
 have hz:(0:Int)≤((2^n:Nat):Int):=Int.natCast_nonneg _;unfold Zt6 at h;rw[Zew _ _ _ hz,Zj1 _ _ _ hz,Zew _ _ _ (by decide),Zj1 _ _ _ (by decide)] at h
 have f1:LN.hiL (lf N) p=lgN p N+1:=by unfold LN.hiL lf;rw[if_neg Gn]
 have f2:LN.hiL (lf N) 2=2^N:=by unfold LN.hiL lf;rw[if_pos rfl,Yq]
 have f3:lf N 2=2^N:=Yq N;have f4:lf N p=lgN p N:=rfl;rw[f1,f2,f3,f4] at h;have Gj:=Nat.two_pow_pos n;have bT:=Nat.two_pow_pos N;unfold flS at h;rw[if_neg (by rw[Int.one_mul];omega)] at h
 obtain⟨-,h1,h2⟩:=Zwy h;unfold LN.quoL at h1;unfold LN.quoH at h2;have c1:((1:Nat):Int)=1:=rfl;rw[c1,← Int.natCast_mul,if_neg (by omega),Int.mul_one,Int.mul_one,Int.one_mul,← Int.natCast_ediv] at h1
 rw[c1,← Int.natCast_mul,if_neg (by omega),Int.mul_one,Int.mul_one,Int.one_mul,← Int.natCast_ediv] at h2
 rcases Nat.lt_or_ge N n with hc|hc
 ·exfalso;have e:(2:Nat)^n=2^N*2^(n-N):=by rw[← Nat.pow_add];congr 1;omega
  have hd:=Nat.two_pow_pos (n-N);rw[e,Nat.mul_assoc,Nat.mul_div_cancel_left _ bT] at h1;rw[e,Nat.mul_assoc,Nat.mul_div_cancel_left _ bT,Nat.mul_add,Nat.mul_one] at h2;omega
 ·have hcut:=Zet (p:=p) (.inr hp) (N-n) (n:=n) (by omega)
  rw[show n+(N-n)=N by omega] at hcut
  have e:(2:Nat)^N=2^n*2^(N-n):=by rw[← Nat.pow_add];congr 1;omega
  rw[e,Nat.mul_div_mul_left _ _ Gj,hcut] at h1;exact h1.symm
def pwA (n:Nat):List Rat:=[0,((((2^n:Nat):Int)):Rat)]
def pwB:List Rat:=[1,0]
theorem Zc0(n:Nat):Qc (pwA n)=1:=by
 have h:=LN.tden_min (l:=pwA n) (D:=1) fun q hq=>by
  simp only[pwA,List.mem_cons,List.not_mem_nil,or_false] at hq;rcases hq with rfl|rfl
  ·exact Nat.dvd_refl 1
  ·rw[Rat.den_intCast];exact Nat.dvd_refl 1
 exact Nat.dvd_one.1 h
theorem Zcz:Qc pwB=1:=by decide +kernel
theorem Zbj(p n:Nat):tlQ [2,(p:Int)] (pwA n)=[((p:Int),((2^n:Nat):Int))]:=by
 have h0:=Nat.two_pow_pos n;unfold tlQ;rw[Zc0];unfold Qs pwA;generalize 2^n=A at *
 rw[List.zip_cons_cons,List.zip_cons_cons,List.filterMap_cons,List.filterMap_cons];have z0:(0:Rat).num=0:=rfl;have z1:((((A:Nat):Int)):Rat).num=((A:Nat):Int):=by rw[Rat.num_intCast]
 have z2:((((A:Nat):Int)):Rat).den=1:=by rw[Rat.den_intCast]
 simp only[z0,z1,z2,if_pos];rw[if_neg (by omega)]
 simp
theorem Zbk(p:Nat):tlQ [2,(p:Int)] pwB=[((2:Int),(1:Int))]:=by
 unfold tlQ;rw[Zcz];unfold Qs pwB;rw[List.zip_cons_cons,List.zip_cons_cons,List.filterMap_cons,List.filterMap_cons];rfl
theorem Zs0{p:Nat}(hp:p∈Yp):Vo [2,(p:Int)]=0:=by
 have Gm:∀ q∈Yp,Vo [2,((q:Nat):Int)]=0:=by decide +kernel
 exact Gm p hp
theorem Zz4{p:Nat}(hp:p∈Yp):∀ x∈[2,(p:Int)],x∈Zfr:=by
 have Gm:∀ q∈Yp,((q:Nat):Int)∈Zfr:=by decide
 intro x hx;simp only[List.mem_cons,List.not_mem_nil,or_false] at hx;rcases hx with rfl|rfl
 ·decide
 ·exact Gm p hp
theorem Ztj(p k:Int):Zbp [(p,k)]=min (k*lgA p) (k*lgB p)∧Vr [(p,k)]=max (k*lgA p) (k*lgB p):=by
 unfold Zbp Vr;exact⟨by simp,by simp⟩
theorem Zy8:okT 100000 ((2:Int),(1:Int)):=by decide +kernel
theorem Qav:lgA 2=67108864∧lgB 2=67108864:=by decide +kernel
theorem Zy7:∀ q∈Yp,(0:Int)≤lgA ((q:Nat):Int)∧lgA ((q:Nat):Int)≤500000000∧lgB ((q:Nat):Int)=lgA ((q:Nat):Int)+1:=by decide +kernel
theorem Zt5{p n:Nat}(hp:p∈Yp)(hn:n≤90):Qb2 [2,(p:Int)] (pwA n) pwB 91 ((lgN p n:Nat):Int):=by
 have Gj:=Nat.two_pow_pos n;obtain⟨o1,o2⟩:=Qav;obtain⟨g1,g2,g3⟩:=Zy7 p hp;obtain⟨l1,l2⟩:=Ztj (p:Int) ((2^n:Nat):Int);obtain⟨m1,m2⟩:=Ztj 2 1;rw[o1,o2] at m1 m2;rw[g3] at l1 l2;have q1:((2^n:Nat):Int)*lgA p≤((2^n:Nat):Int)*(lgA p+1):=Int.mul_le_mul_of_nonneg_left (by omega) (by omega)
 have q0:0≤((2^n:Nat):Int)*lgA p:=Int.mul_nonneg (by omega) g1
 rw[Int.min_eq_left q1] at l1;rw[Int.max_eq_right q1] at l2;have mc:Zbp [((2:Int),(1:Int))]=67108864:=m1;have Jp:Vr [((2:Int),(1:Int))]=67108864:=m2;have hm:∀ {P:Int×Int→Prop} {x:Int×Int},P x→∀ t∈[x],P t:=fun h t ht=>by obtain rfl:=List.mem_singleton.1 ht;exact h
 refine⟨Zz4 hp,by simp,?_,?_,by rw[Zc0];decide,by rw[Zcz];decide,by decide,fun N hN=>?_,?_,fun N r hN h=>?_,?_,?_,by rw[Zc0];decide,by rw[Zcz];decide,?_,?_,fun h=>?_,?_,?_,?_,fun h=>?_⟩
 ·rw[Zbj];refine hm (P:=fun t=>t.2.natAbs<2^91) ?_
  show (((2^n:Nat):Int)).natAbs<2^91
  rw[Int.natAbs_natCast];exact Nat.pow_lt_pow_right (by decide) (by omega)
 ·rw[Zbk];exact hm (P:=fun t=>t.2.natAbs<2^91) (by decide)
 ·rw[Zbj,Zbk,Zew _ _ _ (Int.natCast_nonneg _),Zew _ _ _ (by decide)]
  refine⟨Int.mul_nonneg (Int.natCast_nonneg _) (Int.natCast_nonneg _),?_⟩;have f3:lf N 2=2^N:=Yq N;rw[f3,Int.one_mul];have:=Nat.two_pow_pos N
  omega
 ·rw[Zbj,Zbk,Zc0,Zcz,Zwz hp (by decide) (by omega) (Zwh p hp)]
  exact fun h=>by cases h
 ·rw[Zbj,Zbk,Zc0,Zcz] at h;exact Zlm hp (by omega) h
 ·refine decide_eq_false fun h=>?_
  have h1:=h 1 (by simp)
  have e1:pwB.getD 1 0=0:=rfl;have e2:(pwA n).getD 1 0=((((2^n:Nat):Int)):Rat):=rfl;rw[e1,e2,Rat.mul_zero] at h1;have h2:((0:Int):Rat)=((((2^n:Nat):Int)):Rat):=h1;have:=Rat.intCast_inj.1 h2
  omega
 ·rw[Zbk];exact hm (P:=okT 100000) Zy8
 ·rw[Zbj,l1];exact q0
 ·rw[Zbj,l1,l2];exact q1
 ·rw[Zbj] at h;have hk:=(h _ (List.mem_singleton.2 rfl)).1.2;rw[Zbj,l2];have Aq:((2^n:Nat):Int)≤100000:=hk;have:=Int.mul_le_mul Aq (show lgA p+1≤500000001 by omega) (by omega) (by omega)
  omega
 ·rw[Zbk,mc];decide
 ·rw[Zbk,mc,Jp];decide
 ·rw[Zbk,Jp];decide
 ·rw[Zbj] at h;have hk:=h _ (List.mem_singleton.2 rfl);have Aq:((2^n:Nat):Int)≤100000:=hk.1.2;have hd:=(Zyd (p:=(p:Int)) ⟨p,rfl,.inr hp⟩ hk.2).1;have JJ:n≤16:=by
   refine Nat.le_of_not_lt fun hc=>?_
   have:2^17≤2^n:=Nat.pow_le_pow_right (by decide) hc
   have e:(2:Nat)^17=131072:=by decide
   omega
  rw[Zbj,Zbk,l1,Jp,Zc0,Zcz,hd];have hcut:=Zet (p:=p) (.inr hp) (26-n) (n:=n) (by omega)
  rw[show n+(26-n)=26 by omega] at hcut
  have e:(67108864:Nat)=2^n*2^(26-n):=by
   rw[← Nat.pow_add,show n+(26-n)=26 by omega]
  have f4:lf 26 p=lgN p 26:=rfl;have Gm:((2^n:Nat):Int)*((lf 26 p:Nat):Int)*((1:Nat):Int)/(67108864*((1:Nat):Int))=((lgN p n:Nat):Int):=by
   rw[show (67108864:Int)=((67108864:Nat):Int) from rfl,← Int.natCast_mul,← Int.natCast_mul,← Int.natCast_mul,← Int.natCast_ediv,Nat.mul_one,Nat.mul_one,e,Nat.mul_div_mul_left _ _ Gj,f4,hcut]
  have H9:=Zgx (.inr hp) (show n≤1056 by omega)
  have pp:2^n≤2^16:=Nat.pow_le_pow_right (by decide) JJ
  have pz:(2:Nat)^16=65536:=by decide
  exact⟨Gm,by omega,by omega⟩
theorem Qcg{n:Nat}(hn:n≤90):(∀ q∈pwA n,Sm 30 q)∧∀ q∈pwB,Sm 30 q:=by
 have h1:(2:Nat)^n≤2^90:=Nat.pow_le_pow_right (by decide) hn
 have h2:(2:Nat)^90<10^30:=by decide
 have z:Sm 30 (0:Rat):=⟨by decide,by decide⟩
 constructor
 ·intro q hq;simp only[pwA,List.mem_cons,List.not_mem_nil,or_false] at hq;rcases hq with rfl|rfl
  ·exact z
  ·exact⟨by rw[Rat.num_intCast,Int.natAbs_natCast];omega,by rw[Rat.den_intCast];decide⟩
 ·intro q hq;simp only[pwB,List.mem_cons,List.not_mem_nil,or_false] at hq;rcases hq with rfl|rfl
  ·exact⟨by decide,by decide⟩
  ·exact z
theorem Zwg{p n:Nat}(hp:p∈Yp)(hn:n≤1056):2^lgN p n≤p^(2^n)∧p^(2^n)<2^(lgN p n+1):=by
 have h:=Ztt (.inr hp) hn;exact⟨h.le,h.lt⟩
theorem Zk9{p k:Nat}(hp:p≤97)(hk:k≤4000):Num (p^k):=by
 show (dec (p^k)).size≤1000000
 obtain⟨D,hD⟩:∃ D:Nat,D=8001:=⟨_,rfl⟩;refine Nat.le_trans ((Zc (p^k) D (by omega)).2 ?_) (by omega)
 have h1:p^k≤(10^2)^k:=Nat.pow_le_pow_left (by omega) k
 rw[← Nat.pow_mul] at h1;exact Nat.lt_of_le_of_lt h1 (Nat.pow_lt_pow_right (by decide) (by omega))
theorem Zto(w:World)(n:Nat)(hn:n≤90)(L:Qd w):Kc Tryz.prog 49 #[.int .i64 2,.int .i64 n] w (.string (dec (lgN 2 n))):=by
 have h:=Zc4 w 2 n (by decide) (Zk9 (by decide) (by omega)) (by omega) L
 rw[Zdj] at h;rw[Yq];unfold Kc;have H:=hd_ h;clear h L hn;generalize dec (2^n)=s at *
 go_enter Tryz.func49,Tryz.ntmps49
 go_wp2_with fail
 refine cm_ H.out ?_;rintro e w1 ⟨rfl,hb⟩;have B1:=hd_ hb;clear hb H
 go_wp2_with fail
 go_ret;exact⟨rfl,B1.out⟩
theorem Ztp(w:World)(p n:Nat)(hp:p∈Yp)(hn:n≤9)(L:Qd w):Kc Tryz.prog 49 #[.int .i64 p,.int .i64 n] w (.string (dec (lgN p n))):=by
 have Bg:=Yl hp;obtain⟨b1,b2⟩:=Zwg hp (show n≤1056 by omega)
 have H9:=Zgx (.inr hp) (show n≤1056 by omega)
 have iU:2^n≤512:=by
  have:2^n≤2^9:=Nat.pow_le_pow_right (by decide) hn
  simpa using this
 have CR:(1:Int)*2^n=((2^n:Nat):Int):=by rw[Int.one_mul,Int.natCast_pow];rfl
 obtain⟨K,hK⟩:∃ K,2^n=K:=⟨_,rfl⟩;obtain⟨T,hT⟩:∃ T,lgN (p:Int) n=T:=⟨_,rfl⟩;rw[hK] at iU b1 b2 H9 CR;rw[hT] at b1 b2 H9 ⊢;unfold Kc;have H1:=hd_ (fun W (hW:Below w.heap.size w W)=>Zjg W (p:Int) (by omega) (by omega) (L.below hW))
 have H2:=hd_ (fun W (hW:Below w.heap.size w W)=>Zc4 W p K (by omega) (Zk9 (by omega) (by omega)) (by omega) (L.below hW))
 have H3:=hd_ (fun W (hW:Below w.heap.size w W)=>Zux W (p^K) T (Zk9 (by omega) (by omega)) b1 b2 (by omega) (L.below hW))
 have H4:=hd_ (fun W (hW:Below w.heap.size w W)=>Zjg W (T:Int) (by omega) (by omega) (L.below hW))
 rw[Kj] at H1 H4;have Gn:((p:Int)==2)=false:=by rw[beq_eq_false_iff_ne];omega
 have Ns:(n:Int)≤9:=by omega
 have Au:IntKind.i64.wrap (K:Int)=(K:Int):=iw_ _ (by omega)
 have jN:IntKind.i64.wrap (((T+1:Nat):Int)-1)=(T:Int):=by rw[show ((T+1:Nat):Int)-1=(T:Int) by omega];exact iw_ _ (by omega)
 have lC:IntKind.i64.wrap ((T:Int)+1-1)=(T:Int):=by rw[show (T:Int)+1-1=(T:Int) by omega];exact iw_ _ (by omega)
 have oA:wrap64 (T:Int)=(T:Int):=IntWalk.wrap64_in _ ⟨by clear Au jN lC;omega,by clear Au jN lC;omega⟩
 clear hp Bg b1 b2 H9 hT hK L;generalize dec T=st at *
 generalize dec (p^K)=sk at *
 generalize dec p=sp at *
 go_enter Tryz.func49,Tryz.ntmps49;have gk:Nonempty (NW w):=⟨⟨w,Below.refl _ _⟩⟩;have I:Hid (Below w.heap.size w w.drew):=(Below.refl _ _).drew
 go_wp2_with fail
 refine RP.wp_region_readers 8 [(2,0),(2,2),(2,3),(0,1),(0,4),(0,5),(0,6),(0,7),(0,8)] (fun w'=>∃ p:NW w,w'=p.w) (by kernel_rfl) (by kernel_rfl) ?_ ?_
 ·exact⟨⟨_,I.out⟩,rfl⟩
 iterate 3 (refine RP.walkR_any ?_;simp only[Kh,dz_,Kg,tz_];go_big_quiet_step (fail);refine wpQuiet_nil ?_)
 clear gk;refine RP.walkR_move ?_;simp only[Kh,dz_,Kg,tz_]
 go_wp2_with fail
 refine cm_ (H1.out _ I.out) ?_;rintro e_ x1 ⟨rfl,H7⟩;have cO:Hid (Below w.heap.size w x1):=I.out.trans (H7.mono I.out.size);clear H7 H1 I
 go_wp2_with fail
 refine⟨⟨⟨_,cO.out⟩,rfl⟩,?_⟩;refine RP.walkR_move ?_;simp only[Kh,dz_,Kg,tz_]
 go_wp2_with fail
 refine cm_ (H2.out _ cO.out) ?_;rintro e_ x2 ⟨rfl,H7⟩;have cN:Hid (Below w.heap.size w x2):=cO.out.trans (H7.mono cO.out.size);clear H7 H2 cO
 go_wp2_with fail
 refine⟨⟨⟨_,cN.out⟩,rfl⟩,?_⟩;refine RP.walkR_move ?_;simp only[Kh,dz_,Kg,tz_]
 go_wp2_with fail
 refine cm_ (H3.out _ cN.out) ?_;rintro e_ x3 ⟨rfl,H7⟩;have d9:Hid (Below w.heap.size w x3):=cN.out.trans (H7.mono cN.out.size);clear H7 H3 cN
 go_wp2_with fail
 refine⟨⟨⟨_,d9.out⟩,rfl⟩,?_⟩;refine RP.walkR_move ?_;simp only[Kh,dz_,Kg,tz_]
 go_wp2_with fail
 refine⟨⟨⟨_,d9.out⟩,rfl⟩,?_⟩;refine RP.walkR_move ?_;simp only[Kh,dz_,Kg,tz_]
 go_wp2_with fail
 refine cm_ (H4.out _ d9.out) ?_;rintro e_ x4 ⟨rfl,H7⟩;have Ib:Hid (Below w.heap.size w x4):=d9.out.trans (H7.mono d9.out.size);clear H7 H4 d9
 go_wp2_with fail
 refine⟨⟨⟨_,Ib.out⟩,rfl⟩,?_⟩;refine RP.walkR_move ?_;simp only[Kh,dz_,Kg,tz_]
 go_wp2_with fail
 simp only[RP.walkR]
 go_wp2_with fail
 go_ret;exact⟨rfl,Ib.out⟩
theorem Zmx:Kt pwB=[.string ⟨#[49]⟩,.string ⟨#[49]⟩,.string ⟨#[48]⟩,.string ⟨#[49]⟩]:=by
 obtain⟨z1,z2⟩:=Zcx;have o1:itx (1:Rat).num=⟨#[49]⟩:=by show itx 1=_;rw[show itx 1=dec 1 from Kj 1,Vg]
 have o2:dec (1:Rat).den=⟨#[49]⟩:=Vg
 show ([.string (itx (1:Rat).num),.string (dec (1:Rat).den),.string (itx (0:Rat).num),.string (dec (0:Rat).den)]:List Value)=_
 rw[z1,z2,o1,o2]
theorem Zmw(n:Nat):Kt (pwA n)=[.string ⟨#[48]⟩,.string ⟨#[49]⟩,.string (dec (2^n)),.string ⟨#[49]⟩]:=by
 obtain⟨z1,z2⟩:=Zcx;unfold pwA;generalize 2^n=A
 show ([.string (itx (0:Rat).num),.string (dec (0:Rat).den),.string (itx (((A:Int)):Rat).num),.string (dec (((A:Int)):Rat).den)]:List Value)=_
 rw[z1,z2,Rat.num_intCast,Rat.den_intCast,Kj,Vg]
theorem Ztq(w:World)(p n:Nat)(hp:p∈Yp)(h9:9<n)(hn:n≤90)(L:Qd w):Kc Tryz.prog 49 #[.int .i64 p,.int .i64 n] w (.string (dec (lgN p n))):=by
 have Bg:=Yl hp;have mz:=Zt5 hp hn;have mw:=Zs0 hp;obtain⟨sA,sB⟩:=Qcg hn;have A9:∀ x∈[2,(p:Int)],2≤x∧x≤97:=fun x hx=>by
  simp only[List.mem_cons,List.not_mem_nil,or_false] at hx;rcases hx with rfl|rfl<;>omega
 have GJ:∀ (W:World) (a0 a1:Option Addr) (l:List Rat),Rd W a0 (Qt [2,(p:Int)])→Rd W a1 (Kt l)→l.length=2→(∀ q∈l,Sm 30 q)→Zs W [2,(p:Int)] a0 a1 l 30:=fun W a0 a1 l r0 r1 hl hs=>⟨r0,r1,hl,by simp,A9,hs,by decide⟩
 have HF:=hd_ (fun (W:World) (hW:Below w.heap.size w W) (a0 a1 a2:Option Addr) (r0:Rd W a0 (Qt [2,(p:Int)])) (r1:Rd W a1 (Kt (pwA n))) (r2:Rd W a2 (Kt pwB))=>by
  have A:=GJ W a0 a1 _ r0 r1 rfl sA;have B:=GJ W a0 a2 _ r0 r2 rfl sB;have h:=Zxt W [2,(p:Int)] a0 a1 a2 2 2 2 _ _ A B mw (L.below hW) (by rw[Zbk];simp) ((lgN p n:Nat):Int) fun W' Be=>Zwx W' [2,(p:Int)] a0 a1 a2 2 2 2 30 91 _ _ _ (A.below Be) (B.below Be) (by decide) mz ((L.below hW).below Be)
  rw[Kj] at h;exact(show Kc Tryz.prog 128 #[.slice a0 2 2,.slice a1 2 2,.slice a2 2 2] W (.tuple #[.string (dec (lgN p n)),.int .i64 0]) from h))
 rw[Zmx,Zmw] at HF;have C':=hd_ (fun W (hW:Below w.heap.size w W)=>Zc4 W 2 n (by decide) (Zk9 (by decide) (by omega)) (by omega) (L.below hW))
 rw[Zdj] at C';have N0:=hd_ (fun W (hW:Below w.heap.size w W)=>Zgy W 0 1 0 (by decide +kernel) (by decide) (by decide) (by decide) (by decide) (L.below hW))
 have N1:=hd_ (fun W (hW:Below w.heap.size w W)=>Zgy W 1 1 1 (by decide +kernel) (by decide) (by decide) (by decide) (by decide) (L.below hW))
 obtain⟨z1,z2⟩:=Zcx;have o1:itx (1:Rat).num=⟨#[49]⟩:=by show itx 1=_;rw[show itx 1=dec 1 from Kj 1,Vg]
 have o2:dec (1:Rat).den=⟨#[49]⟩:=Vg;unfold fr fv at N0 N1;rw[z1,z2] at N0;rw[o1,o2] at N1;have Gn:((p:Int)==2)=false:=by rw[beq_eq_false_iff_ne];omega
 have Ns:¬ (n:Int)≤9:=by omega
 clear hp Bg mz GJ sA sB mw A9 z1 z2 o1 o2 L h9;unfold Kc;generalize dec (lgN p n)=st at *
 generalize dec (2^n)=sp at *
 go_enter Tryz.func49,Tryz.ntmps49
 go_wp2_with fail
 have B1:=hd_ ((Below.refl w.heap.size w).alloc nr_ (.cells #[.int .i64 2,.int .i64 p] 3));have F1:Hid ((w.alloc (.cells #[.int .i64 2,.int .i64 p] 3)).heap[w.heap.size]?=some (.cells #[.int .i64 2,.int .i64 p] 3 (0,0))):=heap_alloc_new w _;generalize w.alloc (.cells #[.int .i64 2,.int .i64 p] 3)=w1 at *
 refine cm_ (C'.out _ B1.out) ?_;rintro e_ w2 ⟨rfl,H7⟩;have B2:=hd_ (B1.out.trans (H7.mono B1.out.size));replace F1:=hd_ (Kl (Kd F1.out H7 nr_) (.cells #[.string sp,.string ⟨#[49]⟩] 42));have B3:=hd_ (B2.out.alloc B2.out.size (.cells #[.string sp,.string ⟨#[49]⟩] 42));have F2:Hid ((w2.alloc (.cells #[.string sp,.string ⟨#[49]⟩] 42)).heap[w2.heap.size]?=some (.cells #[.string sp,.string ⟨#[49]⟩] 42 (0,0))):=heap_alloc_new w2 _;clear H7 B1 B2 C'
 go_wp2_with fail
 generalize w2.alloc (.cells #[.string sp,.string ⟨#[49]⟩] 42)=w3 at *
 generalize w2.heap.size=g2 at *
 obtain⟨k0,k1,-,-⟩:=Ka F2.out;have q0:=BW.cell k0;have q1:=BW.cell k1;have gk:Nonempty (BW w3):=⟨⟨w3,Below.refl _ _⟩⟩;have I:Hid (Below w3.heap.size w3 w3.drew):=(Below.refl w3.heap.size w3).drew;clear k0 k1 F2;refine RP.wp_region_tree 12 (.rd 2 0 (.rd 1 2 (.mv 1 (.two 3 4 (.mv 4 (.mv 5 (.mv 6 (.mv 7 (.rd 2 8 (.rd 2 9 (.rd 2 10 (.mv 11 (.mv 12 .nil))))))))) (.two 3 5 (.mv 5 (.mv 6 (.mv 7 (.rd 2 8 (.rd 2 9 (.rd 2 10 (.mv 11 (.mv 12 .nil)))))))) (.two 3 6 (.mv 6 (.mv 7 (.rd 2 8 (.rd 2 9 (.rd 2 10 (.mv 11 (.mv 12 .nil))))))) (.mv 3 (.mv 7 (.rd 2 8 (.rd 2 9 (.rd 2 10 (.mv 11 (.mv 12 .nil))))))))))))) (fun w'=>∃ p:BW w3,w'=p.w) (by kernel_rfl) (by kernel_rfl) ?_ ?_
 ·exact⟨⟨_,I.out⟩,rfl⟩
 refine RP.walkT_any ?_;simp only[dz_,Kg,tz_]
 go_big_quiet_step (fail);refine wpQuiet_nil ?_
 refine RP.walkT_read ?_;simp only[Kh,dz_,Kg,tz_]
 go_big_quiet_step (fail);refine wpQuiet_nil ?_
 clear q0 q1 gk;refine RP.walkT_move ?_;simp only[Kh,dz_,Kg,tz_]
 go_wp2_with fail
 refine cm_ (N0.out _ (B3.out.trans (I.out.mono B3.out.size))) ?_;rintro e_ y1 ⟨rfl,H7⟩;have gI:Hid (Below w3.heap.size w3 y1):=I.out.trans (H7.mono I.out.size);clear H7
 go_wp2_with fail
 refine⟨⟨⟨_,gI.out⟩,rfl⟩,?_⟩;refine RP.walkT_two ?_ ?_
 ·simp only[Kh,dz_,Kg,tz_]
  go_wp2_with fail
  have fD:=hd_ (gI.out.alloc gI.out.size (.cells #[.string ⟨#[48]⟩,.string ⟨#[49]⟩,.string sp,.string ⟨#[49]⟩] 42));have i':Hid ((y1.alloc (.cells #[.string ⟨#[48]⟩,.string ⟨#[49]⟩,.string sp,.string ⟨#[49]⟩] 42)).heap[y1.heap.size]?=some (.cells #[.string ⟨#[48]⟩,.string ⟨#[49]⟩,.string sp,.string ⟨#[49]⟩] 42 (0,0))):=heap_alloc_new y1 _;refine⟨⟨⟨_,fD.out⟩,rfl⟩,?_⟩;obtain⟨gX_y2,hgX_y2⟩:∃ g,g=y1.heap.size:=⟨_,rfl⟩;rw[← hgX_y2] at i' ⊢;clear hgX_y2;generalize y1.alloc (.cells #[.string ⟨#[48]⟩,.string ⟨#[49]⟩,.string sp,.string ⟨#[49]⟩] 42)=y2 at *
  refine RP.walkT_move ?_;simp only[Kh,dz_,Kg,tz_]
  go_wp2_with fail
  refine cm_ (N1.out _ (B3.out.trans (fD.out.mono B3.out.size))) ?_;rintro e_ y3 ⟨rfl,H7⟩;have gL:Hid (Below w3.heap.size w3 y3):=fD.out.trans (H7.mono fD.out.size);have lI:=hd_ (Kd i'.out H7 nr_);clear H7
  go_wp2_with fail
  refine⟨⟨⟨_,gL.out⟩,rfl⟩,?_⟩;refine RP.walkT_move ?_;simp only[Kh,dz_,Kg,tz_]
  go_wp2_with fail
  refine cm_ (N0.out _ (B3.out.trans (gL.out.mono B3.out.size))) ?_;rintro e_ y4 ⟨rfl,H7⟩;have fZ:Hid (Below w3.heap.size w3 y4):=gL.out.trans (H7.mono gL.out.size);have lH:=hd_ (Kd lI.out H7 nr_);clear H7
  go_wp2_with fail
  refine⟨⟨⟨_,fZ.out⟩,rfl⟩,?_⟩;refine RP.walkT_move ?_;simp only[Kh,dz_,Kg,tz_]
  go_wp2_with fail
  have GG:=hd_ (fZ.out.alloc fZ.out.size (.cells #[.string ⟨#[49]⟩,.string ⟨#[49]⟩,.string ⟨#[48]⟩,.string ⟨#[49]⟩] 42));have iY:Hid ((y4.alloc (.cells #[.string ⟨#[49]⟩,.string ⟨#[49]⟩,.string ⟨#[48]⟩,.string ⟨#[49]⟩] 42)).heap[y4.heap.size]?=some (.cells #[.string ⟨#[49]⟩,.string ⟨#[49]⟩,.string ⟨#[48]⟩,.string ⟨#[49]⟩] 42 (0,0))):=heap_alloc_new y4 _;have lG:=hd_ (Kl lH.out (.cells #[.string ⟨#[49]⟩,.string ⟨#[49]⟩,.string ⟨#[48]⟩,.string ⟨#[49]⟩] 42));refine⟨⟨⟨_,GG.out⟩,rfl⟩,?_⟩;obtain⟨gY_y5,hgY_y5⟩:∃ g,g=y4.heap.size:=⟨_,rfl⟩;rw[← hgY_y5] at iY ⊢;clear hgY_y5;generalize y4.alloc (.cells #[.string ⟨#[49]⟩,.string ⟨#[49]⟩,.string ⟨#[48]⟩,.string ⟨#[49]⟩] 42)=y5 at *
  refine RP.walkT_move ?_;simp only[Kh,dz_,Kg,tz_]
  go_wp2_with fail
  refine cm_ (HF.out _ (B3.out.trans (GG.out.mono B3.out.size)) _ _ _ (Zj (Kd F1.out GG.out nr_)) (Zj lG.out) (Zj iY.out)) ?_;rintro e_ z1 ⟨rfl,H7⟩;have W1:Hid (Below w3.heap.size w3 z1):=GG.out.trans (H7.mono GG.out.size);clear H7
  go_wp2_with fail
  refine⟨⟨⟨_,W1.out⟩,rfl⟩,?_⟩;refine RP.walkT_any ?_;simp only[Kh,dz_,Kg,tz_]
  go_big_quiet_step (fail);refine wpQuiet_nil ?_
  refine RP.walkT_any ?_;simp only[Kh,dz_,Kg,tz_]
  go_big_quiet_step (fail);refine wpQuiet_nil ?_
  refine RP.walkT_any ?_;simp only[Kh,dz_,Kg,tz_]
  go_big_quiet_step (fail);refine wpQuiet_nil ?_
  refine RP.walkT_move ?_;simp only[Kh,dz_,Kg,tz_]
  go_wp2_with fail
  refine⟨⟨⟨_,W1.out⟩,rfl⟩,?_⟩;refine RP.walkT_move ?_;simp only[Kh,dz_,Kg,tz_]
  go_wp2_with fail
  simp only[RP.walkT]
  go_wp2_with fail
  go_ret;exact⟨rfl,B3.out.trans (W1.out.mono B3.out.size)⟩
 ·simp only[Kh,dz_,Kg,tz_]
  go_wp2_with fail
  refine cm_ (N1.out _ (B3.out.trans (gI.out.mono B3.out.size))) ?_;rintro e_ y6 ⟨rfl,H7⟩;have fc:Hid (Below w3.heap.size w3 y6):=gI.out.trans (H7.mono gI.out.size);clear H7
  go_wp2_with fail
  refine⟨⟨⟨_,fc.out⟩,rfl⟩,?_⟩;refine RP.walkT_two ?_ ?_
  ·simp only[Kh,dz_,Kg,tz_]
   go_wp2_with fail
   have fC:=hd_ (fc.out.alloc fc.out.size (.cells #[.string ⟨#[48]⟩,.string ⟨#[49]⟩,.string sp,.string ⟨#[49]⟩] 42));have i7:Hid ((y6.alloc (.cells #[.string ⟨#[48]⟩,.string ⟨#[49]⟩,.string sp,.string ⟨#[49]⟩] 42)).heap[y6.heap.size]?=some (.cells #[.string ⟨#[48]⟩,.string ⟨#[49]⟩,.string sp,.string ⟨#[49]⟩] 42 (0,0))):=heap_alloc_new y6 _;refine⟨⟨⟨_,fC.out⟩,rfl⟩,?_⟩;obtain⟨gX_y7,hgX_y7⟩:∃ g,g=y6.heap.size:=⟨_,rfl⟩;rw[← hgX_y7] at i7 ⊢;clear hgX_y7;generalize y6.alloc (.cells #[.string ⟨#[48]⟩,.string ⟨#[49]⟩,.string sp,.string ⟨#[49]⟩] 42)=y7 at *
   refine RP.walkT_move ?_;simp only[Kh,dz_,Kg,tz_]
   go_wp2_with fail
   refine cm_ (N0.out _ (B3.out.trans (fC.out.mono B3.out.size))) ?_;rintro e_ y8 ⟨rfl,H7⟩;have eQ:Hid (Below w3.heap.size w3 y8):=fC.out.trans (H7.mono fC.out.size);have lF:=hd_ (Kd i7.out H7 nr_);clear H7
   go_wp2_with fail
   refine⟨⟨⟨_,eQ.out⟩,rfl⟩,?_⟩;refine RP.walkT_move ?_;simp only[Kh,dz_,Kg,tz_]
   go_wp2_with fail
   have cK:=hd_ (eQ.out.alloc eQ.out.size (.cells #[.string ⟨#[49]⟩,.string ⟨#[49]⟩,.string ⟨#[48]⟩,.string ⟨#[49]⟩] 42));have iX:Hid ((y8.alloc (.cells #[.string ⟨#[49]⟩,.string ⟨#[49]⟩,.string ⟨#[48]⟩,.string ⟨#[49]⟩] 42)).heap[y8.heap.size]?=some (.cells #[.string ⟨#[49]⟩,.string ⟨#[49]⟩,.string ⟨#[48]⟩,.string ⟨#[49]⟩] 42 (0,0))):=heap_alloc_new y8 _;have lE:=hd_ (Kl lF.out (.cells #[.string ⟨#[49]⟩,.string ⟨#[49]⟩,.string ⟨#[48]⟩,.string ⟨#[49]⟩] 42));refine⟨⟨⟨_,cK.out⟩,rfl⟩,?_⟩;obtain⟨gY_y9,hgY_y9⟩:∃ g,g=y8.heap.size:=⟨_,rfl⟩;rw[← hgY_y9] at iX ⊢;clear hgY_y9;generalize y8.alloc (.cells #[.string ⟨#[49]⟩,.string ⟨#[49]⟩,.string ⟨#[48]⟩,.string ⟨#[49]⟩] 42)=y9 at *
   refine RP.walkT_move ?_;simp only[Kh,dz_,Kg,tz_]
   go_wp2_with fail
   refine cm_ (HF.out _ (B3.out.trans (cK.out.mono B3.out.size)) _ _ _ (Zj (Kd F1.out cK.out nr_)) (Zj lE.out) (Zj iX.out)) ?_;rintro e_ z1 ⟨rfl,H7⟩;have W1:Hid (Below w3.heap.size w3 z1):=cK.out.trans (H7.mono cK.out.size);clear H7
   go_wp2_with fail
   refine⟨⟨⟨_,W1.out⟩,rfl⟩,?_⟩;refine RP.walkT_any ?_;simp only[Kh,dz_,Kg,tz_]
   go_big_quiet_step (fail);refine wpQuiet_nil ?_
   refine RP.walkT_any ?_;simp only[Kh,dz_,Kg,tz_]
   go_big_quiet_step (fail);refine wpQuiet_nil ?_
   refine RP.walkT_any ?_;simp only[Kh,dz_,Kg,tz_]
   go_big_quiet_step (fail);refine wpQuiet_nil ?_
   refine RP.walkT_move ?_;simp only[Kh,dz_,Kg,tz_]
   go_wp2_with fail
   refine⟨⟨⟨_,W1.out⟩,rfl⟩,?_⟩;refine RP.walkT_move ?_;simp only[Kh,dz_,Kg,tz_]
   go_wp2_with fail
   simp only[RP.walkT]
   go_wp2_with fail
   go_ret;exact⟨rfl,B3.out.trans (W1.out.mono B3.out.size)⟩
  ·simp only[Kh,dz_,Kg,tz_]
   go_wp2_with fail
   refine cm_ (N0.out _ (B3.out.trans (fc.out.mono B3.out.size))) ?_;rintro e_ y10 ⟨rfl,H7⟩;have EB:Hid (Below w3.heap.size w3 y10):=fc.out.trans (H7.mono fc.out.size);clear H7
   go_wp2_with fail
   refine⟨⟨⟨_,EB.out⟩,rfl⟩,?_⟩;refine RP.walkT_two ?_ ?_
   ·simp only[Kh,dz_,Kg,tz_]
    go_wp2_with fail
    have cM:=hd_ (EB.out.alloc EB.out.size (.cells #[.string ⟨#[48]⟩,.string ⟨#[49]⟩,.string sp,.string ⟨#[49]⟩] 42));have Bk:Hid ((y10.alloc (.cells #[.string ⟨#[48]⟩,.string ⟨#[49]⟩,.string sp,.string ⟨#[49]⟩] 42)).heap[y10.heap.size]?=some (.cells #[.string ⟨#[48]⟩,.string ⟨#[49]⟩,.string sp,.string ⟨#[49]⟩] 42 (0,0))):=heap_alloc_new y10 _;refine⟨⟨⟨_,cM.out⟩,rfl⟩,?_⟩;obtain⟨gX_y11,hgX_y11⟩:∃ g,g=y10.heap.size:=⟨_,rfl⟩;rw[← hgX_y11] at Bk ⊢;clear hgX_y11;generalize y10.alloc (.cells #[.string ⟨#[48]⟩,.string ⟨#[49]⟩,.string sp,.string ⟨#[49]⟩] 42)=y11 at *
    refine RP.walkT_move ?_;simp only[Kh,dz_,Kg,tz_]
    go_wp2_with fail
    have EA:=hd_ (cM.out.alloc cM.out.size (.cells #[.string ⟨#[49]⟩,.string ⟨#[49]⟩,.string ⟨#[48]⟩,.string ⟨#[49]⟩] 42));have Bi:Hid ((y11.alloc (.cells #[.string ⟨#[49]⟩,.string ⟨#[49]⟩,.string ⟨#[48]⟩,.string ⟨#[49]⟩] 42)).heap[y11.heap.size]?=some (.cells #[.string ⟨#[49]⟩,.string ⟨#[49]⟩,.string ⟨#[48]⟩,.string ⟨#[49]⟩] 42 (0,0))):=heap_alloc_new y11 _;have Ia:=hd_ (Kl Bk.out (.cells #[.string ⟨#[49]⟩,.string ⟨#[49]⟩,.string ⟨#[48]⟩,.string ⟨#[49]⟩] 42));refine⟨⟨⟨_,EA.out⟩,rfl⟩,?_⟩;obtain⟨gY_y12,hgY_y12⟩:∃ g,g=y11.heap.size:=⟨_,rfl⟩;rw[← hgY_y12] at Bi ⊢;clear hgY_y12;generalize y11.alloc (.cells #[.string ⟨#[49]⟩,.string ⟨#[49]⟩,.string ⟨#[48]⟩,.string ⟨#[49]⟩] 42)=y12 at *
    refine RP.walkT_move ?_;simp only[Kh,dz_,Kg,tz_]
    go_wp2_with fail
    refine cm_ (HF.out _ (B3.out.trans (EA.out.mono B3.out.size)) _ _ _ (Zj (Kd F1.out EA.out nr_)) (Zj Ia.out) (Zj Bi.out)) ?_;rintro e_ z1 ⟨rfl,H7⟩;have W1:Hid (Below w3.heap.size w3 z1):=EA.out.trans (H7.mono EA.out.size);clear H7
    go_wp2_with fail
    refine⟨⟨⟨_,W1.out⟩,rfl⟩,?_⟩;refine RP.walkT_any ?_;simp only[Kh,dz_,Kg,tz_]
    go_big_quiet_step (fail);refine wpQuiet_nil ?_
    refine RP.walkT_any ?_;simp only[Kh,dz_,Kg,tz_]
    go_big_quiet_step (fail);refine wpQuiet_nil ?_
    refine RP.walkT_any ?_;simp only[Kh,dz_,Kg,tz_]
    go_big_quiet_step (fail);refine wpQuiet_nil ?_
    refine RP.walkT_move ?_;simp only[Kh,dz_,Kg,tz_]
    go_wp2_with fail
    refine⟨⟨⟨_,W1.out⟩,rfl⟩,?_⟩;refine RP.walkT_move ?_;simp only[Kh,dz_,Kg,tz_]
    go_wp2_with fail
    simp only[RP.walkT]
    go_wp2_with fail
    go_ret;exact⟨rfl,B3.out.trans (W1.out.mono B3.out.size)⟩
   ·simp only[Kh,dz_,Kg,tz_]
    go_wp2_with fail
    have cL:=hd_ (EB.out.alloc EB.out.size (.cells #[.string ⟨#[49]⟩,.string ⟨#[49]⟩,.string ⟨#[48]⟩,.string ⟨#[49]⟩] 42));have Bh:Hid ((y10.alloc (.cells #[.string ⟨#[49]⟩,.string ⟨#[49]⟩,.string ⟨#[48]⟩,.string ⟨#[49]⟩] 42)).heap[y10.heap.size]?=some (.cells #[.string ⟨#[49]⟩,.string ⟨#[49]⟩,.string ⟨#[48]⟩,.string ⟨#[49]⟩] 42 (0,0))):=heap_alloc_new y10 _;refine⟨⟨⟨_,cL.out⟩,rfl⟩,?_⟩;obtain⟨gY_y13,hgY_y13⟩:∃ g,g=y10.heap.size:=⟨_,rfl⟩;rw[← hgY_y13] at Bh ⊢;clear hgY_y13;generalize y10.alloc (.cells #[.string ⟨#[49]⟩,.string ⟨#[49]⟩,.string ⟨#[48]⟩,.string ⟨#[49]⟩] 42)=y13 at *
    refine RP.walkT_move ?_;simp only[Kh,dz_,Kg,tz_]
    go_wp2_with fail
    have Ez:=hd_ (cL.out.alloc cL.out.size (.cells #[.string ⟨#[48]⟩,.string ⟨#[49]⟩,.string sp,.string ⟨#[49]⟩] 42));have Bj:Hid ((y13.alloc (.cells #[.string ⟨#[48]⟩,.string ⟨#[49]⟩,.string sp,.string ⟨#[49]⟩] 42)).heap[y13.heap.size]?=some (.cells #[.string ⟨#[48]⟩,.string ⟨#[49]⟩,.string sp,.string ⟨#[49]⟩] 42 (0,0))):=heap_alloc_new y13 _;have i6:=hd_ (Kl Bh.out (.cells #[.string ⟨#[48]⟩,.string ⟨#[49]⟩,.string sp,.string ⟨#[49]⟩] 42));refine⟨⟨⟨_,Ez.out⟩,rfl⟩,?_⟩;obtain⟨gX_y14,hgX_y14⟩:∃ g,g=y13.heap.size:=⟨_,rfl⟩;rw[← hgX_y14] at Bj ⊢;clear hgX_y14;generalize y13.alloc (.cells #[.string ⟨#[48]⟩,.string ⟨#[49]⟩,.string sp,.string ⟨#[49]⟩] 42)=y14 at *
    refine RP.walkT_move ?_;simp only[Kh,dz_,Kg,tz_]
    go_wp2_with fail
    refine cm_ (HF.out _ (B3.out.trans (Ez.out.mono B3.out.size)) _ _ _ (Zj (Kd F1.out Ez.out nr_)) (Zj Bj.out) (Zj i6.out)) ?_;rintro e_ z1 ⟨rfl,H7⟩;have W1:Hid (Below w3.heap.size w3 z1):=Ez.out.trans (H7.mono Ez.out.size);clear H7
    go_wp2_with fail
    refine⟨⟨⟨_,W1.out⟩,rfl⟩,?_⟩;refine RP.walkT_any ?_;simp only[Kh,dz_,Kg,tz_]
    go_big_quiet_step (fail);refine wpQuiet_nil ?_
    refine RP.walkT_any ?_;simp only[Kh,dz_,Kg,tz_]
    go_big_quiet_step (fail);refine wpQuiet_nil ?_
    refine RP.walkT_any ?_;simp only[Kh,dz_,Kg,tz_]
    go_big_quiet_step (fail);refine wpQuiet_nil ?_
    refine RP.walkT_move ?_;simp only[Kh,dz_,Kg,tz_]
    go_wp2_with fail
    refine⟨⟨⟨_,W1.out⟩,rfl⟩,?_⟩;refine RP.walkT_move ?_;simp only[Kh,dz_,Kg,tz_]
    go_wp2_with fail
    simp only[RP.walkT]
    go_wp2_with fail
    go_ret;exact⟨rfl,B3.out.trans (W1.out.mono B3.out.size)⟩
theorem Zo3(w:World)(p n:Nat)(hp:p=2∨p∈Yp)(hn:n≤90)(L:Qd w):Kc Tryz.prog 49 #[.int .i64 p,.int .i64 n] w (.string (dec (lgN p n))):=by
 rcases hp with rfl|hp
 ·exact Zto w n hn L
 ·rcases Nat.lt_or_ge 9 n with h | h
  ·exact Ztq w p n hp h hn L
  ·exact Ztp w p n hp h L
structure Qdb (x y j c:Nat) (a:Option Addr) (d:Nat) (w wr:World):Prop where
 own:Zfb wr w.heap.size a d (nI (Yu (x+y) j))
 bel:Below w.heap.size w wr
 car:(x+y)/1000000000^j=x/1000000000^j+y/1000000000^j+c
 one:c≤1
theorem Zsy(x y j c:Nat)(hc:(x+y)/1000000000^j=x/1000000000^j+y/1000000000^j+c):
  (c+(Kf x).getD j 0+(Kf y).getD j 0)%1000000000=(x+y)/1000000000^j%1000000000 ∧
  (x+y)/1000000000^(j+1)=x/1000000000^(j+1)+y/1000000000^(j+1)+(c+(Kf x).getD j 0+(Kf y).getD j 0)/1000000000:=by
 rw[Zik,Zik,Nat.pow_succ,← Nat.div_div_eq_div_mul,← Nat.div_div_eq_div_mul,← Nat.div_div_eq_div_mul];generalize (x+y)/1000000000^j=N at *
 generalize x/1000000000^j=X at *
 generalize y/1000000000^j=Y at *
 omega
theorem Zii(n j:Nat)(h:(Kf n).length≤j):(Kf n).getD j 0=0∧n/1000000000^j=0:=by
 refine⟨by rw[List.getD_eq_getElem?_getD,List.getElem?_eq_none h];rfl,?_⟩
 rw[Nat.div_eq_of_lt ((Kn n j).1 h)]
theorem Zsz(w:World)(a1 a2:Option Addr)(c1 c2 x y:Nat)(h1:Rd w a1 (Qt (nI (Kf x))))(h2:Rd w a2 (Qt (nI (Kf y))))(l1:(Kf x).length≤400000)(l2:(Kf y).length≤400000):
  Calls Tryz.prog 180 #[.slice a1 (Kf x).length c1,.slice a2 (Kf y).length c2] w fun e w'=>∃ (a:Option Addr) (j d:Nat),e = .returned (.slice a j d)∧Rd w' a (Qt (nI (Yu (x+y) j)))∧j≤d∧j≤1000000∧val (Yu (x+y) j)=x+y∧Below w.heap.size w w':=by
 have H1:=hd_ h1;have H2:=hd_ h2;clear h1 h2;have P1:=hd_ (Ko x);have P2:=hd_ (Ko y);obtain⟨n,hn⟩:∃ n,(Kf x).length=n:=⟨_,rfl⟩;obtain⟨m,hm⟩:∃ m,(Kf y).length=m:=⟨_,rfl⟩;have Hn:=hd_ hn;have Hm:=hd_ hm;rw[hn] at l1 ⊢;rw[hm] at l2 ⊢;clear hn hm;go_enter Tryz.func180,Tryz.ntmps180
 go_wp2_with fail
 go_loopw [5,6,7] (fun o cv i wr=>∃ (a:Option Addr) (d j c:Nat),o = .slice a j d∧cv = .int .i64 c∧i = .int .i64 j∧j≤max n m+1∧(c=0∨j≤max n m)∧c≤1∧Hid (Qdb x y j c a d w wr)) (fun _ _ i _=>max n m+1-(intOf i).toNat)
 case atStart =>
  refine⟨none,0,0,0,rfl,rfl,rfl,by omega,.inl rfl,by omega,⟨Zfb.nil w w.heap.size,Below.refl _ _,?_,by omega⟩⟩
  rw[Nat.pow_zero,Nat.div_one,Nat.div_one,Nat.div_one];omega
 case round =>
  obtain⟨a,d,j,c,rfl,rfl,rfl,hj,hcj,hc,HA⟩:=hrel;obtain⟨eG,fg⟩:=Zsy x y j c HA.out.car;have Ak:j<n∨(n≤j∧(Kf x).getD j 0=0∧x/1000000000^j=0):=by
   rcases Nat.lt_or_ge j n with h|h
   ·exact .inl h
   ·obtain⟨e1,e2⟩:=Zii x j (by rw[Hn.out];exact h)
    exact .inr ⟨h,e1,e2⟩
  have bQ:j<m∨(m≤j∧(Kf y).getD j 0=0∧y/1000000000^j=0):=by
   rcases Nat.lt_or_ge j m with h|h
   ·exact .inl h
   ·obtain⟨e1,e2⟩:=Zii y j (by rw[Hm.out];exact h)
    exact .inr ⟨h,e1,e2⟩
  have mn:=P1.out.getD j;have ml:=P2.out.getD j;have cx:j<n→∃ b o,a1=some ⟨b,o,none⟩∧wr.cell? ⟨b,o+j,none⟩=some (.int .i64 ((Kf x).getD j 0:Nat)):=fun h=>by
   obtain⟨b,o,e1,hb,Ec⟩:=Zep H1.out j (by rw[Hn.out];exact h)
   refine⟨b,o,e1,?_⟩;rw[HA.out.bel.cell (p:=⟨b,o+j,none⟩) hb];exact Ec j (by rw[Hn.out];exact h)
  have cy:j<m→∃ b o,a2=some ⟨b,o,none⟩∧wr.cell? ⟨b,o+j,none⟩=some (.int .i64 ((Kf y).getD j 0:Nat)):=fun h=>by
   obtain⟨b,o,e1,hb,Ec⟩:=Zep H2.out j (by rw[Hm.out];exact h)
   refine⟨b,o,e1,?_⟩;rw[HA.out.bel.cell (p:=⟨b,o+j,none⟩) hb];exact Ec j (by rw[Hm.out];exact h)
  have G2:Hid (∀ a3 d3 w3,Zfb w3 w.heap.size a3 d3 (nI (Yu (x+y) (j+1)))→Below w.heap.size w w3→Qdb x y (j+1) ((c+(Kf x).getD j 0+(Kf y).getD j 0)/1000000000) a3 d3 w w3):=fun a3 d3 w3 h1 h2=>⟨h1,h2,fg,by omega⟩
  have aP:Hid (¬ j<n→¬ j<m→c=0→val (Yu (x+y) j)=x+y):=fun h1 h2 h3=>by
   rw[Zg8,Nat.mod_eq_of_lt];have e:=HA.out.car;have ex:x/1000000000^j=0:=Ak.elim (fun h=>absurd h h1) (fun h=>h.2.2)
   have ey:y/1000000000^j=0:=bQ.elim (fun h=>absurd h h2) (fun h=>h.2.2)
   rw[ex,ey,h3] at e;rcases Nat.div_eq_zero_iff.1 e with h|h
   ·exact absurd h (Nat.ne_of_gt (Nat.pow_pos (by decide)))
   ·exact h
  have Eg:Hid ((c+(Kf x).getD j 0+(Kf y).getD j 0)%1000000000=(x+y)/1000000000^j%1000000000):=eG;have gH:wr.ownsRow w.heap.size 3 1 (.slice a j d) j (Qt (nI (Yu (x+y) j))):=by have:=HA.out.own;unfold Zfb at this;rw[Qr,Kv] at this;exact this
  have gA:=hd_ gH;have DO:¬ j<n→(Kf x).getD j 0=0:=fun h=>by
   rcases Ak with h1|h1
   ·exact absurd h1 h
   ·exact h1.2.1
  have dK:¬ j<m→(Kf y).getD j 0=0:=fun h=>by
   rcases bQ with h1|h1
   ·exact absurd h1 h
   ·exact h1.2.1
  clear eG fg Ak bQ gH;generalize (Kf x).getD j 0=u at *
  generalize (Kf y).getD j 0=v at *
  by_cases ab:j<n∨j<m∨0<c
  ·have ie:max n m+1-(j+1)<max n m+1-j∧j+1≤max n m+1∧((c+u+v)/1000000000=0∨j+1≤max n m)∧(c+u+v)/1000000000≤1:=by
    refine⟨by omega,by omega,?_,by omega⟩
    rcases Nat.lt_or_ge j n with h|h
    ·right;omega
    ·rcases Nat.lt_or_ge j m with h2 | h2
     ·right;omega
     ·left;have e1:=DO (by omega)
      have e2:=dK (by omega)
      rw[e1,e2];omega
   obtain⟨T,hT⟩:∃ T,c+u+v=T:=⟨_,rfl⟩;rw[hT] at ie G2 Eg;have N7:T<2000000001:=by omega
   have G1:Int.tmod (T:Int) 1000000000=((T%1000000000:Nat):Int):=by rw[Int.tmod_eq_emod_of_nonneg (by omega)];omega
   have iD:(T:Int)%1000000000=((T%1000000000:Nat):Int):=by omega
   have Fn:Int.tdiv (T:Int) 1000000000=((T/1000000000:Nat):Int):=by rw[Int.tdiv_eq_ediv_of_nonneg (by omega)];omega
   have iC:(T:Int)/1000000000=((T/1000000000:Nat):Int):=by omega
   have Du:T/1000000000<1000000000:=by omega
   have J9:T%1000000000<1000000000:=Nat.mod_lt _ (by decide)
   have oA:IntKind.i64.wrap ((j:Int)+1)=((j+1:Nat):Int):=by rw[← Int.natCast_succ];exact iw_ _ (by omega)
   have OS:j≤400001:=by omega
   clear mn ml aP Du;generalize T%1000000000=D at *
   generalize T/1000000000=C at *
   have pu:IntKind.i64.wrap (D:Int)=(D:Int):=iw_ _ (by omega)
   have pq:IntKind.i64.wrap (C:Int)=(C:Int):=iw_ _ (by omega)
   have HB:=hd_ HA.out.bel;have Gk:=HA.out.one;clear HA hcj;obtain⟨fN,Do,hn3,hn4⟩:=ie;have Cp:=hd_ fN;clear fN
   by_cases h1:j<n
   ·by_cases h2:j<m
    ·obtain⟨b1,o1,rfl,kx⟩:=cx h1;obtain⟨b2,o2,rfl,ky⟩:=cy h2;have g1:(j:Int)<n:=by omega
     have g2:(j:Int)<m:=by omega
     have Au:IntKind.i64.wrap ((c:Int)+u)=(c:Int)+u:=iw_ _ (by omega)
     have jN:IntKind.i64.wrap ((c:Int)+u+v)=(T:Int):=by rw[show (c:Int)+u+v=(T:Int) by omega];exact iw_ _ (by omega)
     clear cx cy DO dK ab
     go_wp2_with (at_builtin;refine Km rfl (.tmp 44) (.tmp 47) 35 rfl Zrd _ 1 [.int .i64 (D:Nat)] rfl rfl gA.out HB.out.size rfl ?c1 (by omega) (by omega) ?_)
     case c1=>first | rfl | (intro u hu;obtain rfl:=List.mem_singleton.1 hu;rfl)
     intro v' w3 ge hg3 _;obtain⟨a3,c3,rfl⟩:=Qk ge;have eX:=hd_ (G2.out a3 c3 w3 (by
      unfold Zfb;rw[Qr,Kv,Yn,Zbt,Zf,← Eg.out];exact ge) ((HB.out.alloc HB.out.size _).grown hg3 (by have:=HB.out.size;simp;omega) (fun k hk=>(gA.out.lt k hk).1)))
     clear ge hg3 G2 gA HB Eg
     go_wp2_with fail
     exact⟨⟨a3,c3,j+1,C,rfl,by go_num,by go_num,Do,hn3,hn4,eX⟩,by simpa [intOf] using Cp.out⟩
    ·obtain⟨b1,o1,rfl,kx⟩:=cx h1;have g1:(j:Int)<n:=by omega
     have g2:¬ (j:Int)<m:=by omega
     have g3:v=0:=dK h2;have Au:IntKind.i64.wrap ((c:Int)+u)=(T:Int):=by rw[show (c:Int)+u=(T:Int) by omega];exact iw_ _ (by omega)
     clear cx cy DO dK ab g3
     go_wp2_with (at_builtin;refine Km rfl (.tmp 44) (.tmp 47) 35 rfl Zrd _ 1 [.int .i64 (D:Nat)] rfl rfl gA.out HB.out.size rfl ?c1 (by omega) (by omega) ?_)
     case c1=>first | rfl | (intro u hu;obtain rfl:=List.mem_singleton.1 hu;rfl)
     intro v' w3 ge hg3 _;obtain⟨a3,c3,rfl⟩:=Qk ge;have eX:=hd_ (G2.out a3 c3 w3 (by
      unfold Zfb;rw[Qr,Kv,Yn,Zbt,Zf,← Eg.out];exact ge) ((HB.out.alloc HB.out.size _).grown hg3 (by have:=HB.out.size;simp;omega) (fun k hk=>(gA.out.lt k hk).1)))
     clear ge hg3 G2 gA HB Eg
     go_wp2_with fail
     exact⟨⟨a3,c3,j+1,C,rfl,by go_num,by go_num,Do,hn3,hn4,eX⟩,by simpa [intOf] using Cp.out⟩
   ·by_cases h2:j<m
    ·obtain⟨b2,o2,rfl,ky⟩:=cy h2;have g1:¬ (j:Int)<n:=by omega
     have g2:(j:Int)<m:=by omega
     have g3:u=0:=DO h1;have Au:IntKind.i64.wrap ((c:Int)+v)=(T:Int):=by rw[show (c:Int)+v=(T:Int) by omega];exact iw_ _ (by omega)
     clear cx cy DO dK ab g3
     go_wp2_with (at_builtin;refine Km rfl (.tmp 44) (.tmp 47) 35 rfl Zrd _ 1 [.int .i64 (D:Nat)] rfl rfl gA.out HB.out.size rfl ?c1 (by omega) (by omega) ?_)
     case c1=>first | rfl | (intro u hu;obtain rfl:=List.mem_singleton.1 hu;rfl)
     intro v' w3 ge hg3 _;obtain⟨a3,c3,rfl⟩:=Qk ge;have eX:=hd_ (G2.out a3 c3 w3 (by
      unfold Zfb;rw[Qr,Kv,Yn,Zbt,Zf,← Eg.out];exact ge) ((HB.out.alloc HB.out.size _).grown hg3 (by have:=HB.out.size;simp;omega) (fun k hk=>(gA.out.lt k hk).1)))
     clear ge hg3 G2 gA HB Eg
     go_wp2_with fail
     exact⟨⟨a3,c3,j+1,C,rfl,by go_num,by go_num,Do,hn3,hn4,eX⟩,by simpa [intOf] using Cp.out⟩
    ·have g1:¬ (j:Int)<n:=by omega
     have g2:¬ (j:Int)<m:=by omega
     have g3:u=0:=DO h1;have g4:v=0:=dK h2;obtain rfl:c=T:=by omega
     have g5:(0:Int)<c:=by omega
     clear cx cy DO dK ab g3 g4
     go_wp2_with (at_builtin;refine Km rfl (.tmp 44) (.tmp 47) 35 rfl Zrd _ 1 [.int .i64 (D:Nat)] rfl rfl gA.out HB.out.size rfl ?c1 (by omega) (by omega) ?_)
     case c1=>first | rfl | (intro u hu;obtain rfl:=List.mem_singleton.1 hu;rfl)
     intro v' w3 ge hg3 _;obtain⟨a3,c3,rfl⟩:=Qk ge;have eX:=hd_ (G2.out a3 c3 w3 (by
      unfold Zfb;rw[Qr,Kv,Yn,Zbt,Zf,← Eg.out];exact ge) ((HB.out.alloc HB.out.size _).grown hg3 (by have:=HB.out.size;simp;omega) (fun k hk=>(gA.out.lt k hk).1)))
     clear ge hg3 G2 gA HB Eg
     go_wp2_with fail
     exact⟨⟨a3,c3,j+1,C,rfl,by go_num,by go_num,Do,hn3,hn4,eX⟩,by simpa [intOf] using Cp.out⟩
  ·have fP:¬ (j:Int)<n:=by omega
   have fO:¬ (j:Int)<m:=by omega
   obtain rfl:c=0:=by omega
   have ac:=hd_ (aP.out (by omega) (by omega) rfl)
   have eN:=HA.out.own.cap2;rw[Qr,Kv] at eN;have HR:=hd_ HA.out.own.rd;have HB:=hd_ HA.out.bel;have Hj:Hid (j≤d∧j≤1000000):=⟨eN,by omega⟩
   clear eN HA G2 aP Eg gA cx cy mn ml ab hcj DO dK
   go_wp2_with fail
   go_ret;exact⟨a,j,d,rfl,HR.out,Hj.out.1,Hj.out.2,ac.out,HB.out⟩
theorem Zxq(w:World)(x y:Nat)(hx:Num x)(hy:Num y)(L:Qd w):
  Kc Tryz.prog 109 #[.string (dec x),.string (dec y)] w (.string (dec (x+y))):=by
 unfold Kc;have dJ:(dec x).size≤1000000:=hx;have jx:(dec y).size≤1000000:=hy;have Q1:=hd_ fun w:World=>Zc3 w x
 have Q2:=hd_ fun w:World=>Zc3 w y
 by_cases hs:(dec x).size≤18∧(dec y).size≤18
 ·rw[if_pos hs.1] at Q1;rw[if_pos hs.2] at Q2;have d1:=(Ku x (dec x).size (by rw[Ky];exact Ys x)).1 (by rw[Ky];exact Nat.le_refl _)
  have d2:=(Ku y (dec y).size (by rw[Ky];exact Ys y)).1 (by rw[Ky];exact Nat.le_refl _)
  have d3:10^(dec x).size≤10^18:=Nat.pow_le_pow_right (by decide) hs.1
  have d4:10^(dec y).size≤10^18:=Nat.pow_le_pow_right (by decide) hs.2
  have d5:x+y<2000000000000000000:=by omega
  have fM:IntKind.i64.wrap ((x:Int)+(y:Int))=((x+y:Nat):Int):=by rw[← Int.natCast_add];exact iw_ _ (by omega)
  have jg:=hd_ fun (W:World) (hW:Below w.heap.size w W)=>Zjg W ((x+y:Nat):Int) (by omega) (by omega) (L.below hW)
  rw[Kj] at jg;clear d1 d2 d3 d4 d5 hx hy dJ jx L hs;generalize dec (x+y)=r at *
  generalize x+y=u at *
  generalize dec x=s1 at *
  generalize dec y=s2 at *
  go_enter Tryz.func109,Tryz.ntmps109
  go_wp2_with fail
  refine Calls.mono (Q1.out _) ?_;rintro e w3 ⟨rfl,hb3⟩;have gd:=hd_ hb3;clear hb3
  go_wp2_with fail
  refine Calls.mono (Q2.out _) ?_;rintro e w4 ⟨rfl,gw⟩;have gl:=hd_ (gd.out.trans (gw.mono gd.out.size));clear gw gd
  go_wp2_with fail
  refine cm_ (jg.out _ gl.out) ?_;rintro e w5 ⟨rfl,hb5⟩;have gt:=hd_ (gl.out.trans (hb5.mono gl.out.size));clear hb5 gl
  go_wp2_with fail
  go_ret;exact⟨rfl,gt.out⟩
 ·obtain⟨u1,b1,GR,hZ⟩:∃ (u1:Int) (b1:Bool),(if (dec x).size≤18 then Value.tuple #[.int .i64 x,.bool true] else .tuple #[.int .i64 0,.bool false]) = .tuple #[.int .i64 u1,.bool b1]∧(b1=true→(dec x).size≤18):=by
   by_cases h:(dec x).size≤18
   ·rw[if_pos h];exact⟨_,_,rfl,fun _=>h⟩
   ·rw[if_neg h];exact⟨_,_,rfl,fun h=>by cases h⟩
  obtain⟨u2,b2,Gh,HU⟩:∃ (u2:Int) (b2:Bool),(if (dec y).size≤18 then Value.tuple #[.int .i64 y,.bool true] else .tuple #[.int .i64 0,.bool false]) = .tuple #[.int .i64 u2,.bool b2]∧(b2=true→(dec y).size≤18):=by
   by_cases h:(dec y).size≤18
   ·rw[if_pos h];exact⟨_,_,rfl,fun _=>h⟩
   ·rw[if_neg h];exact⟨_,_,rfl,fun h=>by cases h⟩
  rw[GR] at Q1;rw[Gh] at Q2;have Ex:b1=true→b2=false:=fun h1=>by
   cases b2
   ·rfl
   ·exact absurd ⟨hZ h1,HU rfl⟩ hs
  have D1:=hd_ fun w:World=>Za3 w x
  have D2:=hd_ fun w:World=>Za3 w y
  have S1:=hd_ fun w:World=>Zdt w x
  have S2:=hd_ fun w:World=>Zdt w y
  have av:=hd_ fun w:World=>Zc1 w x hx
  have au:=hd_ fun w:World=>Zc1 w y hy
  unfold Zfo at av au;have HT:=hd_ fun (W:World) (a1 a2:Option Addr) (c1 c2:Nat) (h1:Rd W a1 (Qt (nI (Kf x)))) (h2:Rd W a2 (Qt (nI (Kf y))))=>Zsz W a1 a2 c1 c2 x y h1 h2 (Zaz x hx) (Zaz y hy)
  have HG:=hd_ fun (W:World) (a:Option Addr) (c j:Nat) (h:Rd W a (Qt (nI (Yu (x+y) j)))) (hc:j≤c) (hj:j≤1000000) (hv:val (Yu (x+y) j)=x+y) (LW:Qd W)=>by
   have:=Zgk W a c (Yu (x+y) j) h (Za2 _ _) (by rw[Kv];exact hj) (by rw[Kv];exact hc) LW
   rw[hv,Kv] at this;exact this
  have HL:=hd_ L;clear hx hy L dJ jx hs GR Gh hZ HU;generalize dec (x+y)=r at *
  generalize dec x=s1 at *
  generalize dec y=s2 at *
  obtain⟨lp,hlp⟩:∃ lp,(Kf x).length=lp:=⟨_,rfl⟩;obtain⟨lq,Ao⟩:∃ lq,(Kf y).length=lq:=⟨_,rfl⟩;rw[hlp] at av HT;rw[Ao] at au HT;clear hlp Ao;go_enter Tryz.func109,Tryz.ntmps109
  go_wp2_with fail
  refine Calls.mono (Q1.out _) ?_;rintro e w3 ⟨rfl,hb3⟩;have gd:=hd_ hb3;clear hb3 Q1
  go_wp2_with fail
  refine Calls.mono (Q2.out _) ?_;rintro e w4 ⟨rfl,gw⟩;have gl:=hd_ (gd.out.trans (gw.mono gd.out.size));clear gw gd Q2;obtain⟨hb,Dw⟩:∃ hb:b1=false∨(b1=true∧b2=false),True:=⟨by cases b1;exact .inl rfl;exact .inr ⟨rfl,Ex rfl⟩,trivial⟩
  clear Ex Dw;rcases hb with rfl|⟨rfl,rfl⟩
  all_goals
   go_wp2_with fail
   refine cm_ (D1.out _) ?_;rintro e w5 ⟨rfl,hb5⟩;have gt:=hd_ (gl.out.trans (hb5.mono gl.out.size));clear hb5 gl
   go_wp2_with fail
   refine cm_ (av.out _) ?_;rintro e w6 ⟨a1,c1,rfl,r1,gK,hb6⟩;have gM:=hd_ (gt.out.trans (hb6.mono gt.out.size));have R1:=hd_ r1;clear hb6 gt r1 gK
   go_wp2_with fail
   refine cm_ (D2.out _) ?_;rintro e w7 ⟨rfl,hb7⟩;have fw:=hd_ (gM.out.trans (hb7.mono gM.out.size));replace R1:=hd_ (R1.out.below hb7 nr_);clear hb7 gM
   go_wp2_with fail
   refine cm_ (au.out _) ?_;rintro e w8 ⟨a2,c2,rfl,r2,Gk,GE⟩;have dh:=hd_ (fw.out.trans (GE.mono fw.out.size));replace R1:=hd_ (R1.out.below GE nr_);have R2:=hd_ r2;clear GE fw r2 Gk
   go_wp2_with fail
   refine cm_ (S1.out _) ?_;rintro e w9 ⟨rfl,Ew⟩;have C9:=hd_ (dh.out.trans (Ew.mono dh.out.size));replace R1:=hd_ (R1.out.below Ew nr_);replace R2:=hd_ (R2.out.below Ew nr_);clear Ew dh
   go_wp2_with fail
   refine cm_ (S2.out _) ?_;rintro e w10 ⟨rfl,hb10⟩;have Cx:=hd_ (C9.out.trans (hb10.mono C9.out.size));replace R1:=hd_ (R1.out.below hb10 nr_);replace R2:=hd_ (R2.out.below hb10 nr_);clear hb10 C9
   go_wp2_with fail
   refine cm_ (S1.out _) ?_;rintro e w11 ⟨rfl,hb11⟩;have aT:=hd_ (Cx.out.trans (hb11.mono Cx.out.size));replace R1:=hd_ (R1.out.below hb11 nr_);replace R2:=hd_ (R2.out.below hb11 nr_);clear hb11 Cx
   go_wp2_with fail
   refine cm_ (HT.out _ a1 a2 c1 c2 R1.out R2.out) ?_;rintro e w12 ⟨a3,j3,c3,rfl,r3,Ge,hj3,bP,Ex⟩;have Dg:=hd_ (aT.out.trans (Ex.mono aT.out.size));have Je:=hd_ (HG.out w12 a3 c3 j3 r3 Ge hj3 bP (HL.out.below Dg.out));clear Ex aT r3 Ge hj3 bP R1 R2 HT HG
   go_wp2_with fail
   refine cm_ Je.out ?_;rintro e w13 ⟨rfl,hb13⟩;have bK:=hd_ (Dg.out.trans (hb13.mono Dg.out.size));clear hb13 Dg
   go_wp2_with fail
   go_ret;exact⟨rfl,bK.out⟩
end Go.Proofs.YtnjedhgcfeoemaaGreatDoor
