/- Lemmas for the laws of this seat, part 5. -/
import Derived.Laws.AppendOwnNone
import Derived.BigQuiet
import Derived.Deep.OwnRows
import Derived.Test.YtnjedhgcfeoemaaGreatDoorWi4
set_option maxRecDepth 100000
set_option maxHeartbeats 16000000
namespace Go.Proofs.YtnjedhgcfeoemaaGreatDoor
open Go.RowKit
theorem two_set{w:World}{R:Nat}{x y x' y':Value}{t:TypeId}(h:w.heap[R]?=some (.cells #[x,y] t (0,0))):
  ((w.setCell ⟨R,0,none⟩ x').setCell ⟨R,1,none⟩ y').heap[R]?=some (.cells #[x',y'] t (0,0)):=by
 have hlt:=lt_of_block h
 have h':w.heap[R] = .cells #[x,y] t (0,0):=by simpa [Array.getElem?_eq_getElem hlt] using h
 have e1:(w.setCell ⟨R,0,none⟩ x').heap[R]?=some (.cells #[x',y] t (0,0)):=by
  show (w.heap.modify R _)[R]?=_
  rw[Array.getElem?_eq_getElem (by simpa using hlt),Array.getElem_modify_self,h']
  rfl
 have hlt2:=lt_of_block e1
 have h2':(w.setCell ⟨R,0,none⟩ x').heap[R] = .cells #[x',y] t (0,0):=by simpa [Array.getElem?_eq_getElem hlt2] using e1
 show ((w.setCell ⟨R,0,none⟩ x').heap.modify R _)[R]?=_
 rw[Array.getElem?_eq_getElem (by simpa using hlt2),Array.getElem_modify_self,h2']
 rfl
def FrAt (w:World) (g:Nat) (q:Rat):Prop:=w.heap[g]?=some (.cells #[.string (itx q.num),.string (dec q.den)] 42 (0,0))
theorem FrAt.below{w w':World}{g:Nat}{q:Rat}(h:FrAt w g q)(hb:Below w.heap.size w w'):FrAt w' g q:=by
 unfold FrAt at *
 rw[hb.block g (Array.getElem?_eq_some_iff.1 h).1];exact h
structure EnI (w wr:World) (lo hi:Rat):Prop where
 e0:FrAt wr w.heap.size lo
 e1:FrAt wr (w.heap.size+1) hi
 bel:Below w.heap.size w wr
theorem EnI.below{w wr w':World}{lo hi:Rat}(h:EnI w wr lo hi)(hb:Below wr.heap.size wr w'):EnI w w' lo hi:=⟨h.e0.below hb,h.e1.below hb,h.bel.trans (hb.mono h.bel.size)⟩
def putEnds (w:World) (E:Nat) (a b:Rat):World :=
 (((w.setCell ⟨E,0,none⟩ (.string (itx a.num))).setCell ⟨E,1,none⟩ (.string (dec a.den))).setCell ⟨E+1,0,none⟩ (.string (itx b.num))).setCell ⟨E+1,1,none⟩ (.string (dec b.den))
theorem EnI.put{w wr:World}{lo hi:Rat}(h:EnI w wr lo hi)(a b:Rat):EnI w (putEnds wr w.heap.size a b) a b:=by
 have h1:=two_set (x' := .string (itx a.num)) (y' := .string (dec a.den)) h.e0
 have e1:((wr.setCell ⟨w.heap.size,0,none⟩ (.string (itx a.num))).setCell ⟨w.heap.size,1,none⟩ (.string (dec a.den))).heap[w.heap.size+1]?=some (.cells #[.string (itx hi.num),.string (dec hi.den)] 42 (0,0)):=by
  rw[Below.heap_setCell _ _ _ _ (by show w.heap.size+1≠w.heap.size;omega),Below.heap_setCell _ _ _ _ (by show w.heap.size+1≠w.heap.size;omega)]
  exact h.e1
 have h2:=two_set (x' := .string (itx b.num)) (y' := .string (dec b.den)) e1
 unfold putEnds
 refine⟨?_,h2,?_⟩
 ·unfold FrAt
  rw[Below.heap_setCell _ _ _ _ (by show w.heap.size≠w.heap.size+1;omega),Below.heap_setCell _ _ _ _ (by show w.heap.size≠w.heap.size+1;omega)]
  exact h1
 ·exact(((h.bel.setCell (p:=⟨w.heap.size,0,none⟩) nr_ _).setCell (p:=⟨w.heap.size,1,none⟩) nr_ _).setCell (p:=⟨w.heap.size+1,0,none⟩) (Nat.le_succ _) _).setCell (p:=⟨w.heap.size+1,1,none⟩) (Nat.le_succ _) _
theorem EnI.set{w wr:World}{lo hi:Rat}(h:EnI w wr lo hi){g:Nat}(hg:w.heap.size+2≤g)(x y:Value):EnI w ((wr.setCell ⟨g,0,none⟩ x).setCell ⟨g,1,none⟩ y) lo hi:=by
 refine⟨?_,?_,(h.bel.setCell (p:=⟨g,0,none⟩) (by show _≤g;omega) _).setCell (p:=⟨g,1,none⟩) (by show _≤g;omega) _⟩
 ·unfold FrAt
  rw[Below.heap_setCell _ _ _ _ (by show w.heap.size≠g;omega),Below.heap_setCell _ _ _ _ (by show w.heap.size≠g;omega)]
  exact h.e0
 ·unfold FrAt
  rw[Below.heap_setCell _ _ _ _ (by show w.heap.size+1≠g;omega),Below.heap_setCell _ _ _ _ (by show w.heap.size+1≠g;omega)]
  exact h.e1
theorem FrAt.set{w:World}{g k:Nat}{q:Rat}(h:FrAt w g q)(hk:g≠k)(x y:Value):FrAt ((w.setCell ⟨k,0,none⟩ x).setCell ⟨k,1,none⟩ y) g q:=by
 unfold FrAt
 rw[Below.heap_setCell _ _ _ _ hk,Below.heap_setCell _ _ _ _ hk]
 exact h
theorem FrAt.put{w:World}{g:Nat}{q:Rat}(h:FrAt w g q)(a:Rat):FrAt ((w.setCell ⟨g,0,none⟩ (.string (itx a.num))).setCell ⟨g,1,none⟩ (.string (dec a.den))) g a:=two_set h
theorem FrAt.new(w:World)(q:Rat):FrAt (w.alloc (.cells #[.string (itx q.num),.string (dec q.den)] 42)) w.heap.size q:=heap_alloc_new w _
theorem zero_txt:itx (0:Rat).num=⟨#[48]⟩∧dec (0:Rat).den=⟨#[49]⟩:=by
 refine⟨?_,?_⟩
 ·show itx 0=_
  rw[show itx 0=dec 0 from itx_nat 0]
  have:(dec 0).data = #[48]:=by decide +kernel
  exact ByteArray.ext this
 ·exact dec_one
structure EnW (w0:World) (lo hi:Rat) where
 w:World
 h:EnI w0 w lo hi
theorem EnW.cells{w0:World}{lo hi:Rat}(p:EnW w0 lo hi):p.w.cell? ⟨w0.heap.size,0,none⟩=some (.string (itx lo.num))∧p.w.cell? ⟨w0.heap.size,1,none⟩=some (.string (dec lo.den))∧p.w.cell? ⟨w0.heap.size+1,0,none⟩=some (.string (itx hi.num))∧p.w.cell? ⟨w0.heap.size+1,1,none⟩=some (.string (dec hi.den)):=by
 obtain⟨k0,k1,-,-⟩:=two_cells p.h.e0
 obtain⟨k2,k3,-,-⟩:=two_cells p.h.e1
 exact⟨k0,k1,k2,k3⟩
theorem EnI.put0{w wr:World}{lo hi:Rat}(h:EnI w wr lo hi)(a:Rat):EnI w ((wr.setCell ⟨w.heap.size,0,none⟩ (.string (itx a.num))).setCell ⟨w.heap.size,1,none⟩ (.string (dec a.den))) a hi :=
 ⟨two_set h.e0,FrAt.set h.e1 (by omega) _ _,(h.bel.setCell (p:=⟨w.heap.size,0,none⟩) nr_ _).setCell (p:=⟨w.heap.size,1,none⟩) nr_ _⟩
theorem EnI.put1{w wr:World}{lo hi:Rat}(h:EnI w wr lo hi)(a:Rat):EnI w ((wr.setCell ⟨w.heap.size+1,0,none⟩ (.string (itx a.num))).setCell ⟨w.heap.size+1,1,none⟩ (.string (dec a.den))) lo a :=
 ⟨FrAt.set h.e0 (by omega) _ _,two_set h.e1,(h.bel.setCell (p:=⟨w.heap.size+1,0,none⟩) (Nat.le_succ _) _).setCell (p:=⟨w.heap.size+1,1,none⟩) (Nat.le_succ _) _⟩
theorem num_k10{x:Nat}(h:x<2^K10):Num x:=num_two h (by decide)
theorem lg_k10{q b:Nat}(hq:q=2∨q∈oddP)(hb:b≤1000):lgN q b+2<2^K10∧2^b+1<2^K10:=by
 have h1:=lgN_le hq (show b≤1056 by omega)
 have h2:8*2^b≤2^K10:=by
  rw[show 8=2^3 from rfl,← Nat.pow_add]
  exact Nat.pow_le_pow_right (by decide) (by rw[k10];omega)
 have h3:8*2^b+8≤2^K10:=by
  have e:8*2^b*2≤2^K10:=by
   rw[show 8=2^3 from rfl,← Nat.pow_add,← Nat.pow_succ]
   exact Nat.pow_le_pow_right (by decide) (by rw[k10];omega)
  have:=Nat.two_pow_pos b
  omega
 have:=Nat.two_pow_pos b
 omega
theorem newQ(w:World)(n d:Nat)(hn:n+1<2^K10)(hd:d+1<2^K10)(hd0:0<d)(L:Laid w):
  Gives Tryz.prog 102 #[.string (dec n),.string (dec d)] w (.tuple #[fr (mkRat (n:Int) d),.int .i64 0]):=by
 have h:=new_frac w n d (show Num _ from num_k10 (by rw[Int.natAbs_natCast];omega)) (num_k10 (by omega)) hd0 (num_k10 (by rw[Int.natAbs_natCast];exact hn)) (num_k10 hd) L
 rw[itx_nat,redV_rat _ _ (by omega)] at h
 exact h
theorem ends_any14(w:World)(R:Nat)(ps:List Int)(l:List Rat)(B b D:Nat)(H:LgAt w R ps l B)(hl:l.length=ps.length)(hn:ps.length≤100)(hp:∀ p∈ps,∃ q:Nat,p=q∧(q=2∨q∈oddP))(hs:∀ q∈l,Sm D q)(hD:D≤300)(hb:b≤B)(hB:B≤1000)(L:Laid w):
  Gives Tryz.prog 80 #[.pointer (some ⟨R,0,none⟩),.int .i64 b] w (.tuple #[fr (loE b ps l),fr (hiE b ps l)]):=by
 unfold Gives
 have HH:=hd_ H
 have Hp:=hd_ hp
 have Hl:=hd_ hl
 have Hs:=hd_ hs
 have HL:=hd_ L
 obtain⟨a0,c0,a1,c1,a2,c2,S⟩:=H
 obtain⟨k0,k1,k2,k3,-⟩:=four_cells S.ob
 have hRs:R<w.heap.size:=(Array.getElem?_eq_some_iff.1 S.ob).1
 have HRp:=hd_ S.rp
 have HRl:=hd_ S.rl
 have HPw:=hd_ (fun W (hW:Below w.heap.size w W)=>power_ok W b (by omega) (HL.out.below hW))
 have Hk0:Hid (∀ W,Below w.heap.size w W→W.cell? ⟨R,0,none⟩=some (.slice a0 ps.length c0)):=fun W hW=>by rw[hW.cell (p:=⟨R,0,none⟩) hRs];exact k0
 have Hk1:Hid (∀ W,Below w.heap.size w W→W.cell? ⟨R,1,none⟩=some (.slice a1 ps.length c1)):=fun W hW=>by rw[hW.cell (p:=⟨R,1,none⟩) hRs];exact k1
 have Hv:Hid (True→(loE b ps l=loE b (ps.take ps.length) (l.take ps.length))∧hiE b ps l=hiE b (ps.take ps.length) (l.take ps.length)):=fun _=>by
  rw[List.take_length,List.take_of_length_le (by omega)];exact⟨rfl,rfl⟩
 obtain⟨vlo,hvlo⟩:∃ v,loE b ps l=v:=⟨_,rfl⟩
 obtain⟨vhi,hvhi⟩:∃ v,hiE b ps l=v:=⟨_,rfl⟩
 rw[hvlo,hvhi] at Hv ⊢
 clear S L hs hp hl hvlo hvhi k2 k3
 obtain⟨n,hn'⟩:∃ n,ps.length=n:=⟨_,rfl⟩
 have Hn:=hd_ hn'
 rw[hn'] at hn Hk0 Hk1 Hv k0 k1
 clear hn'
 unfold fr fv
 go_enter Tryz.func80,Tryz.ntmps80
 go_wp2_with fail
 have HE0:Hid (EnI w ((w.alloc (.cells #[.string ⟨#[48]⟩,.string ⟨#[49]⟩] 42)).alloc (.cells #[.string ⟨#[48]⟩,.string ⟨#[49]⟩] 42)) 0 0):=by
  obtain⟨z1,z2⟩:=zero_txt
  have h1:=FrAt.new w 0
  have h2:=FrAt.new (w.alloc (.cells #[.string (itx (0:Rat).num),.string (dec (0:Rat).den)] 42)) 0
  rw[z1,z2] at h1 h2
  refine⟨h1.below ((Below.refl _ _).alloc nr_ _),?_,((Below.refl _ _).alloc nr_ _).alloc (by simp) _⟩
  have e:(w.alloc (.cells #[.string ⟨#[48]⟩,.string ⟨#[49]⟩] 42)).heap.size=w.heap.size+1:=by simp
  rw[e] at h2;exact h2
 have Hz2:Hid (w.heap.size+2≤((w.alloc (.cells #[.string ⟨#[48]⟩,.string ⟨#[49]⟩] 42)).alloc (.cells #[.string ⟨#[48]⟩,.string ⟨#[49]⟩] 42)).heap.size):=by show _≤_;simp
 generalize (w.alloc (.cells #[.string ⟨#[48]⟩,.string ⟨#[49]⟩] 42)).alloc (.cells #[.string ⟨#[48]⟩,.string ⟨#[49]⟩] 42)=W0 at *
 refine cm_ (HPw.out _ HE0.out.bel) ?_
 rintro e w1 ⟨rfl,hb1⟩
 have HE1:=hd_ (HE0.out.below hb1)
 have Hz3:=hd_ (Nat.le_trans Hz2.out hb1.size)
 have k1':=Hk1.out _ HE1.out.bel
 clear hb1 HE0 HPw k0 k1 Hz2
 go_wp2_with fail
 go_loopw [25] (fun i wr=>∃ k:Nat,k≤n∧i = .int .i64 k∧Hid (EnI w wr (loE b (ps.take k) (l.take k)) (hiE b (ps.take k) (l.take k)))∧Hid (w.heap.size+2≤wr.heap.size)) (fun i _=>n-(intOf i).toNat)
 case atStart=>exact⟨0,Nat.zero_le _,rfl,by simpa [loE,hiE] using HE1,Hz3⟩
 case round =>
  obtain⟨k,hk,rfl,HE,Hz⟩:=hrel
  clear HE1 Hz3 k1'
  by_cases hlt:k<n
  ·have hlt':(k:Int)<n:=by omega
   have hkp:k<ps.length:=by rw[Hn.out];exact hlt
   have hkl:k<l.length:=by rw[Hl.out];exact hkp
   obtain⟨b0,o0,rfl,hb0,hc0⟩:=HRp.out.open (by rw[ints_length];omega)
   have Hcp:Hid (∀ W,Below w.heap.size w W→W.cell? ⟨b0,o0+k,none⟩=some (.int .i64 ps[k])):=fun W hW=>by
    rw[hW.cell (p:=⟨b0,o0+k,none⟩) hb0];exact hc0 k _ (ints_get ps k hkp)
   obtain⟨b1,o1,rfl,hb1,hc1⟩:=HRl.out.open (by rw[cellsQ_length];omega)
   obtain⟨x0,x1⟩:=cellsS_rd hc1 k (by rw[List.length_map];exact hkl)
   rw[qs_getD l k hkl] at x0 x1
   rw[← HE.out.bel.cell (p:=⟨b1,o1+k*2,none⟩) hb1] at x0
   rw[← HE.out.bel.cell (p:=⟨b1,o1+k*2+1,none⟩) hb1] at x1
   have hkw:IntKind.i64.wrap ((k:Int)+1)=((k+1:Nat):Int):=by rw[← Int.natCast_succ];exact iw_ _ (by omega)
   have Hsg:=hd_ (fun W=>signR W l[k])
   have Hst:=hd_ (ends_take b ps l k Hl.out hkp hkl)
   have Hsm:=hd_ (ends_sm (show b≤1056 by omega) Hp.out Hl.out Hs.out k (Nat.le_of_lt hkp))
   have Hcs:=hd_ (Hs.out l[k] (List.getElem_mem hkl))
   obtain⟨q,hq,hq2⟩:=Hp.out _ (List.getElem_mem hkp)
   have Hxs:=hd_ (xE_sm (p:=ps[k]) (Hp.out _ (List.getElem_mem hkp)) (show b≤1056 by omega))
   have HAt:=hd_ (fun W (hW:Below w.heap.size w W) (hz:l[k].num≠0)=>at_any W R ps l B b k (HH.out.below hW) Hl.out (by rw[Hn.out];omega) hkp hkl (Hp.out _ (List.getElem_mem hkp)) hz hb hB (HL.out.below hW))
   have Hq:=hd_ hq
   have Hq2:=hd_ hq2
   have hDk:1+k*(D+356)≤65700:=by
    have:k*(D+356)≤100*656:=Nat.mul_le_mul (by omega) (by omega)
    omega
   clear hc0 hc1 hq hq2
   unfold fr fv at Hsg
   unfold qs at x0 x1
   simp only at x0 x1
   generalize l[k]=c at *
   generalize ps[k]=pk at *
   have Hb1000:=hd_ (show b≤1000 by omega)
   by_cases hz:c.num=0
   ·have hc0:c=0:=Rat.num_eq_zero.1 hz
    have hskip:loE b (ps.take (k+1)) (l.take (k+1))=loE b (ps.take k) (l.take k)∧hiE b (ps.take (k+1)) (l.take (k+1))=hiE b (ps.take k) (l.take k):=by
     obtain⟨e1,e2⟩:=ends_skip b pk
     have:=Hst.out
     rw[hc0,e1,e2,Rat.add_zero,Rat.add_zero] at this
     exact this
    have Hskip:=hd_ hskip
    rw[hz] at Hsg x0
    have HEa:=hd_ (HE.out.below ((Below.refl _ _).alloc nr_ (.cells #[.string (itx 0),.string (dec c.den)] 42)))
    have Hza:Hid (w.heap.size+2≤(wr.alloc (.cells #[.string (itx 0),.string (dec c.den)] 42)).heap.size):=by show _≤_;simp;have:=Hz.out;omega
    have k8:=two_cells (heap_alloc_new wr (.cells #[.string (itx 0),.string (dec c.den)] 42))
    clear hskip HAt Hst Hsm Hcs Hxs Hq Hq2 Hcp hc0 hz
    go_wp2_with fail
    refine cm_ (Hsg.out _) ?_
    rintro e w2 ⟨rfl,hb2⟩
    have HE2:=hd_ (HEa.out.below hb2)
    have Hz2:=hd_ (Nat.le_trans Hza.out hb2.size)
    clear hb2 Hsg k8
    go_wp2_with fail
    refine⟨⟨k+1,by omega,by go_num,by rw[Hskip.out.1,Hskip.out.2];exact HE2,Hz2⟩,by simp[intOf];omega⟩
   ·have hsb:(c.num.sign==0)=false:=by
     rw[beq_eq_false_iff_ne]
     intro h
     exact hz (Int.sign_eq_zero_iff_zero.1 h)
    have HAt':=hd_ (fun W hW=>HAt.out W hW hz)
    have HEa:=hd_ (HE.out.below ((Below.refl _ _).alloc nr_ (.cells #[.string (itx c.num),.string (dec c.den)] 42)))
    have Hza:Hid (w.heap.size+2≤(wr.alloc (.cells #[.string (itx c.num),.string (dec c.den)] 42)).heap.size):=by show _≤_;simp;have:=Hz.out;omega
    have F8:=hd_ (FrAt.new wr c)
    obtain⟨g8,hg8⟩:∃ g8,g8=wr.heap.size:=⟨_,rfl⟩
    have k8:=two_cells (heap_alloc_new wr (.cells #[.string (itx c.num),.string (dec c.den)] 42))
    clear HAt hz
    go_wp2_with fail
    refine cm_ (Hsg.out _) ?_
    rintro e w2 ⟨rfl,hb2⟩
    have HE2:=hd_ (HEa.out.below hb2)
    have Hz2:=hd_ (Nat.le_trans Hza.out hb2.size)
    have F82:=hd_ (F8.out.below hb2)
    rw[← hg8] at F82
    have hz8:w.heap.size+2≤g8:=by rw[hg8];exact Hz.out
    have h82:g8<w2.heap.size:=(Array.getElem?_eq_some_iff.1 F82.out).1
    clear hb2 Hsg k8 HEa Hza F8
    rw[← hg8]
    have Hz8:=hd_ hz8
    have H82:=hd_ h82
    clear x0 x1 hg8 hz8 h82
    obtain⟨k0,k1,-,-⟩:=two_cells F82.out
    have q0:=NW.cell k0
    have q1:=NW.cell k1
    have hnon:Nonempty (NW w2):=⟨⟨w2,Below.refl _ _⟩⟩
    have I:Hid (Below w2.heap.size w2 w2.drew):=(Below.refl _ _).drew
    go_wp2_with fail
    clear k0 k1
    refine RP.wp_region_tree 5 (.rd 1 0 (.rd 1 1 (.two 2 3 (.mv 3 (.mv 4 (.mv 5 .nil))) (.mv 2 (.mv 4 (.mv 5 .nil)))))) (fun w'=>∃ p:NW w2,w'=p.w) (by kernel_rfl) (by kernel_rfl) ?_ ?_
    ·exact⟨⟨_,I.out⟩,rfl⟩
    iterate 2 (refine RP.walkT_read ?_;simp only[dsc_,dz_,tsc_,tz_];go_big_quiet_step (fail);refine wpQuiet_nil ?_)
    clear q0 q1 hnon
    refine RP.walkT_two ?_ ?_
    ·simp only[dsc_,dz_,tsc_,tz_]
     go_wp2_with fail
     obtain⟨ga,hga⟩:∃ x,x=w2.heap.size:=⟨_,rfl⟩
     have I3:Hid (Below w2.heap.size w2 (w2.alloc (.cells #[.string ⟨#[]⟩,.string ⟨#[]⟩] 42)).drew):=below_dn ((Below.refl _ _).alloc nr_ _) 1
     have N3:Hid ((w2.alloc (.cells #[.string ⟨#[]⟩,.string ⟨#[]⟩] 42)).drew.heap[ga]?=some (.cells #[.string ⟨#[]⟩,.string ⟨#[]⟩] 42 (0,0))):=by rw[hga];exact heap_alloc_new w2 _
     have Z3:Hid ((w2.alloc (.cells #[.string ⟨#[]⟩,.string ⟨#[]⟩] 42)).drew.heap.size=w2.heap.size+1):=by show _=_;simp
     rw[← hga]
     have Hga:=hd_ hga
     clear hga
     generalize (w2.alloc (.cells #[.string ⟨#[]⟩,.string ⟨#[]⟩] 42)).drew=w3 at *
     refine⟨⟨⟨_,I3.out⟩,rfl⟩,?_⟩
     refine RP.walkT_move ?_
     simp only[dsc_,dz_,tsc_,tz_]
     go_wp2_with fail
     obtain⟨gb,hgb⟩:∃ x,x=w3.heap.size:=⟨_,rfl⟩
     have I4:Hid (Below w2.heap.size w2 (w3.alloc (.cells #[.string ⟨#[]⟩,.string ⟨#[]⟩] 42))):=I3.out.alloc I3.out.size _
     have N4:Hid ((w3.alloc (.cells #[.string ⟨#[]⟩,.string ⟨#[]⟩] 42)).heap[ga]?=some (.cells #[.string ⟨#[]⟩,.string ⟨#[]⟩] 42 (0,0))):=by
      show _=_
      rw[((Below.refl _ w3).alloc nr_ _).block ga (Array.getElem?_eq_some_iff.1 N3.out).1];exact N3.out
     have M4:Hid ((w3.alloc (.cells #[.string ⟨#[]⟩,.string ⟨#[]⟩] 42)).heap[gb]?=some (.cells #[.string ⟨#[]⟩,.string ⟨#[]⟩] 42 (0,0))):=by rw[hgb];exact heap_alloc_new w3 _
     have hab:ga≠gb:=by have:=Z3.out;have:=Hga.out;omega
     have hx2:w2.heap.size≤ga:=by have:=Hga.out;omega
     have hy2:w2.heap.size≤gb:=by have:=Z3.out;omega
     rw[← hgb]
     clear N3 I3 hgb Z3
     generalize w3.alloc (.cells #[.string ⟨#[]⟩,.string ⟨#[]⟩] 42)=w4 at *
     have NA:=N4
     have NB:=M4
     have hga2:=hx2
     have hgb2:=hy2
     have Hgab:=hd_ hab
     clear N4 M4 hx2 hy2 hab
     refine⟨⟨⟨_,I4.out⟩,rfl⟩,?_⟩
     refine RP.walkT_move ?_
     simp only[dsc_,dz_,tsc_,tz_]
     obtain⟨n0,n1,f0,f1⟩:=two_cells NA.out
     go_wp2_with fail
     have I5:=hd_ ((I4.out.setCell (p:=⟨ga,0,none⟩) hga2 (.string (itx c.num))).setCell (p:=⟨ga,1,none⟩) hga2 (.string (dec c.den)))
     have FA5:Hid (FrAt ((w4.setCell ⟨ga,0,none⟩ (.string (itx c.num))).setCell ⟨ga,1,none⟩ (.string (dec c.den))) ga c):=two_set NA.out
     have NB5:Hid (((w4.setCell ⟨ga,0,none⟩ (.string (itx c.num))).setCell ⟨ga,1,none⟩ (.string (dec c.den))).heap[gb]?=some (.cells #[.string ⟨#[]⟩,.string ⟨#[]⟩] 42 (0,0))):=by
      show _=_
      rw[Below.heap_setCell _ _ _ _ (Ne.symm Hgab.out),Below.heap_setCell _ _ _ _ (Ne.symm Hgab.out)];exact NB.out
     clear n0 n1 f0 f1 NA NB I4
     generalize (w4.setCell ⟨ga,0,none⟩ (.string (itx c.num))).setCell ⟨ga,1,none⟩ (.string (dec c.den))=w5 at *
     refine⟨⟨⟨_,I5.out⟩,rfl⟩,?_⟩
     refine RP.walkT_move ?_
     simp only[dsc_,dz_,tsc_,tz_]
     obtain⟨n0,n1,f0,f1⟩:=two_cells NB5.out
     go_wp2_with fail
     have I6:=hd_ ((I5.out.setCell (p:=⟨gb,0,none⟩) hgb2 (.string (itx c.num))).setCell (p:=⟨gb,1,none⟩) hgb2 (.string (dec c.den)))
     have FB6:Hid (FrAt ((w5.setCell ⟨gb,0,none⟩ (.string (itx c.num))).setCell ⟨gb,1,none⟩ (.string (dec c.den))) gb c):=two_set NB5.out
     have FA6:=hd_ (FA5.out.set Hgab.out (.string (itx c.num)) (.string (dec c.den)))
     clear n0 n1 f0 f1 FA5 NB5 I5
     generalize (w5.setCell ⟨gb,0,none⟩ (.string (itx c.num))).setCell ⟨gb,1,none⟩ (.string (dec c.den))=w6 at *
     have HE6:=hd_ (HE2.out.below I6.out)
     have F86:=hd_ (F82.out.below I6.out)
     have hga:w.heap.size+2≤ga:=by have:=Hz2.out;omega
     have hgb:w.heap.size+2≤gb:=by have:=Hz2.out;omega
     have Hg8a:Hid (g8≠ga):=by have:=H82.out;show _≠_;omega
     have Hg8b:Hid (g8≠gb):=by have:=H82.out;show _≠_;omega
     have Hz6:=hd_ (Nat.le_trans Hz2.out I6.out.size)
     clear HE2 F82 I6 hga2 hgb2 Hz2 H82
     simp only[RP.walkT]
     have k0':=Hk0.out w6 HE6.out.bel
     have cp:=Hcp.out w6 HE6.out.bel
     by_cases h2:pk=2
     ·have h2b:(pk != 2)=false:=by rw[h2];rfl
      have Hva:Hid (c=c*xE pk b∧Sm (D+355) c):=⟨by rw[h2];unfold xE;rw[if_pos rfl,Rat.mul_one],Hcs.out.le (by omega)⟩
      have Hvb:Hid (c=c*yE pk b∧Sm (D+355) c):=⟨by rw[h2];unfold yE;rw[if_pos rfl,Rat.mul_one],Hcs.out.le (by omega)⟩
      clear HAt'
      obtain⟨k0,k1,-,-⟩:=two_cells HE6.out.e0
      obtain⟨k2,k3,-,-⟩:=two_cells HE6.out.e1
      obtain⟨k4,k5,-,-⟩:=two_cells FA6.out
      obtain⟨k6,k7,-,-⟩:=two_cells FB6.out
      have q0:=NW.cell k0
      have q1:=NW.cell k1
      have q2:=NW.cell k2
      have q3:=NW.cell k3
      have q4:=NW.cell k4
      have q5:=NW.cell k5
      have q6:=NW.cell k6
      have q7:=NW.cell k7
      have hnon:Nonempty (NW w6):=⟨⟨w6,Below.refl _ _⟩⟩
      have I:Hid (Below w6.heap.size w6 w6.drew):=(Below.refl _ _).drew
      have HLa:=hd_ (fun X (hX:Below w6.heap.size w6 X)=>HL.out.below (HE6.out.bel.trans (hX.mono HE6.out.bel.size)))
      have Hmn:=hd_ (fun X hX=>minR_ok X c c (D+355) (D+355) Hva.out.2 Hvb.out.2 (by omega) (HLa.out X hX))
      have Hmx:=hd_ (fun X hX=>maxR_ok X c c (D+355) (D+355) Hva.out.2 Hvb.out.2 (by omega) (HLa.out X hX))
      have Had:=hd_ (fun X hX=>addR X _ _ _ _ Hsm.out.1 (minR_sm Hva.out.2 Hvb.out.2) (by omega) (HLa.out X hX))
      have Had2:=hd_ (fun X hX=>addR X _ _ _ _ Hsm.out.2 (maxR_sm Hva.out.2 Hvb.out.2) (by omega) (HLa.out X hX))
      have hst1:loE b (ps.take k) (l.take k)+minR c c=loE b (ps.take (k+1)) (l.take (k+1)):=by first | (rw[Hst.out.1];done) | (rw[Hst.out.1,← Hva.out.1,← Hvb.out.1];done)
      have hst2:hiE b (ps.take k) (l.take k)+maxR c c=hiE b (ps.take (k+1)) (l.take (k+1)):=by first | (rw[Hst.out.2];done) | (rw[Hst.out.2,← Hva.out.1,← Hvb.out.1];done)
      rw[hst1] at Had
      rw[hst2] at Had2
      clear hst1 hst2 HLa
      unfold fr fv at Hmn Hmx Had Had2
      go_wp2_with fail
      clear k0 k1 k2 k3 k4 k5 k6 k7
      refine RP.wp_region_readers 10 [(1,0),(1,1),(1,2),(1,5),(1,6),(1,7),(0,3),(0,4),(0,8),(0,9),(0,10),(0,11)] (fun w'=>∃ p:NW w6,w'=p.w) (by kernel_rfl) (by kernel_rfl) ?_ ?_
      ·exact⟨⟨_,I.out⟩,rfl⟩
      iterate 6 (refine RP.walkR_read ?_;simp only[dsc_,dz_,tsc_,tz_];go_big_quiet_step (fail);refine wpQuiet_nil ?_)
      clear q0 q1 q2 q3 q4 q5 q6 q7 hnon
      refine RP.walkR_move ?_
      simp only[dsc_,dz_,tsc_,tz_]
      go_wp2_with fail
      refine cm_ (Hmn.out _ I.out) ?_
      rintro e x1 ⟨rfl,hbx⟩
      have J1:Hid (Below w6.heap.size w6 x1):=I.out.trans (hbx.mono I.out.size)
      clear hbx I Hmn
      go_wp2_with fail
      refine⟨⟨⟨_,J1.out⟩,rfl⟩,?_⟩
      refine RP.walkR_move ?_
      simp only[dsc_,dz_,tsc_,tz_]
      go_wp2_with fail
      refine cm_ (Had.out _ J1.out) ?_
      rintro e x2 ⟨rfl,hbx⟩
      have J2:Hid (Below w6.heap.size w6 x2):=J1.out.trans (hbx.mono J1.out.size)
      clear hbx J1 Had
      go_wp2_with fail
      refine⟨⟨⟨_,J2.out⟩,rfl⟩,?_⟩
      refine RP.walkR_move ?_
      simp only[dsc_,dz_,tsc_,tz_]
      go_wp2_with fail
      refine cm_ (Hmx.out _ J2.out) ?_
      rintro e x3 ⟨rfl,hbx⟩
      have J3:Hid (Below w6.heap.size w6 x3):=J2.out.trans (hbx.mono J2.out.size)
      clear hbx J2 Hmx
      go_wp2_with fail
      refine⟨⟨⟨_,J3.out⟩,rfl⟩,?_⟩
      refine RP.walkR_move ?_
      simp only[dsc_,dz_,tsc_,tz_]
      go_wp2_with fail
      refine cm_ (Had2.out _ J3.out) ?_
      rintro e x4 ⟨rfl,hbx⟩
      have J4:Hid (Below w6.heap.size w6 x4):=J3.out.trans (hbx.mono J3.out.size)
      clear hbx J3 Had2
      go_wp2_with fail
      refine⟨⟨⟨_,J4.out⟩,rfl⟩,?_⟩
      have HEx:=hd_ (HE6.out.below J4.out)
      have Hzx:=hd_ (Nat.le_trans Hz6.out J4.out.size)
      obtain⟨k0,k1,f0,f1⟩:=two_cells HEx.out.e0
      obtain⟨k2,k3,f2,f3⟩:=two_cells HEx.out.e1
      have HEp:=hd_ (HEx.out.put (loE b (ps.take (k+1)) (l.take (k+1))) (hiE b (ps.take (k+1)) (l.take (k+1))))
      have Hzp:Hid (w.heap.size+2≤(putEnds x4 w.heap.size (loE b (ps.take (k+1)) (l.take (k+1))) (hiE b (ps.take (k+1)) (l.take (k+1)))).heap.size):=by
       show _≤_
       unfold putEnds
       rw[World.size_setCell,World.size_setCell,World.size_setCell,World.size_setCell]
       exact Hzx.out
      unfold putEnds at HEp Hzp
      clear HEx J4 Hzx
      refine RP.walkR_move ?_
      simp only[dsc_,dz_,tsc_,tz_]
      go_wp2_with fail
      refine RP.walkR_move ?_
      simp only[dsc_,dz_,tsc_,tz_]
      go_wp2_with fail
      simp only[RP.walkR]
      go_wp2_with fail
      refine⟨⟨k+1,by omega,by go_num,HEp,Hzp⟩,by simp[intOf];omega⟩
     ·have h2b:(pk != 2)=true:=by rw[bne_iff_ne];exact h2
      have h2c:(pk==2)=false:=by rw[beq_eq_false_iff_ne];exact h2
      have Hva:Hid (c*xE pk b=c*xE pk b∧Sm (D+355) (c*xE pk b)):=⟨rfl,Hcs.out.mul Hxs.out.1⟩
      have Hvb:Hid (c*yE pk b=c*yE pk b∧Sm (D+355) (c*yE pk b)):=⟨rfl,Hcs.out.mul Hxs.out.2⟩
      have hlk:lgN pk b+2<2^K10∧2^b+1<2^K10:=by
       rw[Hq.out];exact lg_k10 Hq2.out Hb1000.out
      have Hnx:=hd_ (fun W (hW:Below w.heap.size w W)=>newQ W (lgN pk b) (2^b) (by omega) hlk.2 (Nat.two_pow_pos b) (HL.out.below hW))
      have Hny:=hd_ (fun W (hW:Below w.heap.size w W)=>newQ W (lgN pk b+1) (2^b) (by omega) hlk.2 (Nat.two_pow_pos b) (HL.out.below hW))
      have Had1:=hd_ (fun W (hW:Below w.heap.size w W)=>addD W (lgN pk b) 1 K10 (by decide) (by omega) (Nat.one_lt_two_pow (by decide)) (HL.out.below hW))
      rw[dec_one] at Had1
      have hxe:mkRat ((lgN pk b:Nat):Int) (2^b)=xE pk b:=by unfold xE;rw[if_neg h2]
      have hye:mkRat ((lgN pk b+1:Nat):Int) (2^b)=yE pk b:=by unfold yE;rw[if_neg h2]
      rw[hxe] at Hnx
      rw[hye] at Hny
      have Hmx':=hd_ (fun W (hW:Below w.heap.size w W)=>mulR W c (xE pk b) D 355 Hcs.out Hxs.out.1 (by omega) (HL.out.below hW))
      have Hmy':=hd_ (fun W (hW:Below w.heap.size w W)=>mulR W c (yE pk b) D 355 Hcs.out Hxs.out.2 (by omega) (HL.out.below hW))
      clear hlk hxe hye h2
      unfold fr fv at Hnx Hny Hmx' Hmy'
      go_wp2_with fail
      refine cm_ (HAt'.out _ HE6.out.bel) ?_
      rintro e w7 ⟨rfl,hbx⟩
      have HE7:=hd_ (HE6.out.below hbx)
      have FA7:=hd_ (FA6.out.below hbx)
      have FB7:=hd_ (FB6.out.below hbx)
      have F87:=hd_ (F86.out.below hbx)
      have Hz7:=hd_ (Nat.le_trans Hz6.out hbx.size)
      clear hbx HAt' HE6 FA6 FB6 F86 Hz6 k0' cp
      go_wp2_with fail
      refine cm_ (Hnx.out _ HE7.out.bel) ?_
      rintro e w8 ⟨rfl,hbx⟩
      have hbx2:=hd_ (hbx.alloc hbx.size (.cells #[.string (itx (xE pk b).num),.string (dec (xE pk b).den)] 42))
      have HE8:=hd_ (HE7.out.below hbx2.out)
      have FA8:=hd_ (FA7.out.below hbx2.out)
      have FB8:=hd_ (FB7.out.below hbx2.out)
      have F88:=hd_ (F87.out.below hbx2.out)
      have Hz8':=hd_ (Nat.le_trans Hz7.out hbx2.out.size)
      have FX:=hd_ (FrAt.new w8 (xE pk b))
      have hgx:=hd_ (Nat.le_trans Hz7.out hbx.size)
      clear hbx hbx2 HE7 FA7 FB7 F87 Hz7 Hnx
      go_wp2_with fail
      generalize w8.alloc (.cells #[.string (itx (xE pk b).num),.string (dec (xE pk b).den)] 42)=w9 at *
      generalize w8.heap.size=gx at *
      refine cm_ (Had1.out _ HE8.out.bel) ?_
      rintro e w10 ⟨rfl,hbx⟩
      have HE10:=hd_ (HE8.out.below hbx)
      have FA10:=hd_ (FA8.out.below hbx)
      have FB10:=hd_ (FB8.out.below hbx)
      have F810:=hd_ (F88.out.below hbx)
      have FX10:=hd_ (FX.out.below hbx)
      have Hz10:=hd_ (Nat.le_trans Hz8'.out hbx.size)
      clear hbx HE8 FA8 FB8 F88 FX Hz8' Had1
      go_wp2_with fail
      refine cm_ (Hny.out _ HE10.out.bel) ?_
      rintro e w11 ⟨rfl,hbx⟩
      have hbx2:=hd_ (hbx.alloc hbx.size (.cells #[.string (itx (yE pk b).num),.string (dec (yE pk b).den)] 42))
      have HE12:=hd_ (HE10.out.below hbx2.out)
      have FA12:=hd_ (FA10.out.below hbx2.out)
      have FB12:=hd_ (FB10.out.below hbx2.out)
      have F812:=hd_ (F810.out.below hbx2.out)
      have FX12:=hd_ (FX10.out.below hbx2.out)
      have FY12:=hd_ (FrAt.new w11 (yE pk b))
      have Hz12:=hd_ (Nat.le_trans Hz10.out hbx2.out.size)
      obtain⟨k0,k1,-,-⟩:=two_cells F812.out
      obtain⟨k2,k3,-,-⟩:=two_cells FX12.out
      obtain⟨k4,k5,-,-⟩:=two_cells FY12.out
      have q0:=NW.cell k0
      have q1:=NW.cell k1
      have q2:=NW.cell k2
      have q3:=NW.cell k3
      have q4:=NW.cell k4
      have q5:=NW.cell k5
      clear hbx hbx2 HE10 FA10 FB10 F810 FX10 Hz10 Hny k0 k1 k2 k3 k4 k5
      go_wp2_with fail
      generalize w11.alloc (.cells #[.string (itx (yE pk b).num),.string (dec (yE pk b).den)] 42)=w12 at *
      generalize w11.heap.size=gy at *
      have hnon:Nonempty (NW w12):=⟨⟨w12,Below.refl _ _⟩⟩
      have I:Hid (Below w12.heap.size w12 w12.drew):=(Below.refl _ _).drew
      refine RP.wp_region_readers 6 [(1,0),(1,1),(1,3),(1,4),(0,2),(0,5),(0,6),(0,7)] (fun w'=>∃ p:NW w12,w'=p.w) (by kernel_rfl) (by kernel_rfl) ?_ ?_
      ·exact⟨⟨_,I.out⟩,rfl⟩
      iterate 4 (refine RP.walkR_read ?_;simp only[dsc_,dz_,tsc_,tz_];go_big_quiet_step (fail);refine wpQuiet_nil ?_)
      clear hnon q0 q1 q2 q3 q4 q5
      refine RP.walkR_move ?_
      simp only[dsc_,dz_,tsc_,tz_]
      go_wp2_with fail
      refine cm_ (Hmx'.out _ (HE12.out.bel.trans (I.out.mono HE12.out.bel.size))) ?_
      rintro e y1 ⟨rfl,hbx⟩
      have J1:Hid (Below w12.heap.size w12 y1):=I.out.trans (hbx.mono I.out.size)
      clear hbx I Hmx'
      go_wp2_with fail
      refine⟨⟨⟨_,J1.out⟩,rfl⟩,?_⟩
      refine RP.walkR_move ?_
      simp only[dsc_,dz_,tsc_,tz_]
      go_wp2_with fail
      refine cm_ (Hmy'.out _ (HE12.out.bel.trans (J1.out.mono HE12.out.bel.size))) ?_
      rintro e y2 ⟨rfl,hbx⟩
      have J2:Hid (Below w12.heap.size w12 y2):=J1.out.trans (hbx.mono J1.out.size)
      clear hbx J1 Hmy'
      go_wp2_with fail
      refine⟨⟨⟨_,J2.out⟩,rfl⟩,?_⟩
      have HEy:=hd_ (HE12.out.below J2.out)
      have FAy:=hd_ (FA12.out.below J2.out)
      have FBy:=hd_ (FB12.out.below J2.out)
      have Hzy:=hd_ (Nat.le_trans Hz12.out J2.out.size)
      obtain⟨k0,k1,f0,f1⟩:=two_cells FAy.out
      have FA1:=hd_ (FAy.out.put (c*xE pk b))
      have FB1:=hd_ (FBy.out.set (Ne.symm Hgab.out) (.string (itx (c*xE pk b).num)) (.string (dec (c*xE pk b).den)))
      have HE1':=hd_ (HEy.out.set hga (.string (itx (c*xE pk b).num)) (.string (dec (c*xE pk b).den)))
      have Hz1:Hid (w.heap.size+2≤((y2.setCell ⟨ga,0,none⟩ (.string (itx (c*xE pk b).num))).setCell ⟨ga,1,none⟩ (.string (dec (c*xE pk b).den))).heap.size):=by
       show _≤_
       rw[World.size_setCell,World.size_setCell]
       exact Hzy.out
      clear HE12 FA12 FB12 F812 FX12 FY12 Hz12 J2 HEy FAy FBy Hzy
      refine RP.walkR_move ?_
      simp only[dsc_,dz_,tsc_,tz_]
      go_wp2_with fail
      generalize (y2.setCell ⟨ga,0,none⟩ (.string (itx (c*xE pk b).num))).setCell ⟨ga,1,none⟩ (.string (dec (c*xE pk b).den))=y3 at *
      clear k0 k1 f0 f1
      obtain⟨k0,k1,f0,f1⟩:=two_cells FB1.out
      have FA2:=hd_ (FA1.out.set Hgab.out (.string (itx (c*yE pk b).num)) (.string (dec (c*yE pk b).den)))
      have FB2:=hd_ (FB1.out.put (c*yE pk b))
      have HE2':=hd_ (HE1'.out.set hgb (.string (itx (c*yE pk b).num)) (.string (dec (c*yE pk b).den)))
      have Hz2':Hid (w.heap.size+2≤((y3.setCell ⟨gb,0,none⟩ (.string (itx (c*yE pk b).num))).setCell ⟨gb,1,none⟩ (.string (dec (c*yE pk b).den))).heap.size):=by
       show _≤_
       rw[World.size_setCell,World.size_setCell]
       exact Hz1.out
      clear FA1 FB1 HE1' Hz1
      refine RP.walkR_move ?_
      simp only[dsc_,dz_,tsc_,tz_]
      go_wp2_with fail
      generalize (y3.setCell ⟨gb,0,none⟩ (.string (itx (c*yE pk b).num))).setCell ⟨gb,1,none⟩ (.string (dec (c*yE pk b).den))=y4 at *
      clear k0 k1 f0 f1
      simp only[RP.walkR]
      generalize hXc:c*xE pk b=vx at *
      generalize hYc:c*yE pk b=vy at *
      have Hva:=hd_ (show c*xE pk b=vx∧Sm (D+355) vx from ⟨hXc,Hva.out.2⟩)
      have Hvb:=hd_ (show c*yE pk b=vy∧Sm (D+355) vy from ⟨hYc,Hvb.out.2⟩)
      clear hXc hYc
      obtain⟨k0,k1,-,-⟩:=two_cells HE2'.out.e0
      obtain⟨k2,k3,-,-⟩:=two_cells HE2'.out.e1
      obtain⟨k4,k5,-,-⟩:=two_cells FA2.out
      obtain⟨k6,k7,-,-⟩:=two_cells FB2.out
      have q0:=NW.cell k0
      have q1:=NW.cell k1
      have q2:=NW.cell k2
      have q3:=NW.cell k3
      have q4:=NW.cell k4
      have q5:=NW.cell k5
      have q6:=NW.cell k6
      have q7:=NW.cell k7
      have hnon:Nonempty (NW y4):=⟨⟨y4,Below.refl _ _⟩⟩
      have I:Hid (Below y4.heap.size y4 y4.drew):=(Below.refl _ _).drew
      have HLa:=hd_ (fun X (hX:Below y4.heap.size y4 X)=>HL.out.below (HE2'.out.bel.trans (hX.mono HE2'.out.bel.size)))
      have Hmn:=hd_ (fun X hX=>minR_ok X vx vy (D+355) (D+355) Hva.out.2 Hvb.out.2 (by omega) (HLa.out X hX))
      have Hmx:=hd_ (fun X hX=>maxR_ok X vx vy (D+355) (D+355) Hva.out.2 Hvb.out.2 (by omega) (HLa.out X hX))
      have Had:=hd_ (fun X hX=>addR X _ _ _ _ Hsm.out.1 (minR_sm Hva.out.2 Hvb.out.2) (by omega) (HLa.out X hX))
      have Had2:=hd_ (fun X hX=>addR X _ _ _ _ Hsm.out.2 (maxR_sm Hva.out.2 Hvb.out.2) (by omega) (HLa.out X hX))
      have hst1:loE b (ps.take k) (l.take k)+minR vx vy=loE b (ps.take (k+1)) (l.take (k+1)):=by first | (rw[Hst.out.1];done) | (rw[Hst.out.1,← Hva.out.1,← Hvb.out.1];done)
      have hst2:hiE b (ps.take k) (l.take k)+maxR vx vy=hiE b (ps.take (k+1)) (l.take (k+1)):=by first | (rw[Hst.out.2];done) | (rw[Hst.out.2,← Hva.out.1,← Hvb.out.1];done)
      rw[hst1] at Had
      rw[hst2] at Had2
      clear hst1 hst2 HLa
      unfold fr fv at Hmn Hmx Had Had2
      go_wp2_with fail
      clear k0 k1 k2 k3 k4 k5 k6 k7
      refine RP.wp_region_readers 10 [(1,0),(1,1),(1,2),(1,5),(1,6),(1,7),(0,3),(0,4),(0,8),(0,9),(0,10),(0,11)] (fun w'=>∃ p:NW y4,w'=p.w) (by kernel_rfl) (by kernel_rfl) ?_ ?_
      ·exact⟨⟨_,I.out⟩,rfl⟩
      iterate 6 (refine RP.walkR_read ?_;simp only[dsc_,dz_,tsc_,tz_];go_big_quiet_step (fail);refine wpQuiet_nil ?_)
      clear q0 q1 q2 q3 q4 q5 q6 q7 hnon
      refine RP.walkR_move ?_
      simp only[dsc_,dz_,tsc_,tz_]
      go_wp2_with fail
      refine cm_ (Hmn.out _ I.out) ?_
      rintro e x1 ⟨rfl,hbx⟩
      have J1:Hid (Below y4.heap.size y4 x1):=I.out.trans (hbx.mono I.out.size)
      clear hbx I Hmn
      go_wp2_with fail
      refine⟨⟨⟨_,J1.out⟩,rfl⟩,?_⟩
      refine RP.walkR_move ?_
      simp only[dsc_,dz_,tsc_,tz_]
      go_wp2_with fail
      refine cm_ (Had.out _ J1.out) ?_
      rintro e x2 ⟨rfl,hbx⟩
      have J2:Hid (Below y4.heap.size y4 x2):=J1.out.trans (hbx.mono J1.out.size)
      clear hbx J1 Had
      go_wp2_with fail
      refine⟨⟨⟨_,J2.out⟩,rfl⟩,?_⟩
      refine RP.walkR_move ?_
      simp only[dsc_,dz_,tsc_,tz_]
      go_wp2_with fail
      refine cm_ (Hmx.out _ J2.out) ?_
      rintro e x3 ⟨rfl,hbx⟩
      have J3:Hid (Below y4.heap.size y4 x3):=J2.out.trans (hbx.mono J2.out.size)
      clear hbx J2 Hmx
      go_wp2_with fail
      refine⟨⟨⟨_,J3.out⟩,rfl⟩,?_⟩
      refine RP.walkR_move ?_
      simp only[dsc_,dz_,tsc_,tz_]
      go_wp2_with fail
      refine cm_ (Had2.out _ J3.out) ?_
      rintro e x4 ⟨rfl,hbx⟩
      have J4:Hid (Below y4.heap.size y4 x4):=J3.out.trans (hbx.mono J3.out.size)
      clear hbx J3 Had2
      go_wp2_with fail
      refine⟨⟨⟨_,J4.out⟩,rfl⟩,?_⟩
      have HEx:=hd_ (HE2'.out.below J4.out)
      have Hzx:=hd_ (Nat.le_trans Hz2'.out J4.out.size)
      obtain⟨k0,k1,f0,f1⟩:=two_cells HEx.out.e0
      obtain⟨k2,k3,f2,f3⟩:=two_cells HEx.out.e1
      have HEp:=hd_ (HEx.out.put (loE b (ps.take (k+1)) (l.take (k+1))) (hiE b (ps.take (k+1)) (l.take (k+1))))
      have Hzp:Hid (w.heap.size+2≤(putEnds x4 w.heap.size (loE b (ps.take (k+1)) (l.take (k+1))) (hiE b (ps.take (k+1)) (l.take (k+1)))).heap.size):=by
       show _≤_
       unfold putEnds
       rw[World.size_setCell,World.size_setCell,World.size_setCell,World.size_setCell]
       exact Hzx.out
      unfold putEnds at HEp Hzp
      clear HEx J4 Hzx
      refine RP.walkR_move ?_
      simp only[dsc_,dz_,tsc_,tz_]
      go_wp2_with fail
      refine RP.walkR_move ?_
      simp only[dsc_,dz_,tsc_,tz_]
      go_wp2_with fail
      simp only[RP.walkR]
      go_wp2_with fail
      refine⟨⟨k+1,by omega,by go_num,HEp,Hzp⟩,by simp[intOf];omega⟩
    ·simp only[dsc_,dz_,tsc_,tz_]
     go_wp2_with fail
     obtain⟨gb,hgb⟩:∃ x,x=w2.heap.size:=⟨_,rfl⟩
     have I3:Hid (Below w2.heap.size w2 (w2.alloc (.cells #[.string ⟨#[]⟩,.string ⟨#[]⟩] 42)).drew):=below_dn ((Below.refl _ _).alloc nr_ _) 1
     have N3:Hid ((w2.alloc (.cells #[.string ⟨#[]⟩,.string ⟨#[]⟩] 42)).drew.heap[gb]?=some (.cells #[.string ⟨#[]⟩,.string ⟨#[]⟩] 42 (0,0))):=by rw[hgb];exact heap_alloc_new w2 _
     have Z3:Hid ((w2.alloc (.cells #[.string ⟨#[]⟩,.string ⟨#[]⟩] 42)).drew.heap.size=w2.heap.size+1):=by show _=_;simp
     rw[← hgb]
     have Hgb:=hd_ hgb
     clear hgb
     generalize (w2.alloc (.cells #[.string ⟨#[]⟩,.string ⟨#[]⟩] 42)).drew=w3 at *
     refine⟨⟨⟨_,I3.out⟩,rfl⟩,?_⟩
     refine RP.walkT_move ?_
     simp only[dsc_,dz_,tsc_,tz_]
     go_wp2_with fail
     obtain⟨ga,hga⟩:∃ x,x=w3.heap.size:=⟨_,rfl⟩
     have I4:Hid (Below w2.heap.size w2 (w3.alloc (.cells #[.string ⟨#[]⟩,.string ⟨#[]⟩] 42))):=I3.out.alloc I3.out.size _
     have N4:Hid ((w3.alloc (.cells #[.string ⟨#[]⟩,.string ⟨#[]⟩] 42)).heap[gb]?=some (.cells #[.string ⟨#[]⟩,.string ⟨#[]⟩] 42 (0,0))):=by
      show _=_
      rw[((Below.refl _ w3).alloc nr_ _).block gb (Array.getElem?_eq_some_iff.1 N3.out).1];exact N3.out
     have M4:Hid ((w3.alloc (.cells #[.string ⟨#[]⟩,.string ⟨#[]⟩] 42)).heap[ga]?=some (.cells #[.string ⟨#[]⟩,.string ⟨#[]⟩] 42 (0,0))):=by rw[hga];exact heap_alloc_new w3 _
     have hab:gb≠ga:=by have:=Z3.out;have:=Hgb.out;omega
     have hx2:w2.heap.size≤gb:=by have:=Hgb.out;omega
     have hy2:w2.heap.size≤ga:=by have:=Z3.out;omega
     rw[← hga]
     clear N3 I3 hga Z3
     generalize w3.alloc (.cells #[.string ⟨#[]⟩,.string ⟨#[]⟩] 42)=w4 at *
     have NA:=M4
     have NB:=N4
     have hga2:=hy2
     have hgb2:=hx2
     have Hgab:=hd_ (Ne.symm hab)
     clear N4 M4 hx2 hy2 hab
     refine⟨⟨⟨_,I4.out⟩,rfl⟩,?_⟩
     refine RP.walkT_move ?_
     simp only[dsc_,dz_,tsc_,tz_]
     obtain⟨n0,n1,f0,f1⟩:=two_cells NA.out
     go_wp2_with fail
     have I5:=hd_ ((I4.out.setCell (p:=⟨ga,0,none⟩) hga2 (.string (itx c.num))).setCell (p:=⟨ga,1,none⟩) hga2 (.string (dec c.den)))
     have FA5:Hid (FrAt ((w4.setCell ⟨ga,0,none⟩ (.string (itx c.num))).setCell ⟨ga,1,none⟩ (.string (dec c.den))) ga c):=two_set NA.out
     have NB5:Hid (((w4.setCell ⟨ga,0,none⟩ (.string (itx c.num))).setCell ⟨ga,1,none⟩ (.string (dec c.den))).heap[gb]?=some (.cells #[.string ⟨#[]⟩,.string ⟨#[]⟩] 42 (0,0))):=by
      show _=_
      rw[Below.heap_setCell _ _ _ _ (Ne.symm Hgab.out),Below.heap_setCell _ _ _ _ (Ne.symm Hgab.out)];exact NB.out
     clear n0 n1 f0 f1 NA NB I4
     generalize (w4.setCell ⟨ga,0,none⟩ (.string (itx c.num))).setCell ⟨ga,1,none⟩ (.string (dec c.den))=w5 at *
     refine⟨⟨⟨_,I5.out⟩,rfl⟩,?_⟩
     refine RP.walkT_move ?_
     simp only[dsc_,dz_,tsc_,tz_]
     obtain⟨n0,n1,f0,f1⟩:=two_cells NB5.out
     go_wp2_with fail
     have I6:=hd_ ((I5.out.setCell (p:=⟨gb,0,none⟩) hgb2 (.string (itx c.num))).setCell (p:=⟨gb,1,none⟩) hgb2 (.string (dec c.den)))
     have FB6:Hid (FrAt ((w5.setCell ⟨gb,0,none⟩ (.string (itx c.num))).setCell ⟨gb,1,none⟩ (.string (dec c.den))) gb c):=two_set NB5.out
     have FA6:=hd_ (FA5.out.set Hgab.out (.string (itx c.num)) (.string (dec c.den)))
     clear n0 n1 f0 f1 FA5 NB5 I5
     generalize (w5.setCell ⟨gb,0,none⟩ (.string (itx c.num))).setCell ⟨gb,1,none⟩ (.string (dec c.den))=w6 at *
     have HE6:=hd_ (HE2.out.below I6.out)
     have F86:=hd_ (F82.out.below I6.out)
     have hga:w.heap.size+2≤ga:=by have:=Hz2.out;omega
     have hgb:w.heap.size+2≤gb:=by have:=Hz2.out;omega
     have Hg8a:Hid (g8≠ga):=by have:=H82.out;show _≠_;omega
     have Hg8b:Hid (g8≠gb):=by have:=H82.out;show _≠_;omega
     have Hz6:=hd_ (Nat.le_trans Hz2.out I6.out.size)
     clear HE2 F82 I6 hga2 hgb2 Hz2 H82
     simp only[RP.walkT]
     have k0':=Hk0.out w6 HE6.out.bel
     have cp:=Hcp.out w6 HE6.out.bel
     by_cases h2:pk=2
     ·have h2b:(pk != 2)=false:=by rw[h2];rfl
      have Hva:Hid (c=c*xE pk b∧Sm (D+355) c):=⟨by rw[h2];unfold xE;rw[if_pos rfl,Rat.mul_one],Hcs.out.le (by omega)⟩
      have Hvb:Hid (c=c*yE pk b∧Sm (D+355) c):=⟨by rw[h2];unfold yE;rw[if_pos rfl,Rat.mul_one],Hcs.out.le (by omega)⟩
      clear HAt'
      obtain⟨k0,k1,-,-⟩:=two_cells HE6.out.e0
      obtain⟨k2,k3,-,-⟩:=two_cells HE6.out.e1
      obtain⟨k4,k5,-,-⟩:=two_cells FA6.out
      obtain⟨k6,k7,-,-⟩:=two_cells FB6.out
      have q0:=NW.cell k0
      have q1:=NW.cell k1
      have q2:=NW.cell k2
      have q3:=NW.cell k3
      have q4:=NW.cell k4
      have q5:=NW.cell k5
      have q6:=NW.cell k6
      have q7:=NW.cell k7
      have hnon:Nonempty (NW w6):=⟨⟨w6,Below.refl _ _⟩⟩
      have I:Hid (Below w6.heap.size w6 w6.drew):=(Below.refl _ _).drew
      have HLa:=hd_ (fun X (hX:Below w6.heap.size w6 X)=>HL.out.below (HE6.out.bel.trans (hX.mono HE6.out.bel.size)))
      have Hmn:=hd_ (fun X hX=>minR_ok X c c (D+355) (D+355) Hva.out.2 Hvb.out.2 (by omega) (HLa.out X hX))
      have Hmx:=hd_ (fun X hX=>maxR_ok X c c (D+355) (D+355) Hva.out.2 Hvb.out.2 (by omega) (HLa.out X hX))
      have Had:=hd_ (fun X hX=>addR X _ _ _ _ Hsm.out.1 (minR_sm Hva.out.2 Hvb.out.2) (by omega) (HLa.out X hX))
      have Had2:=hd_ (fun X hX=>addR X _ _ _ _ Hsm.out.2 (maxR_sm Hva.out.2 Hvb.out.2) (by omega) (HLa.out X hX))
      have hst1:loE b (ps.take k) (l.take k)+minR c c=loE b (ps.take (k+1)) (l.take (k+1)):=by first | (rw[Hst.out.1];done) | (rw[Hst.out.1,← Hva.out.1,← Hvb.out.1];done)
      have hst2:hiE b (ps.take k) (l.take k)+maxR c c=hiE b (ps.take (k+1)) (l.take (k+1)):=by first | (rw[Hst.out.2];done) | (rw[Hst.out.2,← Hva.out.1,← Hvb.out.1];done)
      rw[hst1] at Had
      rw[hst2] at Had2
      clear hst1 hst2 HLa
      unfold fr fv at Hmn Hmx Had Had2
      go_wp2_with fail
      clear k0 k1 k2 k3 k4 k5 k6 k7
      refine RP.wp_region_readers 10 [(1,0),(1,1),(1,2),(1,5),(1,6),(1,7),(0,3),(0,4),(0,8),(0,9),(0,10),(0,11)] (fun w'=>∃ p:NW w6,w'=p.w) (by kernel_rfl) (by kernel_rfl) ?_ ?_
      ·exact⟨⟨_,I.out⟩,rfl⟩
      iterate 6 (refine RP.walkR_read ?_;simp only[dsc_,dz_,tsc_,tz_];go_big_quiet_step (fail);refine wpQuiet_nil ?_)
      clear q0 q1 q2 q3 q4 q5 q6 q7 hnon
      refine RP.walkR_move ?_
      simp only[dsc_,dz_,tsc_,tz_]
      go_wp2_with fail
      refine cm_ (Hmn.out _ I.out) ?_
      rintro e x1 ⟨rfl,hbx⟩
      have J1:Hid (Below w6.heap.size w6 x1):=I.out.trans (hbx.mono I.out.size)
      clear hbx I Hmn
      go_wp2_with fail
      refine⟨⟨⟨_,J1.out⟩,rfl⟩,?_⟩
      refine RP.walkR_move ?_
      simp only[dsc_,dz_,tsc_,tz_]
      go_wp2_with fail
      refine cm_ (Had.out _ J1.out) ?_
      rintro e x2 ⟨rfl,hbx⟩
      have J2:Hid (Below w6.heap.size w6 x2):=J1.out.trans (hbx.mono J1.out.size)
      clear hbx J1 Had
      go_wp2_with fail
      refine⟨⟨⟨_,J2.out⟩,rfl⟩,?_⟩
      refine RP.walkR_move ?_
      simp only[dsc_,dz_,tsc_,tz_]
      go_wp2_with fail
      refine cm_ (Hmx.out _ J2.out) ?_
      rintro e x3 ⟨rfl,hbx⟩
      have J3:Hid (Below w6.heap.size w6 x3):=J2.out.trans (hbx.mono J2.out.size)
      clear hbx J2 Hmx
      go_wp2_with fail
      refine⟨⟨⟨_,J3.out⟩,rfl⟩,?_⟩
      refine RP.walkR_move ?_
      simp only[dsc_,dz_,tsc_,tz_]
      go_wp2_with fail
      refine cm_ (Had2.out _ J3.out) ?_
      rintro e x4 ⟨rfl,hbx⟩
      have J4:Hid (Below w6.heap.size w6 x4):=J3.out.trans (hbx.mono J3.out.size)
      clear hbx J3 Had2
      go_wp2_with fail
      refine⟨⟨⟨_,J4.out⟩,rfl⟩,?_⟩
      have HEx:=hd_ (HE6.out.below J4.out)
      have Hzx:=hd_ (Nat.le_trans Hz6.out J4.out.size)
      obtain⟨k0,k1,f0,f1⟩:=two_cells HEx.out.e0
      obtain⟨k2,k3,f2,f3⟩:=two_cells HEx.out.e1
      have HEp:=hd_ (HEx.out.put (loE b (ps.take (k+1)) (l.take (k+1))) (hiE b (ps.take (k+1)) (l.take (k+1))))
      have Hzp:Hid (w.heap.size+2≤(putEnds x4 w.heap.size (loE b (ps.take (k+1)) (l.take (k+1))) (hiE b (ps.take (k+1)) (l.take (k+1)))).heap.size):=by
       show _≤_
       unfold putEnds
       rw[World.size_setCell,World.size_setCell,World.size_setCell,World.size_setCell]
       exact Hzx.out
      unfold putEnds at HEp Hzp
      clear HEx J4 Hzx
      refine RP.walkR_move ?_
      simp only[dsc_,dz_,tsc_,tz_]
      go_wp2_with fail
      refine RP.walkR_move ?_
      simp only[dsc_,dz_,tsc_,tz_]
      go_wp2_with fail
      simp only[RP.walkR]
      go_wp2_with fail
      refine⟨⟨k+1,by omega,by go_num,HEp,Hzp⟩,by simp[intOf];omega⟩
     ·have h2b:(pk != 2)=true:=by rw[bne_iff_ne];exact h2
      have h2c:(pk==2)=false:=by rw[beq_eq_false_iff_ne];exact h2
      have Hva:Hid (c*xE pk b=c*xE pk b∧Sm (D+355) (c*xE pk b)):=⟨rfl,Hcs.out.mul Hxs.out.1⟩
      have Hvb:Hid (c*yE pk b=c*yE pk b∧Sm (D+355) (c*yE pk b)):=⟨rfl,Hcs.out.mul Hxs.out.2⟩
      have hlk:lgN pk b+2<2^K10∧2^b+1<2^K10:=by
       rw[Hq.out];exact lg_k10 Hq2.out Hb1000.out
      have Hnx:=hd_ (fun W (hW:Below w.heap.size w W)=>newQ W (lgN pk b) (2^b) (by omega) hlk.2 (Nat.two_pow_pos b) (HL.out.below hW))
      have Hny:=hd_ (fun W (hW:Below w.heap.size w W)=>newQ W (lgN pk b+1) (2^b) (by omega) hlk.2 (Nat.two_pow_pos b) (HL.out.below hW))
      have Had1:=hd_ (fun W (hW:Below w.heap.size w W)=>addD W (lgN pk b) 1 K10 (by decide) (by omega) (Nat.one_lt_two_pow (by decide)) (HL.out.below hW))
      rw[dec_one] at Had1
      have hxe:mkRat ((lgN pk b:Nat):Int) (2^b)=xE pk b:=by unfold xE;rw[if_neg h2]
      have hye:mkRat ((lgN pk b+1:Nat):Int) (2^b)=yE pk b:=by unfold yE;rw[if_neg h2]
      rw[hxe] at Hnx
      rw[hye] at Hny
      have Hmx':=hd_ (fun W (hW:Below w.heap.size w W)=>mulR W c (xE pk b) D 355 Hcs.out Hxs.out.1 (by omega) (HL.out.below hW))
      have Hmy':=hd_ (fun W (hW:Below w.heap.size w W)=>mulR W c (yE pk b) D 355 Hcs.out Hxs.out.2 (by omega) (HL.out.below hW))
      clear hlk hxe hye h2
      unfold fr fv at Hnx Hny Hmx' Hmy'
      go_wp2_with fail
      refine cm_ (HAt'.out _ HE6.out.bel) ?_
      rintro e w7 ⟨rfl,hbx⟩
      have HE7:=hd_ (HE6.out.below hbx)
      have FA7:=hd_ (FA6.out.below hbx)
      have FB7:=hd_ (FB6.out.below hbx)
      have F87:=hd_ (F86.out.below hbx)
      have Hz7:=hd_ (Nat.le_trans Hz6.out hbx.size)
      clear hbx HAt' HE6 FA6 FB6 F86 Hz6 k0' cp
      go_wp2_with fail
      refine cm_ (Hnx.out _ HE7.out.bel) ?_
      rintro e w8 ⟨rfl,hbx⟩
      have hbx2:=hd_ (hbx.alloc hbx.size (.cells #[.string (itx (xE pk b).num),.string (dec (xE pk b).den)] 42))
      have HE8:=hd_ (HE7.out.below hbx2.out)
      have FA8:=hd_ (FA7.out.below hbx2.out)
      have FB8:=hd_ (FB7.out.below hbx2.out)
      have F88:=hd_ (F87.out.below hbx2.out)
      have Hz8':=hd_ (Nat.le_trans Hz7.out hbx2.out.size)
      have FX:=hd_ (FrAt.new w8 (xE pk b))
      have hgx:=hd_ (Nat.le_trans Hz7.out hbx.size)
      clear hbx hbx2 HE7 FA7 FB7 F87 Hz7 Hnx
      go_wp2_with fail
      generalize w8.alloc (.cells #[.string (itx (xE pk b).num),.string (dec (xE pk b).den)] 42)=w9 at *
      generalize w8.heap.size=gx at *
      refine cm_ (Had1.out _ HE8.out.bel) ?_
      rintro e w10 ⟨rfl,hbx⟩
      have HE10:=hd_ (HE8.out.below hbx)
      have FA10:=hd_ (FA8.out.below hbx)
      have FB10:=hd_ (FB8.out.below hbx)
      have F810:=hd_ (F88.out.below hbx)
      have FX10:=hd_ (FX.out.below hbx)
      have Hz10:=hd_ (Nat.le_trans Hz8'.out hbx.size)
      clear hbx HE8 FA8 FB8 F88 FX Hz8' Had1
      go_wp2_with fail
      refine cm_ (Hny.out _ HE10.out.bel) ?_
      rintro e w11 ⟨rfl,hbx⟩
      have hbx2:=hd_ (hbx.alloc hbx.size (.cells #[.string (itx (yE pk b).num),.string (dec (yE pk b).den)] 42))
      have HE12:=hd_ (HE10.out.below hbx2.out)
      have FA12:=hd_ (FA10.out.below hbx2.out)
      have FB12:=hd_ (FB10.out.below hbx2.out)
      have F812:=hd_ (F810.out.below hbx2.out)
      have FX12:=hd_ (FX10.out.below hbx2.out)
      have FY12:=hd_ (FrAt.new w11 (yE pk b))
      have Hz12:=hd_ (Nat.le_trans Hz10.out hbx2.out.size)
      obtain⟨k0,k1,-,-⟩:=two_cells F812.out
      obtain⟨k2,k3,-,-⟩:=two_cells FX12.out
      obtain⟨k4,k5,-,-⟩:=two_cells FY12.out
      have q0:=NW.cell k0
      have q1:=NW.cell k1
      have q2:=NW.cell k2
      have q3:=NW.cell k3
      have q4:=NW.cell k4
      have q5:=NW.cell k5
      clear hbx hbx2 HE10 FA10 FB10 F810 FX10 Hz10 Hny k0 k1 k2 k3 k4 k5
      go_wp2_with fail
      generalize w11.alloc (.cells #[.string (itx (yE pk b).num),.string (dec (yE pk b).den)] 42)=w12 at *
      generalize w11.heap.size=gy at *
      have hnon:Nonempty (NW w12):=⟨⟨w12,Below.refl _ _⟩⟩
      have I:Hid (Below w12.heap.size w12 w12.drew):=(Below.refl _ _).drew
      refine RP.wp_region_readers 6 [(1,0),(1,1),(1,3),(1,4),(0,2),(0,5),(0,6),(0,7)] (fun w'=>∃ p:NW w12,w'=p.w) (by kernel_rfl) (by kernel_rfl) ?_ ?_
      ·exact⟨⟨_,I.out⟩,rfl⟩
      iterate 4 (refine RP.walkR_read ?_;simp only[dsc_,dz_,tsc_,tz_];go_big_quiet_step (fail);refine wpQuiet_nil ?_)
      clear hnon q0 q1 q2 q3 q4 q5
      refine RP.walkR_move ?_
      simp only[dsc_,dz_,tsc_,tz_]
      go_wp2_with fail
      refine cm_ (Hmx'.out _ (HE12.out.bel.trans (I.out.mono HE12.out.bel.size))) ?_
      rintro e y1 ⟨rfl,hbx⟩
      have J1:Hid (Below w12.heap.size w12 y1):=I.out.trans (hbx.mono I.out.size)
      clear hbx I Hmx'
      go_wp2_with fail
      refine⟨⟨⟨_,J1.out⟩,rfl⟩,?_⟩
      refine RP.walkR_move ?_
      simp only[dsc_,dz_,tsc_,tz_]
      go_wp2_with fail
      refine cm_ (Hmy'.out _ (HE12.out.bel.trans (J1.out.mono HE12.out.bel.size))) ?_
      rintro e y2 ⟨rfl,hbx⟩
      have J2:Hid (Below w12.heap.size w12 y2):=J1.out.trans (hbx.mono J1.out.size)
      clear hbx J1 Hmy'
      go_wp2_with fail
      refine⟨⟨⟨_,J2.out⟩,rfl⟩,?_⟩
      have HEy:=hd_ (HE12.out.below J2.out)
      have FAy:=hd_ (FA12.out.below J2.out)
      have FBy:=hd_ (FB12.out.below J2.out)
      have Hzy:=hd_ (Nat.le_trans Hz12.out J2.out.size)
      obtain⟨k0,k1,f0,f1⟩:=two_cells FAy.out
      have FA1:=hd_ (FAy.out.put (c*xE pk b))
      have FB1:=hd_ (FBy.out.set (Ne.symm Hgab.out) (.string (itx (c*xE pk b).num)) (.string (dec (c*xE pk b).den)))
      have HE1':=hd_ (HEy.out.set hga (.string (itx (c*xE pk b).num)) (.string (dec (c*xE pk b).den)))
      have Hz1:Hid (w.heap.size+2≤((y2.setCell ⟨ga,0,none⟩ (.string (itx (c*xE pk b).num))).setCell ⟨ga,1,none⟩ (.string (dec (c*xE pk b).den))).heap.size):=by
       show _≤_
       rw[World.size_setCell,World.size_setCell]
       exact Hzy.out
      clear HE12 FA12 FB12 F812 FX12 FY12 Hz12 J2 HEy FAy FBy Hzy
      refine RP.walkR_move ?_
      simp only[dsc_,dz_,tsc_,tz_]
      go_wp2_with fail
      generalize (y2.setCell ⟨ga,0,none⟩ (.string (itx (c*xE pk b).num))).setCell ⟨ga,1,none⟩ (.string (dec (c*xE pk b).den))=y3 at *
      clear k0 k1 f0 f1
      obtain⟨k0,k1,f0,f1⟩:=two_cells FB1.out
      have FA2:=hd_ (FA1.out.set Hgab.out (.string (itx (c*yE pk b).num)) (.string (dec (c*yE pk b).den)))
      have FB2:=hd_ (FB1.out.put (c*yE pk b))
      have HE2':=hd_ (HE1'.out.set hgb (.string (itx (c*yE pk b).num)) (.string (dec (c*yE pk b).den)))
      have Hz2':Hid (w.heap.size+2≤((y3.setCell ⟨gb,0,none⟩ (.string (itx (c*yE pk b).num))).setCell ⟨gb,1,none⟩ (.string (dec (c*yE pk b).den))).heap.size):=by
       show _≤_
       rw[World.size_setCell,World.size_setCell]
       exact Hz1.out
      clear FA1 FB1 HE1' Hz1
      refine RP.walkR_move ?_
      simp only[dsc_,dz_,tsc_,tz_]
      go_wp2_with fail
      generalize (y3.setCell ⟨gb,0,none⟩ (.string (itx (c*yE pk b).num))).setCell ⟨gb,1,none⟩ (.string (dec (c*yE pk b).den))=y4 at *
      clear k0 k1 f0 f1
      simp only[RP.walkR]
      generalize hXc:c*xE pk b=vx at *
      generalize hYc:c*yE pk b=vy at *
      have Hva:=hd_ (show c*xE pk b=vx∧Sm (D+355) vx from ⟨hXc,Hva.out.2⟩)
      have Hvb:=hd_ (show c*yE pk b=vy∧Sm (D+355) vy from ⟨hYc,Hvb.out.2⟩)
      clear hXc hYc
      obtain⟨k0,k1,-,-⟩:=two_cells HE2'.out.e0
      obtain⟨k2,k3,-,-⟩:=two_cells HE2'.out.e1
      obtain⟨k4,k5,-,-⟩:=two_cells FA2.out
      obtain⟨k6,k7,-,-⟩:=two_cells FB2.out
      have q0:=NW.cell k0
      have q1:=NW.cell k1
      have q2:=NW.cell k2
      have q3:=NW.cell k3
      have q4:=NW.cell k4
      have q5:=NW.cell k5
      have q6:=NW.cell k6
      have q7:=NW.cell k7
      have hnon:Nonempty (NW y4):=⟨⟨y4,Below.refl _ _⟩⟩
      have I:Hid (Below y4.heap.size y4 y4.drew):=(Below.refl _ _).drew
      have HLa:=hd_ (fun X (hX:Below y4.heap.size y4 X)=>HL.out.below (HE2'.out.bel.trans (hX.mono HE2'.out.bel.size)))
      have Hmn:=hd_ (fun X hX=>minR_ok X vx vy (D+355) (D+355) Hva.out.2 Hvb.out.2 (by omega) (HLa.out X hX))
      have Hmx:=hd_ (fun X hX=>maxR_ok X vx vy (D+355) (D+355) Hva.out.2 Hvb.out.2 (by omega) (HLa.out X hX))
      have Had:=hd_ (fun X hX=>addR X _ _ _ _ Hsm.out.1 (minR_sm Hva.out.2 Hvb.out.2) (by omega) (HLa.out X hX))
      have Had2:=hd_ (fun X hX=>addR X _ _ _ _ Hsm.out.2 (maxR_sm Hva.out.2 Hvb.out.2) (by omega) (HLa.out X hX))
      have hst1:loE b (ps.take k) (l.take k)+minR vx vy=loE b (ps.take (k+1)) (l.take (k+1)):=by first | (rw[Hst.out.1];done) | (rw[Hst.out.1,← Hva.out.1,← Hvb.out.1];done)
      have hst2:hiE b (ps.take k) (l.take k)+maxR vx vy=hiE b (ps.take (k+1)) (l.take (k+1)):=by first | (rw[Hst.out.2];done) | (rw[Hst.out.2,← Hva.out.1,← Hvb.out.1];done)
      rw[hst1] at Had
      rw[hst2] at Had2
      clear hst1 hst2 HLa
      unfold fr fv at Hmn Hmx Had Had2
      go_wp2_with fail
      clear k0 k1 k2 k3 k4 k5 k6 k7
      refine RP.wp_region_readers 10 [(1,0),(1,1),(1,2),(1,5),(1,6),(1,7),(0,3),(0,4),(0,8),(0,9),(0,10),(0,11)] (fun w'=>∃ p:NW y4,w'=p.w) (by kernel_rfl) (by kernel_rfl) ?_ ?_
      ·exact⟨⟨_,I.out⟩,rfl⟩
      iterate 6 (refine RP.walkR_read ?_;simp only[dsc_,dz_,tsc_,tz_];go_big_quiet_step (fail);refine wpQuiet_nil ?_)
      clear q0 q1 q2 q3 q4 q5 q6 q7 hnon
      refine RP.walkR_move ?_
      simp only[dsc_,dz_,tsc_,tz_]
      go_wp2_with fail
      refine cm_ (Hmn.out _ I.out) ?_
      rintro e x1 ⟨rfl,hbx⟩
      have J1:Hid (Below y4.heap.size y4 x1):=I.out.trans (hbx.mono I.out.size)
      clear hbx I Hmn
      go_wp2_with fail
      refine⟨⟨⟨_,J1.out⟩,rfl⟩,?_⟩
      refine RP.walkR_move ?_
      simp only[dsc_,dz_,tsc_,tz_]
      go_wp2_with fail
      refine cm_ (Had.out _ J1.out) ?_
      rintro e x2 ⟨rfl,hbx⟩
      have J2:Hid (Below y4.heap.size y4 x2):=J1.out.trans (hbx.mono J1.out.size)
      clear hbx J1 Had
      go_wp2_with fail
      refine⟨⟨⟨_,J2.out⟩,rfl⟩,?_⟩
      refine RP.walkR_move ?_
      simp only[dsc_,dz_,tsc_,tz_]
      go_wp2_with fail
      refine cm_ (Hmx.out _ J2.out) ?_
      rintro e x3 ⟨rfl,hbx⟩
      have J3:Hid (Below y4.heap.size y4 x3):=J2.out.trans (hbx.mono J2.out.size)
      clear hbx J2 Hmx
      go_wp2_with fail
      refine⟨⟨⟨_,J3.out⟩,rfl⟩,?_⟩
      refine RP.walkR_move ?_
      simp only[dsc_,dz_,tsc_,tz_]
      go_wp2_with fail
      refine cm_ (Had2.out _ J3.out) ?_
      rintro e x4 ⟨rfl,hbx⟩
      have J4:Hid (Below y4.heap.size y4 x4):=J3.out.trans (hbx.mono J3.out.size)
      clear hbx J3 Had2
      go_wp2_with fail
      refine⟨⟨⟨_,J4.out⟩,rfl⟩,?_⟩
      have HEx:=hd_ (HE2'.out.below J4.out)
      have Hzx:=hd_ (Nat.le_trans Hz2'.out J4.out.size)
      obtain⟨k0,k1,f0,f1⟩:=two_cells HEx.out.e0
      obtain⟨k2,k3,f2,f3⟩:=two_cells HEx.out.e1
      have HEp:=hd_ (HEx.out.put (loE b (ps.take (k+1)) (l.take (k+1))) (hiE b (ps.take (k+1)) (l.take (k+1))))
      have Hzp:Hid (w.heap.size+2≤(putEnds x4 w.heap.size (loE b (ps.take (k+1)) (l.take (k+1))) (hiE b (ps.take (k+1)) (l.take (k+1)))).heap.size):=by
       show _≤_
       unfold putEnds
       rw[World.size_setCell,World.size_setCell,World.size_setCell,World.size_setCell]
       exact Hzx.out
      unfold putEnds at HEp Hzp
      clear HEx J4 Hzx
      refine RP.walkR_move ?_
      simp only[dsc_,dz_,tsc_,tz_]
      go_wp2_with fail
      refine RP.walkR_move ?_
      simp only[dsc_,dz_,tsc_,tz_]
      go_wp2_with fail
      simp only[RP.walkR]
      go_wp2_with fail
      refine⟨⟨k+1,by omega,by go_num,HEp,Hzp⟩,by simp[intOf];omega⟩
  ·obtain rfl:k=n:=by omega
   have hlt':¬ (k:Int)<k:=by omega
   have hvv:=Hv.out trivial
   rw[← hvv.1,← hvv.2] at HE
   have Hvv:=hd_ hvv
   clear hvv Hv
   have hcl:∀ p:EnW w vlo vhi,p.w.cell? ⟨w.heap.size,0,none⟩=some (.string (itx vlo.num)):=fun p=>p.cells.1
   have hcl1:∀ p:EnW w vlo vhi,p.w.cell? ⟨w.heap.size,1,none⟩=some (.string (dec vlo.den)):=fun p=>p.cells.2.1
   have hcl2:∀ p:EnW w vlo vhi,p.w.cell? ⟨w.heap.size+1,0,none⟩=some (.string (itx vhi.num)):=fun p=>p.cells.2.2.1
   have hcl3:∀ p:EnW w vlo vhi,p.w.cell? ⟨w.heap.size+1,1,none⟩=some (.string (dec vhi.den)):=fun p=>p.cells.2.2.2
   have hnon:Nonempty (EnW w vlo vhi):=⟨⟨_,HE.out⟩⟩
   have HEd:=hd_ (HE.out.below (below_drawn wr 1))
   go_wp2_with fail
   refine RP.wp_region_readers 3 [(1,0),(1,1),(0,2),(0,3)] (fun w'=>∃ p:EnW w vlo vhi,w'=p.w) (by kernel_rfl) (by kernel_rfl) ?_ ?_
   ·exact⟨⟨_,HEd.out⟩,rfl⟩
   iterate 2 (refine RP.walkR_read ?_;simp only[dsc_,dz_,tsc_,tz_];go_big_quiet_step (fail);refine wpQuiet_nil ?_)
   clear hnon hcl hcl1 hcl2 hcl3
   obtain⟨k0,k1,f0,f1⟩:=two_cells HE.out.e0
   have HE1:=hd_ (HEd.out.put0 vlo)
   refine RP.walkR_move ?_
   simp only[dsc_,dz_,tsc_,tz_]
   go_wp2_with fail
   refine⟨⟨⟨_,HE1.out⟩,rfl⟩,?_⟩
   have HE2:Hid (EnI w ((wr.setCell ⟨w.heap.size,0,none⟩ (.string (itx vlo.num))).setCell ⟨w.heap.size,1,none⟩ (.string (dec vlo.den))).drew vlo vhi):=HE1.out
   clear k0 k1 f0 f1 HE1 HEd HE
   generalize ((wr.setCell ⟨w.heap.size,0,none⟩ (.string (itx vlo.num))).setCell ⟨w.heap.size,1,none⟩ (.string (dec vlo.den))).drew=wz at *
   obtain⟨k2,k3,f2,f3⟩:=two_cells HE2.out.e1
   have HE3:=hd_ (HE2.out.put1 vhi)
   refine RP.walkR_move ?_
   simp only[dsc_,dz_,tsc_,tz_]
   go_wp2_with fail
   simp only[RP.walkR]
   generalize (wz.setCell ⟨w.heap.size+1,0,none⟩ (.string (itx vhi.num))).setCell ⟨w.heap.size+1,1,none⟩ (.string (dec vhi.den))=w9 at *
   clear k2 k3 f2 f3 HE2
   obtain⟨c0',c1',-,-⟩:=two_cells HE3.out.e0
   obtain⟨c2',c3',-,-⟩:=two_cells HE3.out.e1
   go_wp2_with fail
   exact bodyPost_ret (v := .tuple #[.agg #[.string (itx vlo.num),.string (dec vlo.den)],.agg #[.string (itx vhi.num),.string (dec vhi.den)]]) (by simp[results,Tryz.results80,go_sem,c0',c1',c2',c3']) rfl ⟨rfl,HE3.out.bel⟩
structure RowV (w:World) (V:List Value) (ls:List (List Int)):Prop where
 len:V.length=ls.length
 at_:∀ i,i<ls.length→∃ a' c',V[i]?=some (.slice a' (ls.getD i []).length c')∧Rd w a' (ints (ls.getD i []))
theorem RowV.below{w w':World}{V:List Value}{ls:List (List Int)}{B:Nat}(h:RowV w V ls)(hb:Below B w w')(hB:w.heap.size≤B):RowV w' V ls :=
 ⟨h.len,fun i hi=>by obtain⟨a',c',h1,h2⟩:=h.at_ i hi;exact⟨a',c',h1,h2.below hb hB⟩⟩
theorem RowV.nil(w:World):RowV w [] []:=⟨rfl,fun i hi=>absurd hi (Nat.not_lt_zero i)⟩
theorem RowV.append{w:World}{V V':List Value}{ls ls':List (List Int)}(h:RowV w V ls)(k:RowV w V' ls'):RowV w (V++V') (ls++ls'):=by
 refine⟨by simp[h.len,k.len],fun i hi=>?_⟩
 by_cases hi1:i<ls.length
 ·obtain⟨a',c',h1,h2⟩:=h.at_ i hi1
  have e:(ls++ls').getD i []=ls.getD i []:=by rw[List.getD_eq_getElem?_getD,List.getD_eq_getElem?_getD,List.getElem?_append_left hi1]
  rw[e]
  exact⟨a',c',by rw[List.getElem?_append_left (by rw[h.len];exact hi1)];exact h1,h2⟩
 ·rw[List.length_append] at hi
  obtain⟨a',c',h1,h2⟩:=k.at_ (i-ls.length) (by omega)
  have e:(ls++ls').getD i []=ls'.getD (i-ls.length) []:=by rw[List.getD_eq_getElem?_getD,List.getD_eq_getElem?_getD,List.getElem?_append_right (by omega)]
  rw[e]
  exact⟨a',c',by rw[List.getElem?_append_right (by rw[h.len];omega),h.len];exact h1,h2⟩
theorem RowV.one{w:World}{V:List Value}{ls:List (List Int)}(h:RowV w V ls):∀ u∈V,u.oneCell'=true:=fun u hu=>by
 obtain⟨i,hi,rfl⟩:=List.mem_iff_getElem.1 hu
 obtain⟨a',c',h1,_⟩:=h.at_ i (by rw[← h.len];exact hi)
 rw[List.getElem?_eq_getElem hi] at h1
 rw[Option.some.inj h1];rfl
def ResI (w:World) (n:Nat) (l:List Int) (e:Ending):Prop:=(mx l=0∧∃ a c,e = .returned (.tuple #[.slice a n c,.int .i64 0])∧Rd w a (ints l))∨(mx l≠0∧e = .returned (.tuple #[.slice none 0 0,.int .i64 4]))
theorem ResI.form{w:World}{n:Nat}{l:List Int}{e:Ending}(h:ResI w n l e):∃ v1 v2,e = .returned (.tuple #[v1,v2]):=by
 rcases h with⟨_,a,c,h,_⟩|⟨_,h⟩
 ·exact⟨_,_,h⟩
 ·exact⟨_,_,h⟩
def Ok (c:Nat→Nat→Int) (u v:Nat):Prop:=0≤c v u∧(c v u=0→u<v)
structure Srt (c:Nat→Nat→Int) (n i:Nat) (F:Nat→Nat):Prop where
 lt:∀ k,k<n→F k<n
 inj:∀ k m,k<n→m<n→F k=F m→k=m
 hi:∀ k,i≤k→k<n→F k=k
 lo:∀ k,k<i→F k<i
 adj:∀ k,k+1<i→Ok c (F k) (F (k+1))
structure Ins (c:Nat→Nat→Int) (n i j:Nat) (F:Nat→Nat):Prop where
 lt:∀ k,k<n→F k<n
 inj:∀ k m,k<n→m<n→F k=F m→k=m
 x:F j=i
 hi:∀ k,i<k→k<n→F k=k
 lo:∀ k,k≤i→F k≤i
 a1:∀ k,k+1<j→Ok c (F k) (F (k+1))
 a2:∀ k,j<k→k+1≤i→Ok c (F k) (F (k+1))
 a3:∀ k,k+1=j→j<i→Ok c (F k) (F (j+1))
 a4:j<i→Ok c i (F (j+1))
 ji:j≤i
 n:i<n
theorem Srt.first(c:Nat→Nat→Int)(n:Nat):Srt c n 1 fun k=>k :=
 ⟨fun _ h=>h,fun _ _ _ _ h=>h,fun _ _ _=>rfl,fun _ h=>h,fun _ h=>by omega⟩
theorem Ins.stop{c:Nat→Nat→Int}{n i j:Nat}{F:Nat→Nat}(h:Ins c n i j F)(hs:j=0∨0≤c (F j) (F (j-1))):Srt c n (i+1) F:=by
 refine⟨h.lt,h.inj,fun k h1 h2=>h.hi k (by omega) h2,fun k hk=>Nat.lt_succ_of_le (h.lo k (by omega)),fun k hk=>?_⟩
 have hji:=h.ji
 have hn:=h.n
 rcases Nat.lt_trichotomy (k+1) j with h1|h1|h1
 ·exact h.a1 k h1
 ·rcases hs with h0 | h0
  ·omega
  ·have e:j-1=k:=by omega
   rw[e] at h0
   rw[h1]
   refine⟨h0,fun _=>?_⟩
   have hx:=h.x
   have h2:=h.lo k (by omega)
   have h3:F k≠F j:=fun e=>by have:=h.inj k j (by omega) (by omega) e;omega
   omega
 ·rcases Nat.lt_or_ge j k with h2 | h2
  ·exact h.a2 k h2 (by omega)
  ·have e:k=j:=by omega
   subst e
   rw[h.x]
   exact h.a4 (by omega)
def swF (F:Nat→Nat) (j:Nat):Nat→Nat:=fun k=>if k=j then F (j+1) else if k=j+1 then F j else F k
theorem Ins.swap{c:Nat→Nat→Int}(hc:∀ u v,c v u = - c u v){n i j:Nat}{F:Nat→Nat}(h:Ins c n i (j+1) F)(hs:c (F (j+1)) (F j)<0):Ins c n i j (swF F j):=by
 have hji:=h.ji
 have hn:=h.n
 have hx:=h.x
 have s1:swF F j j=i:=by unfold swF;rw[if_pos rfl];exact hx
 have s2:swF F j (j+1)=F j:=by unfold swF;rw[if_neg (by omega),if_pos rfl]
 have s3:∀ k,k≠j→k≠j+1→swF F j k=F k:=fun k h1 h2=>by unfold swF;rw[if_neg h1,if_neg h2]
 refine⟨fun k hk=>?_,fun k m hk hm e=>?_,s1,fun k h1 h2=>?_,fun k hk=>?_,fun k hk=>?_,fun k h1 h2=>?_,fun k h1 h2=>?_,fun h1=>?_,by omega,hn⟩
 ·unfold swF
  split
  ·exact h.lt _ (by omega)
  ·split
   ·exact h.lt _ (by omega)
   ·exact h.lt _ hk
 ·unfold swF at e
  by_cases k1:k=j
  ·by_cases m1:m=j
   ·omega
   ·rw[if_pos k1,if_neg m1] at e
    by_cases m2:m=j+1
    ·rw[if_pos m2] at e
     have:=h.inj _ _ (by omega) (by omega) e
     omega
    ·rw[if_neg m2] at e
     have:=h.inj _ _ (by omega) hm e
     omega
  ·rw[if_neg k1] at e
   by_cases k2:k=j+1
   ·rw[if_pos k2] at e
    by_cases m1:m=j
    ·rw[if_pos m1] at e
     have:=h.inj _ _ (by omega) (by omega) e
     omega
    ·rw[if_neg m1] at e
     by_cases m2:m=j+1
     ·omega
     ·rw[if_neg m2] at e
      have:=h.inj _ _ (by omega) hm e
      omega
   ·rw[if_neg k2] at e
    by_cases m1:m=j
    ·rw[if_pos m1] at e
     have:=h.inj _ _ hk (by omega) e
     omega
    ·rw[if_neg m1] at e
     by_cases m2:m=j+1
     ·rw[if_pos m2] at e
      have:=h.inj _ _ hk (by omega) e
      omega
     ·rw[if_neg m2] at e
      exact h.inj _ _ hk hm e
 ·rw[s3 k (by omega) (by omega)];exact h.hi k h1 h2
 ·unfold swF
  split
  ·omega
  ·split
   ·exact h.lo _ (by omega)
   ·exact h.lo _ hk
 ·rw[s3 k (by omega) (by omega),s3 (k+1) (by omega) (by omega)]
  exact h.a1 k (by omega)
 ·rcases Nat.lt_or_ge (j+1) k with h3 | h3
  ·rw[s3 k (by omega) (by omega),s3 (k+1) (by omega) (by omega)]
   exact h.a2 k h3 h2
  ·have e:k=j+1:=by omega
   subst e
   rw[s2,s3 (j+1+1) (by omega) (by omega)]
   exact h.a3 j rfl (by omega)
 ·subst h1
  rw[s3 k (by omega) (by omega),s2]
  exact h.a1 k (by omega)
 ·rw[s2,← hx]
  have e:=hc (F (j+1)) (F j)
  exact⟨by omega,fun h0=>by omega⟩
structure RowF (W:World) (g n:Nat) (F:Nat→Nat):Prop where
 lt:g<W.heap.size
 cell:∀ k,k<n→W.cell? ⟨g,k,none⟩=some (.int .i64 (F k:Nat))
 fr:∀ k,W.frozen? ⟨g,k,none⟩=false
theorem RowF.below{W W':World}{g n D:Nat}{F:Nat→Nat}(h:RowF W g n F)(hb:Below D W W')(hD:W.heap.size≤D):RowF W' g n F:=by
 have hlt:=h.lt
 have e:=hb.block g (by omega)
 have hs:=hb.size
 refine⟨?_,fun k hk=>?_,fun k=>?_⟩
 ·have h2:=Array.getElem?_eq_some_iff.1 (show W.heap[g]?=some W.heap[g] from Array.getElem?_eq_getElem hlt)
  rw[Array.getElem?_eq_getElem hlt] at e
  exact(Array.getElem?_eq_some_iff.1 e).1
 ·rw[hb.cell (p:=⟨g,k,none⟩) (show g<D by omega)]
  exact h.cell k hk
 ·have:=h.fr k
  unfold World.frozen? at this ⊢
  rw[show W'.heap[(⟨g,k,none⟩:Addr).block]?=W.heap[(⟨g,k,none⟩:Addr).block]? from e]
  exact this
theorem RowF.swap{W:World}{g n:Nat}{F:Nat→Nat}(h:RowF W g n F)(j:Nat)(hj:j+1<n):
  RowF ((W.setCell ⟨g,j+1,none⟩ (.int .i64 (F j:Nat))).setCell ⟨g,j,none⟩ (.int .i64 (F (j+1):Nat))) g n (swF F j):=by
 have h0:=h.cell j (by omega)
 have h1:=h.cell (j+1) hj
 have ne:∀ a b:Nat,a≠b→(⟨g,a,none⟩:Addr)≠⟨g,b,none⟩:=fun a b hab e=>by cases e;exact hab rfl
 refine⟨by simpa using h.lt,fun k hk=>?_,fun k=>?_⟩
 ·unfold swF
  by_cases k1:k=j
  ·subst k1
   rw[if_pos rfl]
   exact World.cell?_setCell_same _ _ _ (u := .int .i64 (F k:Nat)) (by rw[World.cell?_setCell_other _ _ _ _ (ne _ _ (by omega))];exact h0)
  ·rw[if_neg k1,World.cell?_setCell_other _ _ _ _ (ne _ _ (fun e=>k1 e.symm))]
   by_cases k2:k=j+1
   ·subst k2
    rw[if_pos rfl]
    exact World.cell?_setCell_same _ _ _ h1
   ·rw[if_neg k2,World.cell?_setCell_other _ _ _ _ (ne _ _ (fun e=>k2 e.symm))]
    exact h.cell k hk
 ·have:=h.fr k
  simpa using this
structure SortAt (W:World) (ps:List Int) (g2 g3:Nat) (a0 al:Option Addr) (c0 cl:Nat) (LL:List (List Rat)):Prop where
 h2:W.heap[g2]?=some (.cells #[.slice a0 ps.length c0] 36 (0,0))
 h3:W.heap[g3]?=some (.cells #[.slice al LL.length cl] 68 (0,0))
 rp:Rd W a0 (ints ps)
 rl:RdL W al (LL.map (List.map qs))
theorem SortAt.below{W W':World}{ps:List Int}{g2 g3:Nat}{a0 al:Option Addr}{c0 cl:Nat}{LL:List (List Rat)}(h:SortAt W ps g2 g3 a0 al c0 cl LL){D:Nat}(hb:Below D W W')(hD:W.heap.size≤D):SortAt W' ps g2 g3 a0 al c0 cl LL :=
 ⟨heap_kept h.h2 hb hD,heap_kept h.h3 hb hD,h.rp.below hb hD,h.rl.below hb hD⟩
theorem RowF.rd{W:World}{g n:Nat}{F:Nat→Nat}(h:RowF W g n F):Rd W (some ⟨g,0,none⟩) (ints ((List.range n).map fun (k:Nat)=>((F k:Nat):Int))):=by
 refine .inr ⟨g,0,rfl,h.lt,fun i v hv=>?_⟩
 rw[Nat.zero_add]
 have hi:i<n:=by
  have:=(List.getElem?_eq_some_iff.1 hv).1
  simpa [ints_length] using this
 rw[ints_get _ i (by simpa using hi)] at hv
 cases hv
 rw[h.cell i hi]
 simp
theorem dval_take_lt18{l:List UInt8}(h:Digs l)(t:Nat)(ht:t≤18):dval (l.take t)<1000000000000000000:=by
 have h1:=dval_lt (h.take t)
 have h2:10^(l.take t).length≤10^18:=Nat.pow_le_pow_right (by decide) (by simp;omega)
 exact Nat.lt_of_lt_of_le h1 h2
def RowB (W:World) (g:Nat) (t:TypeId) (D:List UInt8):Prop:=W.rowIs g t D.length (fun i => .int .u8 ((D.getD i 0).toNat:Nat))
theorem RowB.cell{W:World}{g:Nat}{t:TypeId}{D:List UInt8}(h:RowB W g t D){i:Nat}(hi:i<D.length):W.cell? ⟨g,i,none⟩=some (.int .u8 ((D.getD i 0).toNat:Nat)):=World.rowIs.cell h hi
theorem RowB.frozen{W:World}{g:Nat}{t:TypeId}{D:List UInt8}(h:RowB W g t D)(i:Nat):W.frozen? ⟨g,i,none⟩=false:=World.rowIs.frozen h i
theorem RowB.set{W:World}{g:Nat}{t:TypeId}{D:List UInt8}(h:RowB W g t D)(i x:Nat)(hx:x<256):RowB (W.setCell ⟨g,i,none⟩ (.int .u8 (x:Nat))) g t (D.set i (UInt8.ofNat x)):=by
 unfold RowB
 rw[List.length_set]
 refine(World.rowIs.set h i _).congr fun j hj=>?_
 by_cases e:j=i
 ·subst e
  rw[if_pos rfl]
  simp only[List.getD_eq_getElem?_getD,List.getElem?_set]
  simp only[if_true,if_pos hj,Option.getD_some]
  simp[Nat.mod_eq_of_lt hx]
 ·rw[if_neg e]
  simp only[List.getD_eq_getElem?_getD,List.getElem?_set]
  rw[if_neg (fun h=>e h.symm)]
theorem RowB.text{W:World}{g:Nat}{t src dst e:TypeId}{D:List UInt8}(h:RowB W g t D)(k n c:Nat)(hn:k+n=D.length)
  (hs:Tryz.prog.underlying src=some (.slice e)) (he:Tryz.prog.underlying e=some (.int .u8)) (hd:Tryz.prog.underlying dst=some .string) :
  (convert src dst (.slice (some ⟨g,k,none⟩) n c)).run Tryz.prog W = .ok (.string ⟨(D.drop k).toArray⟩) W:=by
 have hl:(D.drop k).length=n:=by simp;omega
 rw[← hl]
 refine run_convert_bytes_back W src dst e ⟨g,k,none⟩ c (D.drop k) hs he hd fun j hj=>?_
 rw[Lib.add_plain]
 rw[RowB.cell h (by omega)]
 rw[List.getD_eq_getElem?_getD,List.getElem?_eq_getElem (by omega)]
 simp
def jn (L:List ByteArray):ByteArray:=⟨(Lib.join (L.map (·.data.toList)) [32]).toArray⟩
theorem elU64:ElemOf Tryz.prog 194 193 (.int .u64 0) 1 8:=⟨Tryz.underlying194,info_parts infoU,rfl,by decide⟩
theorem Digs.reverse{l:List UInt8}(h:Digs l):Digs l.reverse:=fun c hc=>h c (List.mem_reverse.1 hc)
structure JAt (w:World) (n:Nat) (T:List UInt8) (wr:World):Prop where
 row:∃ D,RowB wr w.heap.size 5 D∧D.length=9*n+1∧(D.getD 0 0).toNat=48∧D.drop (9*n+1-T.length)=T
 bel:Below w.heap.size w wr
theorem JAt.set{w wr:World}{n:Nat}{T:List UInt8}(h:JAt w n T wr)(m x:Nat)(hm:m+T.length=9*n)(hm0:0<m)(hx:x<256):JAt w n (UInt8.ofNat x::T) (wr.setCell ⟨w.heap.size,m,none⟩ (.int .u8 (x:Nat))):=by
 obtain⟨D,h1,h2,h3,h4⟩:=h.row
 refine⟨⟨D.set m (UInt8.ofNat x),h1.set m x hx,by rw[List.length_set];exact h2,?_,?_⟩,h.bel.setCell nr_ _⟩
 ·rw[List.getD_eq_getElem?_getD,List.getElem?_set_ne (by omega),← List.getD_eq_getElem?_getD];exact h3
 ·have e:9*n+1-(UInt8.ofNat x::T).length=m:=by simp;omega
  rw[e,List.drop_eq_getElem_cons (by simp;omega),List.getElem_set_self,List.drop_set,if_pos (by omega)]
  congr 1
  rw[← h4]
  congr 1
  omega
theorem JAt.cell{w wr:World}{n:Nat}{T:List UInt8}(h:JAt w n T wr)(m:Nat)(hm:m≤9*n):(∃ x:Nat,wr.cell? ⟨w.heap.size,m,none⟩=some (.int .u8 x))∧wr.frozen? ⟨w.heap.size,m,none⟩=false:=by
 obtain⟨D,h1,h2,_,_⟩:=h.row
 exact⟨⟨_,h1.cell (by omega)⟩,h1.frozen m⟩
theorem JAt.done{w wr:World}{n:Nat}{T:List UInt8}(h:JAt w n T wr)(hT:T.length=9*n)(hd:Digs T):∃ D,RowB wr w.heap.size 5 D∧D.length=9*n+1∧Digs D∧dval D=dval T:=by
 obtain⟨D,h1,h2,h3,h4⟩:=h.row
 have e:9*n+1-T.length=1:=by omega
 rw[e] at h4
 match D,h2,h3,h4 with
 | c::D,h2,h3,h4 =>
  obtain rfl:D=T:=by simpa using h4
  have hc:c.toNat=48:=by simpa using h3
  refine⟨_,h1,h2,fun y hy=>?_,?_⟩
  ·rcases List.mem_cons.1 hy with rfl | hy
   ·omega
   ·exact hd y hy
  ·rw[dval_cons,hc];simp
end Go.Proofs.YtnjedhgcfeoemaaGreatDoor

namespace Go.Proofs.YtnjedhgcfeoemaaGreatDoor.LN
def upP:List Int→List Int→Nat
 | p::ps,k::ks=>p.toNat^k.toNat*upP ps ks
 | _,_=>1
theorem upP_snoc:∀ (ps ks:List Int) (p k:Int),ps.length=ks.length→upP (ps++[p]) (ks++[k])=upP ps ks*p.toNat^k.toNat
 | [],[],p,k,_=>by simp[upP]
 | q::ps,m::ks,p,k,h=>by
  have ih:=upP_snoc ps ks p k (by simpa using h)
  simp only[List.cons_append,upP]
  rw[ih,Nat.mul_assoc]
theorem upP_le(K:Nat):∀ (ps ks:List Int),(∀ p∈ps,2≤p∧p≤97)→(∀ k∈ks,k≤(K:Int))→upP ps ks<10^(2*K*ps.length+1)
 | [],_,_,_=>by simp[upP]
 | _::_,[],_,_=>by
  simp only[upP]
  exact Nat.one_lt_pow (by omega) (by decide)
 | p::ps,k::ks,h,h2=>by
  have ih:=upP_le K ps ks (fun q hq=>h q (List.mem_cons_of_mem _ hq)) fun q hq=>h2 q (List.mem_cons_of_mem _ hq)
  obtain⟨a,b⟩:=h p List.mem_cons_self
  have hk:=h2 k List.mem_cons_self
  simp only[upP]
  have h3:p.toNat^k.toNat≤100^k.toNat:=Nat.pow_le_pow_left (by omega) _
  have h4:100^k.toNat≤100^K:=Nat.pow_le_pow_right (by decide) (by omega)
  have h5:(100:Nat)^K=10^(2*K):=by rw[show (100:Nat)=10^2 from rfl,← Nat.pow_mul]
  rw[h5] at h4
  have e:10^(2*K*(p::ps).length+1)=10^(2*K)*10^(2*K*ps.length+1):=by rw[← Nat.pow_add];congr 1;rw[List.length_cons,Nat.mul_add];omega
  rw[e]
  exact Nat.mul_lt_mul_of_le_of_lt (Nat.le_trans h3 h4) ih (Nat.pow_pos (by decide))
end Go.Proofs.YtnjedhgcfeoemaaGreatDoor.LN

namespace Go.Proofs.YtnjedhgcfeoemaaGreatDoor
open Go.RowKit
structure UpAt (ps ks:List Int) (k u d:Nat):Prop where
 up:u=LN.upP (ps.take k) (ks.take k)
 dn:d=LN.upP (ps.take k) ((ks.map fun z => -z).take k)
 le:∀ z∈ks.take k,z≤500 ∧ -500≤z
theorem take_next{α:Type}(l:List α)(k:Nat)(h:k<l.length):l.take (k+1)=l.take k++[l[k]]:=List.take_succ_eq_append_getElem h
theorem UpAt.next{ps ks:List Int}{k u d:Nat}(h:UpAt ps ks k u d)(h1:k<ps.length)(hk:k<ks.length)(hz:ks[k]≤500 ∧ -500≤ks[k]):
  UpAt ps ks (k+1) (u*ps[k].toNat^ks[k].toNat) (d*ps[k].toNat^(-ks[k]).toNat):=by
 refine⟨?_,?_,?_⟩
 ·rw[take_next ps k h1,take_next ks k hk,LN.upP_snoc _ _ _ _ (by simp;omega),← h.up]
 ·have hk2:k<(ks.map fun z => -z).length:=by simpa using hk
  rw[take_next ps k h1,take_next _ k hk2,LN.upP_snoc _ _ _ _ (by simp;omega),← h.dn,List.getElem_map]
 ·intro z hz2
  rw[take_next ks k hk] at hz2
  rcases List.mem_append.1 hz2 with h3|h3
  ·exact h.le z h3
  ·obtain rfl:=List.mem_singleton.1 h3
   exact hz
theorem UpAt.num{ps ks:List Int}{k u d:Nat}(h:UpAt ps ks k u d)(hp:∀ p∈ps,2≤p∧p≤97)(hn:ps.length≤100):Num u∧Num d:=by
 have hl:(ps.take k).length≤100:=by simp;omega
 have hb:2*500*(ps.take k).length+1≤1000000:=by omega
 have hp':∀ p∈ps.take k,2≤p∧p≤97:=fun p hp1=>hp p (List.mem_of_mem_take hp1)
 refine⟨?_,?_⟩
 ·rw[h.up]
  exact num_pow (LN.upP_le 500 _ _ hp' fun z hz=>by have:=h.le z hz;omega) (by omega) hb
 ·rw[h.dn]
  refine num_pow (LN.upP_le 500 _ _ hp' fun z hz=>?_) (by omega) hb
  rw[← List.map_take] at hz
  obtain⟨y,hy,rfl⟩:=List.mem_map.1 hz
  have:=h.le y hy
  omega
end Go.Proofs.YtnjedhgcfeoemaaGreatDoor

namespace Go.Proofs.YtnjedhgcfeoemaaGreatDoor
open Go.RowKit Go.Proofs.YtnjedhgcfeoemaaGreatDoor.RP
end Go.Proofs.YtnjedhgcfeoemaaGreatDoor

namespace Go.Proofs.YtnjedhgcfeoemaaGreatDoor
open Go.RowKit
end Go.Proofs.YtnjedhgcfeoemaaGreatDoor

namespace Go.Proofs.YtnjedhgcfeoemaaGreatDoor
open Go.ChangeShapes Go.WideShapes Go.ChangeAt Go.RowKit Go.Joins
section
variable {H:Type} {enc:TypeId×Value→H} {W:World}
end
end Go.Proofs.YtnjedhgcfeoemaaGreatDoor

namespace Go.Proofs.YtnjedhgcfeoemaaGreatDoor
open Go.RowKit
theorem own_apart{w:World}{B1 B2 s1 s2 n1 n2:Nat}{e1 e2:TypeId}{v1 v2:Value}{x1 x2:List Value}(h1:w.ownsRow B1 e1 s1 v1 n1 x1)(h2:w.ownsRow B2 e2 s2 v2 n2 x2)(hne:e1≠e2):
  ∀ k,v1.ownBlock=some k→v2.ownBlock≠some k:=by
 intro k hk hk2
 rcases h1.2 with⟨rfl,_⟩|⟨g,cap,cur,rfl,_,hg,_⟩
 ·simp[Value.ownBlock] at hk
 ·rcases h2.2 with⟨rfl,_⟩ | ⟨g2,cap2,cur2,rfl,_,hg2,_⟩
  ·simp[Value.ownBlock] at hk2
  ·simp only[Value.ownBlock,Option.some.injEq] at hk hk2
   subst hk
   subst hk2
   rw[hg] at hg2
   simp only[Option.some.injEq,Obj.cells.injEq] at hg2
   exact hne hg2.2.1
structure OwnL (w:World) (B:Nat) (b:Option Addr) (d:Nat) (n:Nat) (L:List (Option Addr×Nat)) (ls:List (List Rat)):Prop where
 len:L.length=ls.length
 row:w.ownsRow B 38 1 (.slice b L.length d) L.length (L.map fun x => .slice x.1 n x.2)
 each:∀ i (h1:i<L.length) (h2:i<ls.length),OwnQ w B L[i].1 L[i].2 ls[i]
 lens:∀ l∈ls,l.length=n
theorem OwnL.below{w w':World}{B d n:Nat}{b:Option Addr}{L:List (Option Addr×Nat)}{ls:List (List Rat)}(h:OwnL w B b d n L ls)(hb:Below w.heap.size w w'):OwnL w' B b d n L ls :=
 ⟨h.len,own_below h.row hb nr_,fun i h1 h2=>(h.each i h1 h2).below hb nr_,h.lens⟩
end Go.Proofs.YtnjedhgcfeoemaaGreatDoor

namespace Go.Proofs.YtnjedhgcfeoemaaGreatDoor
open Go.RowKit Go.Proofs.YtnjedhgcfeoemaaGreatDoor.RP
theorem OwnL.put{w1 w3:World}{B d n c:Nat}{b a:Option Addr}{L:List (Option Addr×Nat)}{ls:List (List Rat)}{l:List Rat}{v':Value}(h:OwnL w1 B b d n L ls)(ho:OwnQ w1 B a c l)(hl:l.length=n)
  (hown:w3.ownsRow B 38 1 v' (L.length+1) ((L.map fun x=>Value.slice x.1 n x.2)++[.slice a n c])) (hg:(w1.alloc (.cells #[.slice a n c] 38)).grownBy w3 (Value.slice b L.length d).ownBlock) :
  ∃ b' d',v' = .slice b' (L.length+1) d'∧OwnL w3 B b' d' n (L++[(a,c)]) (ls++[l]):=by
 obtain⟨b',d',rfl⟩:=own_form hown
 have hA:Below w1.heap.size w1 (w1.alloc (.cells #[.slice a n c] 38)):=(Below.refl _ _).alloc nr_ _
 have hrow:=own_below h.row hA nr_
 have keep:∀ (a2:Option Addr) (c2:Nat) (l2:List Rat),OwnQ w1 B a2 c2 l2→OwnQ w3 B a2 c2 l2:=fun a2 c2 l2 h2=>by
  have h3:=ownS_own (h2.below hA nr_)
  refine own_ownQ (World.ownsRow.kept h3 hg ?_)
  have hap:=own_apart hrow h3 (by decide)
  cases hv:(Value.slice b L.length d).ownBlock with
  | none=>cases hv2:(Value.slice a2 l2.length c2).ownBlock<;>simp
  | some k=>exact .inr (hap k hv)
 refine⟨b',d',rfl,?_,?_,?_,?_⟩
 ·simp[h.len]
 ·rw[List.length_append,List.map_append]
  exact hown
 ·intro i h1 h2
  by_cases hi:i<L.length
  ·have hi2:i<ls.length:=by rw[← h.len];exact hi
   rw[List.getElem_append_left hi2]
   simp only[List.getElem_append_left hi]
   exact keep _ _ _ (h.each i hi hi2)
  ·have e:i=L.length:=by simp at h1;omega
   subst e
   rw[List.getElem_append_right (by rw[h.len];exact Nat.le_refl _)]
   simp only[List.getElem_append_right nr_,h.len,Nat.sub_self,List.getElem_cons_zero]
   exact keep _ _ _ ho
 ·intro m hm
  rcases List.mem_append.1 hm with hm|hm
  ·exact h.lens m hm
  ·rw[List.mem_singleton.1 hm];exact hl
end Go.Proofs.YtnjedhgcfeoemaaGreatDoor

namespace Go.Proofs.YtnjedhgcfeoemaaGreatDoor
open Go.RowKit
end Go.Proofs.YtnjedhgcfeoemaaGreatDoor

namespace Go.Proofs.YtnjedhgcfeoemaaGreatDoor
open Go.RowKit
def idxB {α:Type} (pf : α→Bool):List α→Nat→Int
 | [],_ => -1
 | x::l,k=>if pf x=true then (k:Int) else idxB pf l (k+1)
theorem idxB_any{α:Type}(pf : α→Bool):∀ (l:List α) (k:Nat),decide (0≤idxB pf l k)=l.any pf
 | [],_=>by simp[idxB]
 | x::l,k=>by
  unfold idxB
  rw[List.any_cons]
  by_cases h:pf x=true
  ·rw[if_pos h,h];simp
  ·rw[if_neg h,idxB_any pf l (k+1)]
   simp only[Bool.not_eq_true] at h
   rw[h,Bool.false_or]
theorem enter_of {f : FuncId} {fn : Func} {c : Code} (hf : Tryz.prog.funcs[f]? = some fn) (hname : (fn.name == "runtime.NumGoroutine") = false) (hb : fn.body = some c) : ∀ args w, (callFunc f args).run Tryz.prog w = .ok (.enter f args) w := enters_of hf hname hb
def sgE (lo hi:Rat):Int:=if 0≤lo.num.sign then 1 else if hi.num.sign≤0 then -1 else 0
theorem sgn_nonneg(q:Rat):0≤q.num.sign↔0≤q:=by
 rw[← Rat.num_nonneg]
 rcases Int.lt_trichotomy q.num 0 with h|h|h
 ·rw[Int.sign_eq_neg_one_of_neg h];omega
 ·rw[h];decide
 ·rw[Int.sign_eq_one_of_pos h];omega
theorem sgn_nonpos(q:Rat):q.num.sign≤0↔q≤0:=by
 have h1:q≤0↔q.num≤0:=by
  have:=sgn_nonneg (-q)
  rw[Rat.neg_num,Int.sign_neg] at this
  constructor
  ·intro h
   have h2:0 ≤ -q:=by grind
   have h3:=Rat.num_nonneg.2 h2
   rw[Rat.neg_num] at h3
   omega
  ·intro h
   have h2:0≤(-q).num:=by rw[Rat.neg_num];omega
   have h3:=Rat.num_nonneg.1 h2
   grind
 rw[h1]
 rcases Int.lt_trichotomy q.num 0 with h|h|h
 ·rw[Int.sign_eq_neg_one_of_neg h];omega
 ·rw[h];decide
 ·rw[Int.sign_eq_one_of_pos h];omega
theorem sgE_dec(n:Nat)(ps:List Int)(l:List Rat):sgE (loE n ps l) (hiE n ps l)=decE n ps l:=by
 unfold sgE decE
 by_cases h1:0≤loE n ps l
 ·rw[if_pos ((sgn_nonneg _).2 h1),if_pos h1]
 ·rw[if_neg fun h=>h1 ((sgn_nonneg _).1 h),if_neg h1]
  by_cases h2:hiE n ps l≤0
  ·rw[if_pos ((sgn_nonpos _).2 h2),if_pos h2]
  ·rw[if_neg fun h=>h2 ((sgn_nonpos _).1 h),if_neg h2]
theorem esign_ok(w:World)(a b:Rat):Gives Tryz.prog 88 #[fr a,fr b] w (.int .i64 (sgE a b)):=by
 have H3:=hd_ (TwoF.mk' w (itx a.num) (dec a.den) (itx b.num) (dec b.den))
 have Ha:=hd_ (fun W=>signR W a)
 have Hb:=hd_ (fun W=>signR W b)
 have Hv:Hid (sgE a b=if 0≤a.num.sign then 1 else if b.num.sign≤0 then -1 else 0):=rfl
 generalize sgE a b=v at *
 unfold Gives
 unfold fr fv at Ha Hb ⊢
 generalize a.num.sign=sa at *
 generalize b.num.sign=sb at *
 by_cases h1:0≤sa
 ·have Hv2:Hid (v=1):=by show _=_;rw[Hv.out,if_pos h1]
  clear Hv Hb
  go_enter Tryz.func88,Tryz.ntmps88
  obtain⟨k0,k1,-,-⟩:=two_cells H3.out.fa
  go_wp2_with fail
  generalize (w.alloc (.cells #[.string (itx a.num),.string (dec a.den)] 42)).alloc (.cells #[.string (itx b.num),.string (dec b.den)] 42)=W0 at *
  clear k0 k1
  refine cm_ (Ha.out _) ?_
  rintro e w1 ⟨rfl,hb1⟩
  have B1:=hd_ (H3.out.bel.trans (hb1.mono H3.out.bel.size))
  clear hb1 Ha
  go_wp2_with fail
  go_ret
  exact⟨by rw[Hv2.out];rfl,B1.out⟩
 ·by_cases h2:sb≤0
  ·have Hv2:Hid (v = -1):=by show _=_;rw[Hv.out,if_neg h1,if_pos h2]
   clear Hv
   go_enter Tryz.func88,Tryz.ntmps88
   obtain⟨k0,k1,-,-⟩:=two_cells H3.out.fa
   go_wp2_with fail
   generalize (w.alloc (.cells #[.string (itx a.num),.string (dec a.den)] 42)).alloc (.cells #[.string (itx b.num),.string (dec b.den)] 42)=W0 at *
   clear k0 k1
   refine cm_ (Ha.out _) ?_
   rintro e w1 ⟨rfl,hb1⟩
   have H4:=hd_ (H3.out.next hb1)
   clear hb1 Ha H3
   obtain⟨k2,k3,-,-⟩:=two_cells H4.out.fb
   go_wp2_with fail
   clear k2 k3
   refine cm_ (Hb.out _) ?_
   rintro e w2 ⟨rfl,hb1⟩
   have B1:=hd_ (H4.out.bel.trans (hb1.mono H4.out.bel.size))
   clear hb1 Hb
   go_wp2_with fail
   go_ret
   exact⟨by rw[Hv2.out];rfl,B1.out⟩
  ·have Hv2:Hid (v=0):=by show _=_;rw[Hv.out,if_neg h1,if_neg h2]
   clear Hv
   go_enter Tryz.func88,Tryz.ntmps88
   obtain⟨k0,k1,-,-⟩:=two_cells H3.out.fa
   go_wp2_with fail
   generalize (w.alloc (.cells #[.string (itx a.num),.string (dec a.den)] 42)).alloc (.cells #[.string (itx b.num),.string (dec b.den)] 42)=W0 at *
   clear k0 k1
   refine cm_ (Ha.out _) ?_
   rintro e w1 ⟨rfl,hb1⟩
   have H4:=hd_ (H3.out.next hb1)
   clear hb1 Ha H3
   obtain⟨k2,k3,-,-⟩:=two_cells H4.out.fb
   go_wp2_with fail
   clear k2 k3
   refine cm_ (Hb.out _) ?_
   rintro e w2 ⟨rfl,hb1⟩
   have B1:=hd_ (H4.out.bel.trans (hb1.mono H4.out.bel.size))
   clear hb1 Hb
   go_wp2_with fail
   go_ret
   exact⟨by rw[Hv2.out];rfl,B1.out⟩
theorem idxQ_any(w:World)(a:Option Addr)(c:Nat)(l:List Rat)(hr:Rd w a (cellsQ l))(hl:l.length≤1000000)(f:FuncId)(lb:Array Value)(eg:∀ args w,(callFunc f args).run Tryz.prog w = .ok (.enter f args) w)(pf:Rat→Bool)
  (hcl:∀ W,Below w.heap.size w W→∀ x∈l,Gives Tryz.prog f (#[fr x]++lb) W (.bool (pf x))) :
  Gives Tryz.prog 207 #[.slice a l.length c,.func (.func f) #[] lb] w (.int .i64 (idxB pf l 0)):=by
 unfold Gives
 have Hr:=hd_ hr
 have Hcl:=hd_ hcl
 clear hr hcl
 generalize hm:l.length=m at *
 have Hm:=hd_ hm
 clear hm
 generalize hv:idxB pf l 0=v at *
 have Hvv:Hid (v=idxB pf l 0):=hv.symm
 clear hv
 go_enter Tryz.func207,Tryz.ntmps207
 go_wp2_with fail
 go_loopw [8] (fun i wr=>∃ k:Nat,k≤m∧i = .int .i64 k∧Hid (v=idxB pf (l.drop k) k)∧Hid (Below w.heap.size w wr)) (fun i _=>m-(intOf i).toNat)
 case atStart=>exact⟨0,Nat.zero_le _,rfl,Hvv,Below.refl _ _⟩
 case round =>
  clear Hvv
  obtain⟨k,hk,rfl,Hx,B⟩:=hrel
  by_cases hlt:k<m
  ·have hlt':(k:Int)<m:=by omega
   have hkb:k<l.length:=by rw[Hm.out];exact hlt
   obtain⟨b,off,rfl,hb,hcells⟩:=Hr.out.open (by rw[cellsQ_length];omega)
   obtain⟨x0,x1⟩:=cellsS_rd hcells k (by rw[List.length_map];exact hkb)
   rw[qs_getD l k hkb] at x0 x1
   rw[← B.out.cell (p:=⟨b,off+k*2,none⟩) hb] at x0
   rw[← B.out.cell (p:=⟨b,off+k*2+1,none⟩) hb] at x1
   have Hd:Hid (l.drop k=l[k]::l.drop (k+1)):=List.drop_eq_getElem_cons hkb
   have Hc:=hd_ (Hcl.out wr B.out l[k] (List.getElem_mem hkb))
   unfold fr fv at Hc
   unfold qs at x0 x1
   simp only at x0 x1
   clear hcells
   generalize l[k]=x at *
   cases hf:pf x with
   | false =>
    have Hn:Hid (v=idxB pf (l.drop (k+1)) (k+1)):=by show _=_;rw[Hx.out,Hd.out,idxB,if_neg (by rw[hf];decide)]
    rw[hf] at Hc
    go_wp2_with fail
    refine cm_ Hc.out ?_
    rintro e w1 ⟨rfl,hb1⟩
    have B1:=hd_ (B.out.trans (hb1.mono B.out.size))
    clear hb1 Hc B x0 x1
    go_wp2_with fail
    go_roundw
    case rel=>exact⟨k+1,by omega,by go_num,Hn,B1⟩
    case measure=>simp[intOf];omega
   | true =>
    have Hn:Hid (v=k):=by show _=_;rw[Hx.out,Hd.out,idxB,if_pos hf]
    rw[hf] at Hc
    go_wp2_with fail
    refine cm_ Hc.out ?_
    rintro e w1 ⟨rfl,hb1⟩
    have B1:=hd_ (B.out.trans (hb1.mono B.out.size))
    clear hb1 Hc B x0 x1
    go_wp2_with fail
    go_ret
    exact⟨by rw[Hn.out];rfl,B1.out⟩
  ·have hlt':¬ (k:Int)<m:=by omega
   have Hn:Hid (v = -1):=by show _=_;rw[Hx.out,List.drop_of_length_le (by rw[Hm.out];omega)];rfl
   go_wp2_with fail
   go_ret
   exact⟨by rw[Hn.out];rfl,B.out⟩
theorem conQ_any(w:World)(a:Option Addr)(c:Nat)(l:List Rat)(hr:Rd w a (cellsQ l))(hl:l.length≤1000000)(f:FuncId)(lb:Array Value)(eg:∀ args w,(callFunc f args).run Tryz.prog w = .ok (.enter f args) w)(pf:Rat→Bool)
  (hcl:∀ W,Below w.heap.size w W→∀ x∈l,Gives Tryz.prog f (#[fr x]++lb) W (.bool (pf x))) :
  Gives Tryz.prog 161 #[.slice a l.length c,.func (.func f) #[] lb] w (.bool (l.any pf)):=by
 unfold Gives
 have Hc:=hd_ (idxQ_any w a c l hr hl f lb eg pf hcl)
 have Hv:=hd_ (idxB_any pf l 0)
 unfold Gives at Hc
 clear hr hcl
 generalize l.length=m at *
 generalize idxB pf l 0=v at *
 generalize l.any pf=z at *
 go_enter Tryz.func161,Tryz.ntmps161
 go_wp2_with fail
 refine cm_ Hc.out ?_
 rintro e w1 ⟨rfl,hb1⟩
 have B1:=hd_ hb1
 clear hb1 Hc
 go_wp2_with fail
 go_ret
 exact⟨by rw[← Hv.out];rfl,B1.out⟩
def nzQ (q:Rat):Bool:=q.num.sign != 0
theorem zero1_ok(w:World)(q:Rat):Gives Tryz.prog 162 #[fr q] w (.bool (nzQ q)):=by
 unfold Gives
 have Hb0:=hd_ ((Below.refl w.heap.size w).alloc nr_ (.cells #[.string (itx q.num),.string (dec q.den)] 42))
 have Hs:=hd_ (fun W=>signR W q)
 have Hv:Hid (nzQ q=(q.num.sign != 0)):=rfl
 have F:=FrAt.new w q
 generalize nzQ q=v at *
 unfold fr fv at Hs ⊢
 generalize q.num.sign=s at *
 go_enter Tryz.func162,Tryz.ntmps162
 obtain⟨k0,k1,-,-⟩:=two_cells F
 clear F
 go_wp2_with fail
 generalize w.alloc (.cells #[.string (itx q.num),.string (dec q.den)] 42)=W0 at *
 clear k0 k1
 refine cm_ (Hs.out _) ?_
 rintro e w1 ⟨rfl,hb1⟩
 have B1:=hd_ (Hb0.out.trans (hb1.mono Hb0.out.size))
 clear hb1 Hs
 go_wp2_with fail
 go_ret
 exact⟨by rw[Hv.out];rfl,B1.out⟩
theorem ezero_ok(w:World)(a:Option Addr)(c:Nat)(l:List Rat)(hr:Rd w a (cellsQ l))(hl:l.length≤1000000):
  Gives Tryz.prog 85 #[.slice a l.length c] w (.bool (!l.any nzQ)):=by
 unfold Gives
 have Hc:=hd_ (conQ_any w a c l hr hl 162 #[] (enter_of Tryz.func162 (by kernel_rfl) rfl) nzQ fun W _ x _=>zero1_ok W x)
 unfold Gives at Hc
 clear hr hl
 generalize l.length=m at *
 generalize l.any nzQ=z at *
 go_enter Tryz.func85,Tryz.ntmps85
 go_wp2_with fail
 refine cm_ Hc.out ?_
 rintro e w1 ⟨rfl,hb1⟩
 have B1:=hd_ hb1
 clear hb1 Hc
 go_wp2_with fail
 go_ret
 exact⟨rfl,B1.out⟩
def LeastP (w w':World) (ps:List Int) (l:List Rat) (T:Nat→Bool) (e:Ending):Prop :=
 ∃ R B n,e = .returned (.tuple #[.pointer (some ⟨R,0,none⟩),.int .i64 (n:Nat),.bool true])∧LgAt w' R ps l B∧n≤B∧B≤1000∧LeastN T n∧Below w.heap.size w w'
theorem least_any(w:World)(ps:List Int)(l:List Rat)(a0 a1:Option Addr)(c0 c1 D:Nat)(rp:Rd w a0 (ints ps))(rl:Rd w a1 (cellsQ l))(hl:l.length=ps.length)(hn:ps.length≤100)(hp:∀ p∈ps,∃ q:Nat,p=q∧(q=2∨q∈oddP))(hs:∀ q∈l,Sm D q)(hD:D≤300)
  (f:FuncId) (lb:Array Value) (eg:∀ args w,(callFunc f args).run Tryz.prog w = .ok (.enter f args) w) (T:Nat→Bool)
  (hT:∀ W,Below w.heap.size w W→∀ b,b≤1000→Gives Tryz.prog f (#[fr (loE b ps l),fr (hiE b ps l)]++lb) W (.bool (T b))) (hend:T 1000=true) (L:Laid w) :
  Calls Tryz.prog 86 #[.slice a0 ps.length c0,.slice a1 ps.length c1,.func (.func f) #[] lb] w fun e w'=>LeastP w w' ps l T e:=by
 have HOp:=hd_ (fun W (hW:Below w.heap.size w W) B hB=>open_any14 W ps l B a0 a1 c0 c1 (rp.below hW nr_) (rl.below hW nr_) hl hn hp hB (L.below hW))
 have HEn:=hd_ (fun W (hW:Below w.heap.size w W) R B b (H:LgAt W R ps l B) (hb:b≤B) (hB:B≤1000)=>ends_any14 W R ps l B b D H hl hn hp hs hD hb hB (L.below hW))
 have HT:=hd_ hT
 have Hend:=hd_ hend
 clear rp rl hs hp hT hend L
 unfold fr fv at HEn HT
 generalize hnn:ps.length=n at *
 have Hn:=hd_ hnn
 clear hnn
 go_enter Tryz.func86,Tryz.ntmps86
 go_wp2_with fail
 refine cm_ (HOp.out _ (Below.refl _ _) 32 (by decide)) ?_
 rintro e w1 ⟨R0,rfl,hg,hR,hb⟩
 have HG0:=hd_ hg
 have B1:=hd_ hb
 clear hg hR hb
 go_wp2_with fail
 go_loopw [9,10] (fun m p wr=>∃ (B R:Nat),32≤B∧B≤1000∧m = .int .i64 B∧p = .pointer (some ⟨R,0,none⟩)∧Hid (LgAt wr R ps l B)∧Hid (Below w.heap.size w wr)) (fun m _ _=>1000-(intOf m).toNat)
 case atStart=>exact⟨32,R0,Nat.le_refl _,by decide,rfl,rfl,HG0,B1⟩
 case round =>
  obtain⟨B,R,hB1,hB2,rfl,rfl,HG,HB⟩:=hrel
  clear HG0 B1
  go_wp2_with fail
  refine cm_ (HEn.out _ HB.out R B B HG.out nr_ hB2) ?_
  rintro e w2 ⟨rfl,hb⟩
  have HB2:=hd_ (HB.out.trans (hb.mono HB.out.size))
  have HG2:=hd_ (HG.out.below hb)
  clear hb HG HB
  have Hc:=hd_ (HT.out w2 HB2.out B hB2)
  cases hf:T B with
  | false =>
   rw[hf] at Hc
   have hB3:B<1000:=by
    rcases Nat.lt_or_ge B 1000 with h|h
    ·exact h
    ·obtain rfl:B=1000:=by omega
     rw[Hend.out] at hf;cases hf
   obtain⟨B',hB'⟩:∃ B',min (2*B) 1000=B':=⟨_,rfl⟩
   have hm:min (2*(B:Int)) 1000=(B':Nat):=by omega
   have hw:IntKind.i64.wrap (2*(B:Int))=2*(B:Int):=iw_ _ (by omega)
   have hne:((B:Int)==1000)=false:=by rw[beq_eq_false_iff_ne];omega
   have HOp':=hd_ (fun W hW=>HOp.out W hW B' (by omega))
   have hlow:32≤B':=by omega
   have hhigh:B'≤1000:=by omega
   have hgrow:B<B':=by omega
   clear hf hB'
   go_wp2_with fail
   refine cm_ Hc.out ?_
   rintro e w3 ⟨rfl,hb⟩
   have HB3:=hd_ (HB2.out.trans (hb.mono HB2.out.size))
   clear hb Hc HB2 HG2
   go_wp2_with fail
   refine cm_ (HOp'.out _ HB3.out) ?_
   rintro e w4 ⟨R',rfl,hg,hR,hb⟩
   have HG4:=hd_ hg
   have HB4:=hd_ (HB3.out.trans (hb.mono HB3.out.size))
   clear hg hR hb HB3 HOp'
   go_wp2_with fail
   refine⟨⟨B',R',hlow,hhigh,rfl,rfl,HG4,HB4⟩,by simp[intOf];omega⟩
  | true =>
   rw[hf] at Hc
   have Htop:=hd_ hf
   clear hf
   go_wp2_with fail
   refine cm_ Hc.out ?_
   rintro e w3 ⟨rfl,hb⟩
   have HB3:=hd_ (HB2.out.trans (hb.mono HB2.out.size))
   have HG3:=hd_ (HG2.out.below hb)
   clear hb Hc HB2 HG2
   go_wp2_with fail
   go_loopw [11,12] (fun u v wr=>∃ (fI:Int) (t:Nat),-1≤fI∧fI<t∧t≤B∧u = .int .i64 fI∧v = .int .i64 t∧Hid (T t=true∧(fI = -1∨T fI.toNat=false))∧Hid (LgAt wr R ps l B)∧Hid (Below w.heap.size w wr)) (fun u v _=>(intOf v-intOf u).toNat)
   case atStart=>exact⟨-1,B,Int.le_refl _,by omega,Nat.le_refl _,rfl,rfl,⟨Htop.out,.inl rfl⟩,HG3,HB3⟩
   case round =>
    obtain⟨fI,t,hf1,hf2,ht,rfl,rfl,HX,HG,HB⟩:=hrel
    clear HG3 HB3
    have hw1:IntKind.i64.wrap ((t:Int)-fI)=(t:Int)-fI:=iw_ _ (by omega)
    by_cases hc:1<(t:Int)-fI
    ·obtain⟨m,hm⟩:∃ m:Nat,((m:Nat):Int)=(fI+t)/2:=⟨((fI+t)/2).toNat,by omega⟩
     have hw2:IntKind.i64.wrap (fI+(t:Int))=fI+t:=iw_ _ (by omega)
     have hq:Int.tdiv (fI+(t:Int)) 2=(m:Nat):=by rw[Int.tdiv_eq_ediv_of_nonneg (by omega)];omega
     have hq':(fI+(t:Int))/2=(m:Nat):=hm.symm
     have hm1:fI<m:=by omega
     have hm2:m<t:=by omega
     clear hm
     go_wp2_with fail
     refine cm_ (HEn.out _ HB.out R B m HG.out (by omega) hB2) ?_
     rintro e w4 ⟨rfl,hb⟩
     have HB4:=hd_ (HB.out.trans (hb.mono HB.out.size))
     have HG4:=hd_ (HG.out.below hb)
     clear hb HG HB
     have Hc:=hd_ (HT.out w4 HB4.out m (by omega))
     cases hf:T m with
     | true =>
      rw[hf] at Hc
      have HX2:Hid (T m=true∧(fI = -1∨T fI.toNat=false)):=⟨hf,HX.out.2⟩
      clear hf HX
      go_wp2_with fail
      refine cm_ Hc.out ?_
      rintro e w5 ⟨rfl,hb⟩
      have HB5:=hd_ (HB4.out.trans (hb.mono HB4.out.size))
      have HG5:=hd_ (HG4.out.below hb)
      clear hb Hc HB4 HG4
      go_wp2_with fail
      refine⟨⟨fI,m,hf1,hm1,by omega,rfl,rfl,HX2,HG5,HB5⟩,by simp[intOf];omega⟩
     | false =>
      rw[hf] at Hc
      have HX2:Hid (T t=true∧((m:Int) = -1∨T ((m:Int)).toNat=false)):=⟨HX.out.1,.inr (by rw[Int.toNat_natCast];exact hf)⟩
      clear hf HX
      go_wp2_with fail
      refine cm_ Hc.out ?_
      rintro e w5 ⟨rfl,hb⟩
      have HB5:=hd_ (HB4.out.trans (hb.mono HB4.out.size))
      have HG5:=hd_ (HG4.out.below hb)
      clear hb Hc HB4 HG4
      go_wp2_with fail
      refine⟨⟨(m:Int),t,by omega,by omega,ht,rfl,rfl,HX2,HG5,HB5⟩,by simp[intOf];omega⟩
    ·have hc':fI=(t:Int)-1:=by omega
     have HL:Hid (LeastN T t):=by
      refine⟨HX.out.1,?_,by omega⟩
      rcases HX.out.2 with h|h
      ·left;omega
      ·by_cases h0:t=0
       ·left;exact h0
       ·right;rw[show t-1=fI.toNat by omega];exact h
     clear hc' HX
     go_wp2_with fail
     go_ret3
     exact⟨R,B,t,rfl,HG.out,ht,hB2,HL.out,HB.out⟩
def cellsB (l:List (Int×Int×ByteArray)):List Value:=l.flatMap fun x=>[.int .i64 x.1,.int .i64 x.2.1,.string x.2.2]
theorem cellsB_append(l m:List (Int×Int×ByteArray)):cellsB (l++m)=cellsB l++cellsB m:=by simp[cellsB]
def bndL (n:Nat) (ps:List Int) (l:List Rat):List (Int×Int×ByteArray):=(ps.zip l).filterMap fun x=>if x.2.num=0 then none else some (x.1,(n:Int),dec (lgN x.1 n))
theorem bndL_take(n:Nat)(ps:List Int)(l:List Rat)(k:Nat)(h1:k<ps.length)(h2:k<l.length):
  bndL n (ps.take (k+1)) (l.take (k+1))=bndL n (ps.take k) (l.take k)++(if l[k].num=0 then [] else [(ps[k],(n:Int),dec (lgN ps[k] n))]):=by
 unfold bndL
 have e:∀ n,(ps.take n).zip (l.take n)=(ps.zip l).take n:=fun n=>(List.take_zipWith ..).symm
 rw[e,e,List.take_add_one,List.getElem?_eq_getElem (by rw[List.length_zip];omega),List.filterMap_append]
 congr 1
 rw[List.getElem_zip]
 by_cases h:l[k].num=0
 ·rw[if_pos h]
  show List.filterMap _ [(ps[k],l[k])]=[]
  rw[List.filterMap_cons,if_pos h];rfl
 ·rw[if_neg h]
  show List.filterMap _ [(ps[k],l[k])]=_
  rw[List.filterMap_cons,if_neg h];rfl
theorem infoBd:(Tryz.prog.info? 27).map (fun i=>(i.zero,i.size,i.bytes))=some (some (.agg #[.int .i64 0,.int .i64 0,.string ⟨#[]⟩]),3,32):=by kernel_rfl
theorem elBd:ElemOf Tryz.prog 49 27 (.agg #[.int .i64 0,.int .i64 0,.string ⟨#[]⟩]) 3 32:=⟨Tryz.underlying49,info_parts infoBd,rfl,by decide⟩
theorem decide1_ok(w:World)(a b:Rat):Gives Tryz.prog 87 #[fr a,fr b] w (.bool (sgE a b != 0)):=by
 have H3:=hd_ (TwoF.mk' w (itx a.num) (dec a.den) (itx b.num) (dec b.den))
 have Hs:=hd_ (fun W=>esign_ok W a b)
 unfold Gives
 unfold fr fv at Hs ⊢
 generalize sgE a b=v at *
 go_enter Tryz.func87,Tryz.ntmps87
 obtain⟨k0,k1,-,-⟩:=two_cells H3.out.fa
 obtain⟨k2,k3,-,-⟩:=two_cells H3.out.fb
 go_wp2_with fail
 generalize (w.alloc (.cells #[.string (itx a.num),.string (dec a.den)] 42)).alloc (.cells #[.string (itx b.num),.string (dec b.den)] 42)=W0 at *
 clear k0 k1 k2 k3
 refine cm_ (Hs.out _) ?_
 rintro e w1 ⟨rfl,hb1⟩
 have B1:=hd_ (H3.out.bel.trans (hb1.mono H3.out.bel.size))
 clear hb1 Hs
 go_wp2_with fail
 go_ret
 exact⟨rfl,B1.out⟩
def cmpV (sg n:Int) (a:Option Addr) (m c:Nat):Value := .agg #[.int .i64 sg,.int .i64 n,.slice a m c]
def DecP (w w':World) (ps:List Int) (l:List Rat) (e:Ending):Prop :=
 ∃ (n:Nat) (a:Option Addr) (c:Nat),e = .returned (.tuple #[cmpV (decE n ps l) n a (bndL n ps l).length c,.int .i64 0])∧LeastN (fun b=>decE b ps l != 0) n∧Rd w' a (cellsB (bndL n ps l))∧Below w.heap.size w w'
structure DcI (w w3 wr:World) (sg:Int) (n m:Nat) (a:Option Addr) (c:Nat) (bl:List (Int×Int×ByteArray)):Prop where
 res:wr.heap[w.heap.size]?=some (.cells #[.int .i64 0,.int .i64 0,.slice none 0 0] 51 (0,0))
 ob:wr.heap[w3.heap.size]?=some (.cells #[.int .i64 sg,.int .i64 n,.slice a m c] 51 (0,0))
 own:wr.ownsRow (w3.heap.size+1) 27 3 (.slice a m c) m (cellsB bl)
 bel:Below w3.heap.size w3 wr
 sz:w3.heap.size+1≤wr.heap.size
theorem DcI.below{w w3 wr w':World}{sg:Int}{n m:Nat}{a:Option Addr}{c:Nat}{bl:List (Int×Int×ByteArray)}(h:DcI w w3 wr sg n m a c bl)(hb:Below wr.heap.size wr w'):DcI w w3 w' sg n m a c bl :=
 ⟨by rw[hb.block _ (Array.getElem?_eq_some_iff.1 h.res).1];exact h.res,by rw[hb.block _ (Array.getElem?_eq_some_iff.1 h.ob).1];exact h.ob,own_below h.own hb nr_,h.bel.trans (hb.mono h.bel.size),Nat.le_trans h.sz hb.size⟩
theorem check_sm(w:World)(a0 a1:Option Addr)(c0 c1:Nat)(ps:List Int)(l:List Rat)(rp:Rd w a0 (ints ps))(rl:Rd w a1 (cellsQ l))(hi:I64s ps)(hl:l.length=ps.length)(hn:ps.length≤100)(hs:∀ q∈l,Sm 30 q)(hp0:pcode ps=0)(L:Laid w):
  Gives Tryz.prog 22 #[.slice a0 ps.length c0,.slice a1 ps.length c1] w (.int .i64 0):=by
 have hss:Ssz (l.map qs):=fun x hx=>by
  obtain⟨q,hq,rfl⟩:=List.mem_map.1 hx
  have h1:=itx_size q.num 30 (by decide) (hs q hq).1
  have h2:=(size_lt q.den 30 (by decide)).2 (hs q hq).2
  refine⟨Nat.le_trans h1 (by decide),Nat.le_trans h2 (by decide)⟩
 have h:=sizeCheck_any w a0 a1 c0 c1 ps (l.map qs) rp hi (by omega) rl (by rw[List.length_map];omega) hss L
 rw[List.length_map,hl] at h
 have h0:ccode ps (l.map qs)=0:=by unfold ccode;rw[if_pos hp0,scode_ok hs hl]
 rw[h0] at h
 exact h
theorem set_third{w:World}{R:Nat}{x y z z':Value}{t:TypeId}(h:w.heap[R]?=some (.cells #[x,y,z] t (0,0))):
  (w.setCell ⟨R,2,none⟩ z').heap[R]?=some (.cells #[x,y,z'] t (0,0)):=by
 have hlt:=lt_of_block h
 have h':w.heap[R] = .cells #[x,y,z] t (0,0):=by simpa [Array.getElem?_eq_getElem hlt] using h
 show (w.heap.modify R _)[R]?=_
 rw[Array.getElem?_eq_getElem (by simpa using hlt),Array.getElem_modify_self,h']
 rfl
theorem own_rd3{w:World}{B e:Nat}{a:Option Addr}{c m:Nat}{vs:List Value}{sz:Nat}(h:w.ownsRow B e sz (.slice a m c) m vs):Rd w a vs:=by
 by_cases hn:0<m
 ·obtain⟨g,cap,hv,h1,h2,h3,h4,h5⟩:=own_open h hn
  simp only[Value.slice.injEq] at hv
  obtain⟨rfl,-,-⟩:=hv
  refine .inr ⟨g,0,rfl,h2,fun i v hi=>?_⟩
  have hlt:=(List.getElem?_eq_some_iff.1 hi).1
  have hlen:=h.1
  rw[Nat.zero_add,h4 i (by omega)];exact hi
 ·obtain rfl:m=0:=by omega
  have hlen:=h.1
  exact .inl (List.length_eq_zero_iff.1 (by omega))
theorem DcI.push{w w3 W w5:World}{sg:Int}{n mm c d:Nat}{a a3:Option Addr}{bl:List (Int×Int×ByteArray)}{x:Int×Int×ByteArray}{news:List Value}(h:DcI w w3 W sg n mm a c bl)(hw:w.heap.size<w3.heap.size)
  (hnews:news=[.int .i64 x.1,.int .i64 x.2.1,.string x.2.2])
  (hg:(W.alloc (.cells news.toArray 27)).grownBy w5 (Value.slice a mm c).ownBlock) (ho:w5.ownsRow (w3.heap.size+1) 27 3 (.slice a3 (mm+1) d) (mm+1) (cellsB bl++news)) :
  (∃ v,w5.cell? ⟨w3.heap.size,2,none⟩=some v)∧w5.frozen? ⟨w3.heap.size,2,none⟩=false∧DcI w w3 (w5.setCell ⟨w3.heap.size,2,none⟩ (.slice a3 (mm+1) d)) sg n (mm+1) a3 d (bl++[x]):=by
 have hown:∀ k,(Value.slice a mm c).ownBlock=some k→w3.heap.size+1≤k:=fun k hk=>(World.ownsRow.lt h.own k hk).1
 have keep:∀ k o,k<w3.heap.size+1→W.heap[k]?=some o→w5.heap[k]?=some o:=fun k o hk ho=>by
  rw[hg.block k (by simp;have:=h.sz;omega) (fun e=>by have:=hown k e.symm;omega)]
  rw[((Below.refl W.heap.size W).alloc nr_ _).block k (by have:=h.sz;omega)]
  exact ho
 have ob5:=keep _ _ (Nat.lt_succ_self _) h.ob
 obtain⟨-,-,k2,kf⟩:=three_cells ob5
 refine⟨⟨_,k2⟩,kf 2,?_,set_third ob5,?_,?_,?_⟩
 ·rw[Below.heap_setCell _ _ _ _ (by show w.heap.size≠w3.heap.size;omega)]
  exact keep _ _ (by omega) h.res
 ·have:=ownsRow_setCell_below (a:=⟨w3.heap.size,2,none⟩) ho (Nat.lt_succ_self _) (.slice a3 (mm+1) d)
  rw[cellsB_append]
  subst hnews
  exact this
 ·refine Below.setCell (p:=⟨w3.heap.size,2,none⟩) ?_ nr_ _
  exact(h.bel.alloc h.bel.size _).grown hg (by simp;have:=h.sz;omega) (fun k hk=>by have:=hown k hk;omega)
 ·rw[World.size_setCell]
  have:=hg.size
  simp at this
  have:=h.sz
  omega
theorem decide_ok(w:World)(a0 a1:Option Addr)(c0 c1 D:Nat)(ps:List Int)(l:List Rat)(rp:Rd w a0 (ints ps))(rl:Rd w a1 (cellsQ l))(hi:I64s ps)(hl:l.length=ps.length)(hn:ps.length≤100)(hp:∀ p∈ps,∃ q:Nat,p=q∧(q=2∨q∈oddP))(hs:∀ q∈l,Sm D q)(hD:D≤30)
  (hp0:pcode ps=0) (hnz:l.any nzQ=true) (hend:decE 1000 ps l≠0) (L:Laid w) :
  Calls Tryz.prog 26 #[.slice a0 ps.length c0,.slice a1 ps.length c1] w fun e w'=>DecP w w' ps l e:=by
 have Hck:=hd_ (fun W (hW:Below w.heap.size w W)=>check_sm W a0 a1 c0 c1 ps l (rp.below hW nr_) (rl.below hW nr_) hi hl hn (fun q hq=>(hs q hq).le hD) hp0 (L.below hW))
 have Hze:=hd_ (fun W (hW:Below w.heap.size w W)=>ezero_ok W a1 c1 l (rl.below hW nr_) (by omega))
 rw[hnz,hl] at Hze
 have Hle:=hd_ (fun W (hW:Below w.heap.size w W)=>least_any W ps l a0 a1 c0 c1 D (rp.below hW nr_) (rl.below hW nr_) hl hn hp hs (by omega) 87 #[] (enter_of Tryz.func87 (by kernel_rfl) rfl) (fun b=>decE b ps l != 0) (fun W' _ b _=>by
  have:=decide1_ok W' (loE b ps l) (hiE b ps l)
  rw[sgE_dec] at this
  exact this) (by rw[bne_iff_ne];exact hend) (L.below hW))
 have HEn:=hd_ (fun W (hW:Below w.heap.size w W) R B b (H:LgAt W R ps l B) (hb:b≤B) (hB:B≤1000)=>ends_any14 W R ps l B b D H hl hn hp hs (by omega) hb hB (L.below hW))
 have HSg:=hd_ (fun W b=>esign_ok W (loE b ps l) (hiE b ps l))
 have HAt:=hd_ (fun W (hW:Below w.heap.size w W) R B b k (H:LgAt W R ps l B) (hk:k<ps.length) (hkl:k<l.length) (hz:l[k].num≠0) (hb:b≤B) (hB:B≤1000)=>at_any W R ps l B b k H hl hn hk hkl (hp _ (List.getElem_mem hk)) hz hb hB (L.below hW))
 have HRp:=hd_ rp
 have HRl:=hd_ rl
 have Hl:=hd_ hl
 have Hnew:Hid ((w.alloc (.cells #[.int .i64 0,.int .i64 0,.slice none 0 0] 51)).heap[w.heap.size]?=some (.cells #[.int .i64 0,.int .i64 0,.slice none 0 0] 51 (0,0))):=heap_alloc_new w _
 have Hb0:=hd_ ((Below.refl w.heap.size w).alloc nr_ (.cells #[.int .i64 0,.int .i64 0,.slice none 0 0] 51))
 clear rp rl hs hp hp0 hnz hend L hi
 unfold fr fv at HEn HSg
 obtain⟨n,hnn⟩:∃ n,ps.length=n:=⟨_,rfl⟩
 have Hn:=hd_ hnn
 rw[hnn] at hn Hck Hze Hle ⊢
 clear hnn hl
 go_enter Tryz.func26,Tryz.ntmps26
 go_wp2_with fail
 generalize w.alloc (.cells #[.int .i64 0,.int .i64 0,.slice none 0 0] 51)=W0 at *
 refine cm_ (Hck.out _ Hb0.out) ?_
 rintro e w1 ⟨rfl,hb⟩
 have B1:=hd_ (Hb0.out.trans (hb.mono Hb0.out.size))
 have C1:=hd_ hb
 clear hb Hck Hb0
 go_wp2_with fail
 refine cm_ (Hze.out _ B1.out) ?_
 rintro e w2 ⟨rfl,hb⟩
 have B2:=hd_ (B1.out.trans (hb.mono B1.out.size))
 have C2:=hd_ (C1.out.trans (hb.mono C1.out.size))
 clear hb Hze B1 C1
 go_wp2_with fail
 refine cm_ (Hle.out _ B2.out) ?_
 rintro e w3a ⟨R,B,m,rfl,hg,hm,hB,hN,hb⟩
 have B3:=hd_ (B2.out.trans (hb.mono B2.out.size))
 have C3:=hd_ (C2.out.trans (hb.mono C2.out.size))
 have HG:=hd_ hg
 have HN:=hd_ hN
 clear hb Hle B2 C2 hg hN
 go_wp2_with fail
 refine cm_ (HEn.out _ B3.out R B m HG.out hm hB) ?_
 rintro e w3b ⟨rfl,hb⟩
 have B4:=hd_ (B3.out.trans (hb.mono B3.out.size))
 have C4:=hd_ (C3.out.trans (hb.mono C3.out.size))
 have HG4:=hd_ (HG.out.below hb)
 clear hb HEn B3 C3 HG
 go_wp2_with fail
 refine cm_ (HSg.out _ m) ?_
 rintro e w3 ⟨rfl,hb⟩
 have B5:=hd_ (B4.out.trans (hb.mono B4.out.size))
 have C5:=hd_ (C4.out.trans (hb.mono C4.out.size))
 have HG5:=hd_ (HG4.out.below hb)
 clear hb HSg B4 C4 HG4
 have hsg:sgE (loE m ps l) (hiE m ps l)=decE m ps l:=sgE_dec m ps l
 have Hsg:=hd_ hsg
 rw[hsg]
 clear hsg
 obtain⟨sg,hsgd⟩:∃ sg,decE m ps l=sg:=⟨_,rfl⟩
 have Hdc:Hid (sg=decE m ps l):=hsgd.symm
 rw[hsgd]
 clear hsgd
 have HI0:Hid (DcI w w3 (w3.alloc (.cells #[.int .i64 sg,.int .i64 m,.slice none 0 0] 51)) sg m 0 none 0 (bndL m (ps.take 0) (l.take 0))):=by
  have hr0:w3.heap[w.heap.size]?=some (.cells #[.int .i64 0,.int .i64 0,.slice none 0 0] 51 (0,0)):=by
   rw[C5.out.block _ (Array.getElem?_eq_some_iff.1 Hnew.out).1];exact Hnew.out
  refine⟨?_,heap_alloc_new w3 _,World.ownsRow_nil ..,(Below.refl _ _).alloc nr_ _,by simp⟩
  rw[((Below.refl w3.heap.size w3).alloc nr_ _).block _ (Array.getElem?_eq_some_iff.1 hr0).1];exact hr0
 have Hww:Hid (w.heap.size<w3.heap.size):=by
  have:=(Array.getElem?_eq_some_iff.1 Hnew.out).1
  have:=C5.out.size
  show _<_
  omega
 clear Hnew C5
 go_wp2_with fail
 go_loopw [43] (fun i wr=>∃ (k:Nat) (a:Option Addr) (c mm:Nat),k≤n∧i = .int .i64 k∧mm≤k∧Hid (mm=(bndL m (ps.take k) (l.take k)).length)∧Hid (DcI w w3 wr sg m mm a c (bndL m (ps.take k) (l.take k)))) (fun i _=>n-(intOf i).toNat)
 case atStart=>exact⟨0,none,0,0,Nat.zero_le _,rfl,Nat.le_refl _,rfl,HI0⟩
 case round =>
  obtain⟨k,a,c,mm,hk,rfl,hmm,Hmm,HI⟩:=hrel
  clear HI0
  by_cases hlt:k<n
  ·have hlt':(k:Int)<n:=by omega
   have hkp:k<ps.length:=by rw[Hn.out];exact hlt
   have hkl:k<l.length:=by rw[Hl.out,Hn.out];exact hlt
   have Bw:=hd_ (B5.out.trans (HI.out.bel.mono B5.out.size))
   obtain⟨b0,o0,rfl,hb0,hc0⟩:=HRp.out.open (by rw[ints_length];omega)
   have Hcp:Hid (∀ W,Below w.heap.size w W→W.cell? ⟨b0,o0+k,none⟩=some (.int .i64 ps[k])):=fun W hW=>by
    rw[hW.cell (p:=⟨b0,o0+k,none⟩) hb0];exact hc0 k _ (ints_get ps k hkp)
   obtain⟨b1,o1,rfl,hb1,hc1⟩:=HRl.out.open (by rw[cellsQ_length];omega)
   obtain⟨x0,x1⟩:=cellsS_rd hc1 k (by rw[List.length_map];exact hkl)
   rw[qs_getD l k hkl] at x0 x1
   rw[← Bw.out.cell (p:=⟨b1,o1+k*2,none⟩) hb1] at x0
   rw[← Bw.out.cell (p:=⟨b1,o1+k*2+1,none⟩) hb1] at x1
   have hkw:IntKind.i64.wrap ((k:Int)+1)=((k+1:Nat):Int):=by rw[← Int.natCast_succ];exact iw_ _ (by omega)
   have Hsg':=hd_ (fun W=>signR W l[k])
   have Hbt:=hd_ (bndL_take m ps l k hkp hkl)
   have HAt':=hd_ (fun W (hW:Below w3.heap.size w3 W) (hz:l[k].num≠0)=>HAt.out W (B5.out.trans (hW.mono B5.out.size)) R B m k (HG5.out.below hW) hkp hkl hz hm hB)
   clear hc0 hc1
   unfold fr fv at Hsg'
   unfold qs at x0 x1
   simp only at x0 x1
   generalize l[k]=q at *
   generalize ps[k]=pk at *
   have HIa:=hd_ (HI.out.below ((Below.refl _ _).alloc nr_ (.cells #[.string (itx q.num),.string (dec q.den)] 42)))
   have k8:=two_cells (heap_alloc_new wr (.cells #[.string (itx q.num),.string (dec q.den)] 42))
   by_cases hz:q.num=0
   ·have hbt:=Hbt.out
    rw[if_pos hz,List.append_nil] at hbt
    have Hbt2:=hd_ hbt
    rw[hz] at Hsg' x0 k8 HIa
    clear HAt' hbt Hbt hz
    go_wp2_with fail
    refine cm_ (Hsg'.out _) ?_
    rintro e w4 ⟨rfl,hb⟩
    have HI2:=hd_ (HIa.out.below hb)
    clear hb Hsg' k8 HIa HI
    go_wp2_with fail
    refine⟨⟨k+1,a,c,mm,by omega,by go_num,by omega,by rw[Hbt2.out];exact Hmm,by rw[Hbt2.out];exact HI2⟩,by simp[intOf];omega⟩
   ·have hsn:(q.num.sign != 0)=true:=by
     rw[bne_iff_ne]
     intro h
     exact hz (Int.sign_eq_zero_iff_zero.1 h)
    have hbt:=Hbt.out
    rw[if_neg hz] at hbt
    have Hbt2:=hd_ hbt
    have HAt2:=hd_ (fun W hW=>HAt'.out W hW hz)
    clear HAt' hbt Hbt hz
    go_wp2_with fail
    refine cm_ (Hsg'.out _) ?_
    rintro e w4 ⟨rfl,hb⟩
    have HI2:=hd_ (HIa.out.below hb)
    clear hb Hsg' k8 HIa HI x0 x1
    obtain⟨k0,k1,k2,-⟩:=three_cells HI2.out.ob
    have cp:=Hcp.out w4 (B5.out.trans (HI2.out.bel.mono B5.out.size))
    have q0:=NW.cell k2
    have q1:=NW.cell cp
    have hnon:Nonempty (NW w4):=⟨⟨w4,Below.refl _ _⟩⟩
    have I:Hid (Below w4.heap.size w4 w4.drew):=(Below.refl _ _).drew
    clear k0 k1 k2 cp
    go_wp2_with fail
    refine RP.wp_region_readers 13 [(2,0),(1,1),(2,2),(2,3),(2,4),(1,5),(2,6),(2,7),(2,8),(2,9),(0,10),(0,11),(0,12),(0,13),(2,14),(0,15)] (fun w'=>∃ p:NW w4,w'=p.w) (by kernel_rfl) (by kernel_rfl) ?_ ?_
    ·exact⟨⟨_,I.out⟩,rfl⟩
    iterate 1 (refine RP.walkR_any ?_;simp only[dz_,tsc_,tz_];go_big_quiet_step (fail);refine wpQuiet_nil ?_)
    iterate 1 (refine RP.walkR_read ?_;simp only[dsc_,dz_,tsc_,tz_];go_big_quiet_step (fail);refine wpQuiet_nil ?_)
    iterate 3 (refine RP.walkR_any ?_;simp only[dsc_,dz_,tsc_,tz_];go_big_quiet_step (fail);refine wpQuiet_nil ?_)
    iterate 1 (refine RP.walkR_read ?_;simp only[dsc_,dz_,tsc_,tz_];go_big_quiet_step (fail);refine wpQuiet_nil ?_)
    iterate 4 (refine RP.walkR_any ?_;simp only[dsc_,dz_,tsc_,tz_];go_big_quiet_step (fail);refine wpQuiet_nil ?_)
    clear hnon q0 q1
    refine RP.walkR_move ?_
    simp only[dsc_,dz_,tsc_,tz_]
    go_wp2_with fail
    refine cm_ (HAt2.out _ (HI2.out.bel.trans (I.out.mono HI2.out.bel.size))) ?_
    rintro e x1 ⟨rfl,hb⟩
    have I1:Hid (Below w4.heap.size w4 x1):=I.out.trans (hb.mono I.out.size)
    clear hb I HAt2
    go_wp2_with fail
    refine⟨⟨⟨_,I1.out⟩,rfl⟩,?_⟩
    refine RP.walkR_move ?_
    simp only[dsc_,dz_,tsc_,tz_]
    go_wp2_with fail
    refine⟨⟨⟨_,I1.out⟩,rfl⟩,?_⟩
    refine RP.walkR_move ?_
    simp only[dsc_,dz_,tsc_,tz_]
    go_wp2_with fail
    refine⟨⟨⟨_,I1.out.alloc I1.out.size _⟩,rfl⟩,?_⟩
    have HI3:=hd_ (HI2.out.below I1.out)
    have Hsz:=hd_ HI3.out.sz
    refine RP.walkR_move ?_
    simp only[dsc_,dz_,tsc_,tz_]
    go_wp2_with (at_builtin;refine wpList_append_new rfl (.tmp 52) (.tmp 63) 49 rfl elBd _ 1 [.int .i64 pk,.int .i64 m,.string (dec (lgN pk m))] rfl rfl HI3.out.own Hsz.out rfl (by simp[Value.oneCell']) (by omega) (by omega) ?_)
    intro v' w5 hown hgrow hnil
    obtain⟨a3,d3,rfl⟩:=own_form hown
    obtain⟨⟨v2,hv2⟩,hf2,hI5⟩:=HI3.out.push (x:=(pk,(m:Int),dec (lgN pk m))) Hww.out rfl hgrow hown
    rw[← Hbt2.out] at hI5
    have HI5:=hd_ hI5
    have Hmm5:Hid (mm+1=(bndL m (ps.take (k+1)) (l.take (k+1))).length):=by
     show _=_
     rw[Hbt2.out,List.length_append,← Hmm.out];rfl
    clear hown hgrow hnil hI5 HI3 I1
    go_wp2_with fail
    iterate 1 (refine RP.walkR_any ?_;simp only[dsc_,dz_,tsc_,tz_];go_big_quiet_step (fail);refine wpQuiet_nil ?_)
    refine RP.walkR_move ?_
    simp only[dsc_,dz_,tsc_,tz_]
    go_wp2_with fail
    simp only[RP.walkR]
    go_wp2_with fail
    refine⟨⟨k+1,a3,d3,mm+1,by omega,by go_num,by omega,Hmm5,HI5⟩,by simp[intOf];omega⟩
  ·obtain rfl:k=n:=by omega
   have hlt':¬ (k:Int)<k:=by omega
   have htk:bndL m (ps.take k) (l.take k)=bndL m ps l:=by
    rw[← Hn.out,List.take_length,List.take_of_length_le (by rw[Hl.out,Hn.out];omega)]
   have Htk:=hd_ htk
   obtain⟨k0,k1,k2,-⟩:=three_cells HI.out.ob
   obtain⟨r0,r1,r2,rf⟩:=three_cells HI.out.res
   have f0:=rf 0
   have f1:=rf 1
   have f2:=rf 2
   have Bw:=hd_ (B5.out.trans (HI.out.bel.mono B5.out.size))
   have HRd:Hid (Rd (((wr.setCell ⟨w.heap.size,0,none⟩ (.int .i64 sg)).setCell ⟨w.heap.size,1,none⟩ (.int .i64 m)).setCell ⟨w.heap.size,2,none⟩ (.slice a mm c)) a (cellsB (bndL m ps l))):=by
    have:=HI.out.own
    rw[htk] at this
    have hlt3:w.heap.size<w3.heap.size+1:=Nat.lt_succ_of_lt Hww.out
    exact own_rd3 (ownsRow_setCell_below (ownsRow_setCell_below (ownsRow_setCell_below this (a:=⟨w.heap.size,0,none⟩) hlt3 _) (a:=⟨w.heap.size,1,none⟩) hlt3 _) (a:=⟨w.heap.size,2,none⟩) hlt3 _)
   rw[htk] at Hmm
   clear htk rf HAt
   go_wp2
   obtain⟨z0,z1,z2,hb3⟩:=three_stored (.int .i64 sg) (.int .i64 m) (.slice a mm c) r0 r1 r2 nr_ Bw.out
   generalize ((wr.setCell ⟨w.heap.size,0,none⟩ (.int .i64 sg)).setCell ⟨w.heap.size,1,none⟩ (.int .i64 m)).setCell ⟨w.heap.size,2,none⟩ (.slice a mm c)=w9 at *
   exact bodyPost_ret (v := .tuple #[.agg #[.int .i64 sg,.int .i64 m,.slice a mm c],.int .i64 0]) (by simp[results,Tryz.results26,go_sem,z0,z1,z2]) rfl ⟨m,a,c,by rw[← Hmm.out,← (show sg=decE m ps l from Hdc.out)];rfl,HN.out,HRd.out,hb3⟩
structure TwoE (w W:World):Prop where
 e0:W.heap[w.heap.size]?=some (.cells #[.string ⟨#[]⟩,.string ⟨#[]⟩] 42 (0,0))
 e1:W.heap[w.heap.size+1]?=some (.cells #[.string ⟨#[]⟩,.string ⟨#[]⟩] 42 (0,0))
 bel:Below w.heap.size w W
theorem TwoE.mk'(w:World):TwoE w ((w.alloc (.cells #[.string ⟨#[]⟩,.string ⟨#[]⟩] 42)).alloc (.cells #[.string ⟨#[]⟩,.string ⟨#[]⟩] 42)):=by
 have h1:=heap_alloc_new w (.cells #[.string ⟨#[]⟩,.string ⟨#[]⟩] 42)
 have h2:=heap_alloc_new (w.alloc (.cells #[.string ⟨#[]⟩,.string ⟨#[]⟩] 42)) (.cells #[.string ⟨#[]⟩,.string ⟨#[]⟩] 42)
 refine⟨?_,?_,((Below.refl _ _).alloc nr_ _).alloc (by simp) _⟩
 ·rw[((Below.refl (w.alloc (.cells #[.string ⟨#[]⟩,.string ⟨#[]⟩] 42)).heap.size _).alloc nr_ _).block _ (Array.getElem?_eq_some_iff.1 h1).1];exact h1
 ·have e:(w.alloc (.cells #[.string ⟨#[]⟩,.string ⟨#[]⟩] 42)).heap.size=w.heap.size+1:=by simp
  rw[e] at h2;exact h2
theorem TwoE.below{w W W':World}(h:TwoE w W)(hb:Below W.heap.size W W'):TwoE w W' :=
 ⟨by rw[hb.block _ (Array.getElem?_eq_some_iff.1 h.e0).1];exact h.e0,by rw[hb.block _ (Array.getElem?_eq_some_iff.1 h.e1).1];exact h.e1,h.bel.trans (hb.mono h.bel.size)⟩
theorem four_stored{w W:World}(h:TwoE w W)(x y z u:Value):∃ w9,(((W.setCell ⟨w.heap.size,0,none⟩ x).setCell ⟨w.heap.size,1,none⟩ y).setCell ⟨w.heap.size+1,0,none⟩ z).setCell ⟨w.heap.size+1,1,none⟩ u=w9 ∧
  w9.heap[w.heap.size]?=some (.cells #[x,y] 42 (0,0))∧w9.heap[w.heap.size+1]?=some (.cells #[z,u] 42 (0,0))∧Below w.heap.size w w9:=by
 have h1:=two_set (x':=x) (y':=y) h.e0
 have e1:((W.setCell ⟨w.heap.size,0,none⟩ x).setCell ⟨w.heap.size,1,none⟩ y).heap[w.heap.size+1]?=some (.cells #[.string ⟨#[]⟩,.string ⟨#[]⟩] 42 (0,0)):=by
  rw[Below.heap_setCell _ _ _ _ (by show w.heap.size+1≠w.heap.size;omega),Below.heap_setCell _ _ _ _ (by show w.heap.size+1≠w.heap.size;omega)]
  exact h.e1
 refine⟨_,rfl,?_,two_set e1,(((h.bel.setCell (p:=⟨w.heap.size,0,none⟩) nr_ _).setCell (p:=⟨w.heap.size,1,none⟩) nr_ _).setCell (p:=⟨w.heap.size+1,0,none⟩) (Nat.le_succ _) _).setCell (p:=⟨w.heap.size+1,1,none⟩) (Nat.le_succ _) _⟩
 rw[Below.heap_setCell _ _ _ _ (by show w.heap.size≠w.heap.size+1;omega),Below.heap_setCell _ _ _ _ (by show w.heap.size≠w.heap.size+1;omega)]
 exact h1
theorem enclose_ok(w:World)(a0 a1:Option Addr)(c0 c1 D b:Nat)(ps:List Int)(l:List Rat)(rp:Rd w a0 (ints ps))(rl:Rd w a1 (cellsQ l))(hi:I64s ps)(hl:l.length=ps.length)(hn:ps.length≤100)(hp:∀ p∈ps,∃ q:Nat,p=q∧(q=2∨q∈oddP))(hs:∀ q∈l,Sm D q)(hD:D≤30)
  (hp0:pcode ps=0) (hb:b≤1000) (L:Laid w) :
  Gives Tryz.prog 23 #[.slice a0 ps.length c0,.slice a1 ps.length c1,.int .i64 b] w (.tuple #[fr (loE b ps l),fr (hiE b ps l),.int .i64 0]):=by
 unfold Gives
 have HE:=hd_ (TwoE.mk' w)
 have Hck:=hd_ (check_sm _ a0 a1 c0 c1 ps l (rp.below HE.out.bel nr_) (rl.below HE.out.bel nr_) hi hl hn (fun q hq=>(hs q hq).le hD) hp0 (L.below HE.out.bel))
 have HOp:=hd_ (fun W (hW:Below w.heap.size w W)=>open_any14 W ps l b a0 a1 c0 c1 (rp.below hW nr_) (rl.below hW nr_) hl hn hp hb (L.below hW))
 have HEn:=hd_ (fun W (hW:Below w.heap.size w W) R (H:LgAt W R ps l b)=>ends_any14 W R ps l b b D H hl hn hp hs (by omega) nr_ hb (L.below hW))
 clear rp rl hs hp hp0 L hi hl
 generalize loE b ps l=lo at *
 generalize hiE b ps l=hi at *
 unfold fr fv at HEn ⊢
 generalize ps.length=n at *
 go_enter Tryz.func23,Tryz.ntmps23
 go_wp2_with fail
 generalize (w.alloc (.cells #[.string ⟨#[]⟩,.string ⟨#[]⟩] 42)).alloc (.cells #[.string ⟨#[]⟩,.string ⟨#[]⟩] 42)=W0 at *
 refine cm_ Hck.out ?_
 rintro e w1 ⟨rfl,hbx⟩
 have HE1:=hd_ (HE.out.below hbx)
 clear hbx Hck HE
 go_wp2_with fail
 refine cm_ (HOp.out _ HE1.out.bel) ?_
 rintro e w2 ⟨R,rfl,hg,hR,hbx⟩
 have HE2:=hd_ (HE1.out.below hbx)
 have HG:=hd_ hg
 clear hbx hg hR HOp HE1
 go_wp2_with fail
 refine cm_ (HEn.out _ HE2.out.bel R HG.out) ?_
 rintro e w3 ⟨rfl,hbx⟩
 have HE3:=hd_ (HE2.out.below hbx)
 clear hbx HG HEn HE2
 obtain⟨k0,k1,f0,f1⟩:=two_cells HE3.out.e0
 obtain⟨k2,k3,f2,f3⟩:=two_cells HE3.out.e1
 go_wp2_with fail
 obtain⟨w9,hw9,h0,h1,hb9⟩:=four_stored HE3.out (.string (itx lo.num)) (.string (dec lo.den)) (.string (itx hi.num)) (.string (dec hi.den))
 rw[hw9]
 have HI:Hid (EnI w w9 lo hi):=⟨h0,h1,hb9⟩
 clear hw9 h0 h1 hb9 k0 k1 k2 k3 f0 f1 f2 f3 HE3
 have hcl:∀ p:EnW w lo hi,p.w.cell? ⟨w.heap.size,0,none⟩=some (.string (itx lo.num)):=fun p=>p.cells.1
 have hcl1:∀ p:EnW w lo hi,p.w.cell? ⟨w.heap.size,1,none⟩=some (.string (dec lo.den)):=fun p=>p.cells.2.1
 have hcl2:∀ p:EnW w lo hi,p.w.cell? ⟨w.heap.size+1,0,none⟩=some (.string (itx hi.num)):=fun p=>p.cells.2.2.1
 have hcl3:∀ p:EnW w lo hi,p.w.cell? ⟨w.heap.size+1,1,none⟩=some (.string (dec hi.den)):=fun p=>p.cells.2.2.2
 have hnon:Nonempty (EnW w lo hi):=⟨⟨_,HI.out⟩⟩
 have HEd:=hd_ (HI.out.below (below_drawn w9 1))
 refine RP.wp_region_readers 3 [(1,0),(1,1),(0,2),(0,3),(2,4)] (fun w'=>∃ p:EnW w lo hi,w'=p.w) (by kernel_rfl) (by kernel_rfl) ?_ ?_
 ·exact⟨⟨_,HEd.out⟩,rfl⟩
 iterate 2 (refine RP.walkR_read ?_;simp only[dsc_,dz_,tsc_,tz_];go_big_quiet_step (fail);refine wpQuiet_nil ?_)
 clear hnon hcl hcl1 hcl2 hcl3
 obtain⟨k0,k1,f0,f1⟩:=two_cells HI.out.e0
 have HE1:=hd_ (HEd.out.put0 lo)
 refine RP.walkR_move ?_
 simp only[dsc_,dz_,tsc_,tz_]
 go_wp2_with fail
 refine⟨⟨⟨_,HE1.out⟩,rfl⟩,?_⟩
 have HE2:Hid (EnI w ((w9.setCell ⟨w.heap.size,0,none⟩ (.string (itx lo.num))).setCell ⟨w.heap.size,1,none⟩ (.string (dec lo.den))).drew lo hi):=HE1.out
 clear k0 k1 f0 f1 HE1 HEd HI
 generalize ((w9.setCell ⟨w.heap.size,0,none⟩ (.string (itx lo.num))).setCell ⟨w.heap.size,1,none⟩ (.string (dec lo.den))).drew=wz at *
 obtain⟨k2,k3,f2,f3⟩:=two_cells HE2.out.e1
 have HE3:=hd_ (HE2.out.put1 hi)
 refine RP.walkR_move ?_
 simp only[dsc_,dz_,tsc_,tz_]
 go_wp2_with fail
 iterate 1 (refine RP.walkR_any ?_;simp only[dsc_,dz_,tsc_,tz_];go_big_quiet_step (fail);refine wpQuiet_nil ?_)
 simp only[RP.walkR]
 generalize (wz.setCell ⟨w.heap.size+1,0,none⟩ (.string (itx hi.num))).setCell ⟨w.heap.size+1,1,none⟩ (.string (dec hi.den))=wy at *
 clear k2 k3 f2 f3 HE2
 obtain⟨z0,z1,-,-⟩:=two_cells HE3.out.e0
 obtain⟨z2,z3,-,-⟩:=two_cells HE3.out.e1
 go_wp2_with fail
 exact bodyPost_ret (v := .tuple #[.agg #[.string (itx lo.num),.string (dec lo.den)],.agg #[.string (itx hi.num),.string (dec hi.den)],.int .i64 0]) (by simp[results,Tryz.results23,go_sem,z0,z1,z2,z3]) rfl ⟨rfl,HE3.out.bel⟩
def scE (k:Nat) (x:Rat):Int:=nearR (x*((1200*10^k:Nat):Rat))
theorem sc_nat(N:Nat):((N:Nat):Rat).num=N∧((N:Nat):Rat).den=1:=⟨Rat.num_natCast N,Rat.den_natCast N⟩
theorem scaled_ok(w:World)(x:Rat)(D k:Nat)(hx:Sm D x)(hD:D≤900000)(hk:k≤9)(L:Laid w):
  Gives Tryz.prog 154 #[fr x,.int .i64 k] w (.string (itx (scE k x))):=by
 unfold Gives
 obtain⟨N,hN⟩:∃ N,1200*10^k=N:=⟨_,rfl⟩
 have hNb:N≤1200000000000:=by
  rw[← hN]
  exact Nat.le_trans (Nat.mul_le_mul_left 1200 (Nat.pow_le_pow_right (show 0<10 by decide) hk)) (by decide)
 have hNs:Sm 13 ((N:Nat):Rat):=by
  obtain⟨h1,h2⟩:=sc_nat N
  refine⟨by rw[h1,Int.natAbs_natCast];exact Nat.lt_of_le_of_lt hNb (by decide),by rw[h2];decide⟩
 have Hb0:=hd_ ((Below.refl w.heap.size w).alloc nr_ (.cells #[.string (itx x.num),.string (dec x.den)] 42))
 have F:=hd_ (FrAt.new w x)
 have Hof:=hd_ (fun W (hW:Below w.heap.size w W)=>show Gives Tryz.prog 73 #[.int .i64 N] W (.string (dec N)) from by
  have:=ofz_any W N (by omega) (by omega) (L.below hW)
  rw[itx_nat] at this;exact this)
 have Hmu:=hd_ (fun W (hW:Below w.heap.size w W)=>mulR W x ((N:Nat):Rat) D 13 hx hNs (by omega) (L.below hW))
 have Hne:=hd_ (fun W (hW:Below w.heap.size w W)=>nearR_ok W (x*((N:Nat):Rat)) (D+13) (hx.mul hNs) (by omega) (L.below hW))
 have hv:scE k x=nearR (x*((N:Nat):Rat)):=by unfold scE;rw[hN]
 rw[hv]
 have hfr:fr ((N:Nat):Rat) = .agg #[.string (dec N),.string ⟨#[49]⟩]:=by
  obtain⟨h1,h2⟩:=sc_nat N
  unfold fr fv
  rw[h1,h2,itx_nat,dec_one]
 rw[hfr] at Hmu
 have HN:Hid (∀ j,j≤k→1200*10^j≤N):=fun j hj=>by rw[← hN];exact Nat.mul_le_mul_left _ (Nat.pow_le_pow_right (by decide) hj)
 have HNk:=hd_ hN
 clear L hx hN hv hfr hNs
 generalize nearR (x*((N:Nat):Rat))=res at *
 generalize x*((N:Nat):Rat)=y at *
 unfold fr fv at Hmu Hne ⊢
 go_enter Tryz.func154,Tryz.ntmps154
 go_wp2_with fail
 generalize hW0:w.alloc (.cells #[.string (itx x.num),.string (dec x.den)] 42)=W0 at *
 go_loopw [5,7] (fun b i wr=>∃ (j M:Nat),j≤k∧M≤1200000000000∧b = .int .i64 M∧i = .int .i64 j∧Hid (M=1200*10^j)∧Hid (wr=W0)) (fun _ i _=>k-(intOf i).toNat)
 case atStart=>exact⟨0,1200,Nat.zero_le _,by decide,rfl,rfl,rfl,rfl⟩
 case round =>
  obtain⟨j,M,hj,hM,rfl,rfl,HM,hwr⟩:=hrel
  have hwr':=hwr.out
  subst hwr'
  clear hwr
  by_cases hlt:j<k
  ·have hlt':(j:Int)<k:=by omega
   have hp10:1200*10^(j+1)=M*10:=by rw[HM.out,Nat.pow_succ,Nat.mul_assoc]
   have hM2:M*10≤1200000000000:=by rw[← hp10];exact Nat.le_trans (HN.out (j+1) hlt) hNb
   have hw:IntKind.i64.wrap ((M:Int)*10)=((M*10:Nat):Int):=by rw[show (M:Int)*10=((M*10:Nat):Int) by omega];exact iw_ _ (by omega)
   have hjw:IntKind.i64.wrap ((j:Int)+1)=((j+1:Nat):Int):=by rw[← Int.natCast_succ];exact iw_ _ (by omega)
   have HM2:Hid (M*10=1200*10^(j+1)):=hp10.symm
   clear hp10
   go_wp2_with fail
   refine⟨⟨j+1,M*10,by omega,hM2,by go_num,by go_num,HM2,trivial⟩,by simp[intOf];omega⟩
  ·obtain rfl:j=k:=by omega
   have hlt':¬ (j:Int)<j:=by omega
   have hMN:M=N:=by rw[HM.out];exact HNk.out
   subst hMN
   obtain⟨k0,k1,-,-⟩:=two_cells F.out
   have q0:=NW.cell k0
   have q1:=NW.cell k1
   have hnon:Nonempty (NW wr):=⟨⟨wr,Below.refl _ _⟩⟩
   have I:Hid (Below wr.heap.size wr wr.drew):=(Below.refl _ _).drew
   clear HM HN HNk k0 k1
   go_wp2_with fail
   refine RP.wp_region_readers 5 [(1,0),(2,1),(0,2),(0,3),(0,4),(0,5),(2,6)] (fun w'=>∃ p:NW wr,w'=p.w) (by kernel_rfl) (by kernel_rfl) ?_ ?_
   ·exact⟨⟨_,I.out⟩,rfl⟩
   iterate 1 (refine RP.walkR_read ?_;simp only[dz_,tsc_,tz_];go_big_quiet_step (fail);refine wpQuiet_nil ?_)
   iterate 1 (refine RP.walkR_any ?_;simp only[dsc_,dz_,tsc_,tz_];go_big_quiet_step (fail);refine wpQuiet_nil ?_)
   clear hnon q0 q1
   refine RP.walkR_move ?_
   simp only[dsc_,dz_,tsc_,tz_]
   go_wp2_with fail
   refine cm_ (Hof.out _ (Hb0.out.trans (I.out.mono Hb0.out.size))) ?_
   rintro e w1 ⟨rfl,hb⟩
   have I1:Hid (Below wr.heap.size wr w1):=I.out.trans (hb.mono I.out.size)
   clear hb I Hof
   go_wp2_with fail
   refine⟨⟨⟨_,I1.out⟩,rfl⟩,?_⟩
   refine RP.walkR_move ?_
   simp only[dsc_,dz_,tsc_,tz_]
   go_wp2_with fail
   refine⟨⟨⟨_,I1.out⟩,rfl⟩,?_⟩
   refine RP.walkR_move ?_
   simp only[dsc_,dz_,tsc_,tz_]
   go_wp2_with fail
   refine cm_ (Hmu.out _ (Hb0.out.trans (I1.out.mono Hb0.out.size))) ?_
   rintro e w2 ⟨rfl,hb⟩
   have I2:Hid (Below wr.heap.size wr w2):=I1.out.trans (hb.mono I1.out.size)
   clear hb I1 Hmu
   go_wp2_with fail
   refine⟨⟨⟨_,I2.out⟩,rfl⟩,?_⟩
   refine RP.walkR_move ?_
   simp only[dsc_,dz_,tsc_,tz_]
   go_wp2_with fail
   refine cm_ (Hne.out _ (Hb0.out.trans (I2.out.mono Hb0.out.size))) ?_
   rintro e w3 ⟨rfl,hb⟩
   have I3:Hid (Below w.heap.size w w3):=Hb0.out.trans ((I2.out.trans (hb.mono I2.out.size)).mono Hb0.out.size)
   clear hb I2 Hne
   go_wp2_with fail
   iterate 1 (refine RP.walkR_any ?_;simp only[dsc_,dz_,tsc_,tz_];go_big_quiet_step (fail);refine wpQuiet_nil ?_)
   simp only[RP.walkR]
   go_wp2_with fail
   go_ret
   exact⟨rfl,I3.out⟩
def sameC (k:Nat) (a b:Rat):Bool:=(itx (scE k a)).toList==(itx (scE k b)).toList
theorem certain1_ok(w:World)(a b:Rat)(D k g:Nat)(ha:Sm D a)(hb:Sm D b)(hD:D≤900000)(hk:k≤9)(hg:w.cell? ⟨g,0,none⟩=some (.int .i64 k))(L:Laid w):
  Gives Tryz.prog 153 #[fr a,fr b,.pointer (some ⟨g,0,none⟩)] w (.bool (sameC k a b)):=by
 have H3:=hd_ (TwoF.mk' w (itx a.num) (dec a.den) (itx b.num) (dec b.den))
 have Ha:=hd_ (fun W (hW:Below w.heap.size w W)=>scaled_ok W a D k ha hD hk (L.below hW))
 have Hb:=hd_ (fun W (hW:Below w.heap.size w W)=>scaled_ok W b D k hb hD hk (L.below hW))
 have Hv:Hid (sameC k a b=((itx (scE k a)).toList==(itx (scE k b)).toList)):=rfl
 have hgs:=block_lt_of_cell hg
 have Hg:=hd_ hg
 clear ha hb hD L hg
 generalize sameC k a b=v at *
 generalize itx (scE k a)=sa at *
 generalize itx (scE k b)=sb at *
 unfold Gives
 unfold fr fv at Ha Hb ⊢
 go_enter Tryz.func153,Tryz.ntmps153
 go_wp2_with fail
 generalize (w.alloc (.cells #[.string (itx a.num),.string (dec a.den)] 42)).alloc (.cells #[.string (itx b.num),.string (dec b.den)] 42)=W0 at *
 have hg0:W0.cell? ⟨g,0,none⟩=some (.int .i64 k):=(H3.out.bel.cell (p:=⟨g,0,none⟩) hgs).trans Hg.out
 obtain⟨k0,k1,-,-⟩:=two_cells H3.out.fa
 obtain⟨k2,k3,-,-⟩:=two_cells H3.out.fb
 have q0:=NW.cell k0
 have q1:=NW.cell k1
 have q2:=NW.cell k2
 have q3:=NW.cell k3
 have q4:=NW.cell hg0
 have hnon:Nonempty (NW W0):=⟨⟨W0,Below.refl _ _⟩⟩
 have I:Hid (Below W0.heap.size W0 W0.drew):=(Below.refl _ _).drew
 clear k0 k1 k2 k3 hg0
 refine RP.wp_region_readers 5 [(1,0),(1,1),(1,3),(1,4),(0,2),(0,5),(2,6),(2,7)] (fun w'=>∃ p:NW W0,w'=p.w) (by kernel_rfl) (by kernel_rfl) ?_ ?_
 ·exact⟨⟨_,I.out⟩,rfl⟩
 iterate 4 (refine RP.walkR_read ?_;simp only[dsc_,dz_,tsc_,tz_];go_big_quiet_step (fail);refine wpQuiet_nil ?_)
 clear hnon q0 q1 q2 q3 q4
 refine RP.walkR_move ?_
 simp only[dsc_,dz_,tsc_,tz_]
 go_wp2_with fail
 refine cm_ (Ha.out _ (H3.out.bel.trans (I.out.mono H3.out.bel.size))) ?_
 rintro e w1 ⟨rfl,hbx⟩
 have I1:Hid (Below W0.heap.size W0 w1):=I.out.trans (hbx.mono I.out.size)
 clear hbx I Ha
 go_wp2_with fail
 refine⟨⟨⟨_,I1.out⟩,rfl⟩,?_⟩
 refine RP.walkR_move ?_
 simp only[dsc_,dz_,tsc_,tz_]
 go_wp2_with fail
 refine cm_ (Hb.out _ (H3.out.bel.trans (I1.out.mono H3.out.bel.size))) ?_
 rintro e w2 ⟨rfl,hbx⟩
 have I2:Hid (Below w.heap.size w w2):=H3.out.bel.trans ((I1.out.trans (hbx.mono I1.out.size)).mono H3.out.bel.size)
 clear hbx I1 Hb
 go_wp2_with fail
 iterate 2 (refine RP.walkR_any ?_;simp only[dsc_,dz_,tsc_,tz_];go_big_quiet_step (fail);refine wpQuiet_nil ?_)
 simp only[RP.walkR]
 go_wp2_with fail
 go_ret
 exact⟨by rw[Hv.out];rfl,I2.out⟩
def CerP (w w':World) (ps:List Int) (l:List Rat) (k:Nat) (e:Ending):Prop :=
 ∃ n:Nat,e = .returned (.tuple #[.int .i64 n,.string (itx (scE k (loE n ps l))),.int .i64 0])∧LeastN (fun b=>sameC k (loE b ps l) (hiE b ps l)) n∧Below w.heap.size w w'
theorem certain_ok(w:World)(a0 a1:Option Addr)(c0 c1 D k:Nat)(ps:List Int)(l:List Rat)(rp:Rd w a0 (ints ps))(rl:Rd w a1 (cellsQ l))(hi:I64s ps)(hl:l.length=ps.length)(hn:ps.length≤100)(hp:∀ p∈ps,∃ q:Nat,p=q∧(q=2∨q∈oddP))(hs:∀ q∈l,Sm D q)(hD:D≤30)
  (hp0:pcode ps=0) (hk:k≤9) (hend:sameC k (loE 1000 ps l) (hiE 1000 ps l)=true) (L:Laid w) :
  Calls Tryz.prog 81 #[.slice a0 ps.length c0,.slice a1 ps.length c1,.int .i64 k] w fun e w'=>CerP w w' ps l k e:=by
 have B0:=hd_ ((Below.refl w.heap.size w).alloc nr_ (.cells #[.int .i64 k] 3))
 have N0:Hid ((w.alloc (.cells #[.int .i64 k] 3)).cell? ⟨w.heap.size,0,none⟩=some (.int .i64 k)):=cell_of_row _ _ 0 _ 3 (0,0) (heap_alloc_new w _)
 have Hck:=hd_ (check_sm _ a0 a1 c0 c1 ps l (rp.below B0.out nr_) (rl.below B0.out nr_) hi hl hn (fun q hq=>(hs q hq).le hD) hp0 (L.below B0.out))
 have hsm:∀ b,b≤1000→Sm 100000 (loE b ps l)∧Sm 100000 (hiE b ps l):=fun b hb=>by
  have h:=ends_sm (show b≤1056 by omega) hp hl hs ps.length nr_
  rw[List.take_length,List.take_of_length_le (by omega)] at h
  have hb2:1+ps.length*(D+356)≤100000:=by
   have:ps.length*(D+356)≤100*386:=Nat.mul_le_mul hn (by omega)
   omega
  exact⟨h.1.le hb2,h.2.le hb2⟩
 have Hle:=hd_ (fun W (hW:Below w.heap.size w W) (hc:W.cell? ⟨w.heap.size,0,none⟩=some (.int .i64 k))=>least_any W ps l a0 a1 c0 c1 D (rp.below hW nr_) (rl.below hW nr_) hl hn hp hs (by omega) 153 #[.pointer (some ⟨w.heap.size,0,none⟩)] (enter_of Tryz.func153 (by kernel_rfl) rfl) (fun b=>sameC k (loE b ps l) (hiE b ps l)) (fun W' hW' b hb =>
  certain1_ok W' (loE b ps l) (hiE b ps l) 100000 k w.heap.size (hsm b hb).1 (hsm b hb).2 (by decide) hk ((hW'.cell (block_lt_of_cell hc)).trans hc) (L.below (hW.trans (hW'.mono hW.size)))) hend (L.below hW))
 have HEn:=hd_ (fun W (hW:Below w.heap.size w W) R B b (H:LgAt W R ps l B) (hb:b≤B) (hB:B≤1000)=>ends_any14 W R ps l B b D H hl hn hp hs (by omega) hb hB (L.below hW))
 have HSc:=hd_ (fun W (hW:Below w.heap.size w W) b (hb:b≤1000)=>scaled_ok W (loE b ps l) 100000 k (hsm b hb).1 (by decide) hk (L.below hW))
 clear rp rl hs hp hp0 L hi hend hsm
 unfold fr fv at HEn HSc
 obtain⟨n,hnn⟩:∃ n,ps.length=n:=⟨_,rfl⟩
 rw[hnn] at hn Hck Hle ⊢
 clear hnn hl
 go_enter Tryz.func81,Tryz.ntmps81
 go_wp2_with fail
 generalize w.alloc (.cells #[.int .i64 k] 3)=W0 at *
 refine cm_ Hck.out ?_
 rintro e w1 ⟨rfl,hb⟩
 have B1:=hd_ (B0.out.trans (hb.mono B0.out.size))
 have cc1:=(hb.cell (block_lt_of_cell N0.out)).trans N0.out
 have N1:=hd_ cc1
 have hk0:¬ ((k:Int)<0):=by omega
 have hk9:¬ (9<(k:Int)):=by omega
 clear hb Hck N0 B0
 go_wp2_with fail
 refine cm_ (Hle.out _ B1.out N1.out) ?_
 rintro e w2 ⟨R,B,m,rfl,hg,hm,hB,hN,hb⟩
 have B2:=hd_ (B1.out.trans (hb.mono B1.out.size))
 have cc2:=(hb.cell (block_lt_of_cell N1.out)).trans N1.out
 have N2:=hd_ cc2
 have HG:=hd_ hg
 have HN:=hd_ hN
 clear hb Hle B1 hg hN cc1 N1 cc2
 go_wp2_with fail
 refine cm_ (HEn.out _ B2.out R B m HG.out hm hB) ?_
 rintro e w3 ⟨rfl,hb⟩
 have B3:=hd_ (B2.out.trans (hb.mono B2.out.size))
 have cc3:=(hb.cell (block_lt_of_cell N2.out)).trans N2.out
 have N3:=hd_ cc3
 have cz:=Lib.cell?_alloc_some (.cells #[.string (itx (hiE m ps l).num),.string (dec (hiE m ps l).den)] 42) (Lib.cell?_alloc_some (.cells #[.string (itx (loE m ps l).num),.string (dec (loE m ps l).den)] 42) cc3)
 have B4:=hd_ ((B3.out.alloc B3.out.size (.cells #[.string (itx (loE m ps l).num),.string (dec (loE m ps l).den)] 42)).alloc (Nat.le_trans B3.out.size (by simp)) (.cells #[.string (itx (hiE m ps l).num),.string (dec (hiE m ps l).den)] 42))
 clear hb HEn B2 HG N2 cc3
 go_wp2_with fail
 refine cm_ (HSc.out _ B4.out m (by omega)) ?_
 rintro e w4 ⟨rfl,hb⟩
 have B5:=hd_ (B4.out.trans (hb.mono B4.out.size))
 clear hb HSc B4 B3 N3 cz
 go_wp2_with fail
 go_ret3
 exact⟨m,rfl,HN.out,B5.out⟩
theorem narrow_any(w:World)(a1 a2:Option Addr)(c1 c2 n1 n2:Nat)(v k:Int){Q:Int→ByteArray→Prop}(hc:Calls Tryz.prog 81 #[.slice a1 n1 c1,.slice a2 n2 c2,.int .i64 k] w fun e w'=>∃ m s,e = .returned (.tuple #[.int .i64 m,.string s,.int .i64 v])∧Q m s∧Below w.heap.size w w'):
  Calls Tryz.prog 25 #[.slice a1 n1 c1,.slice a2 n2 c2,.int .i64 k] w fun e w'=>∃ m s,e = .returned (.tuple #[.int .i64 m,.int .i64 v])∧Q m s∧Below w.heap.size w w':=by
 have HC:=hd_ hc
 clear hc
 go_enter Tryz.func25,Tryz.ntmps25
 go_wp2_with fail
 refine cm_ HC.out ?_
 rintro e w1 ⟨m,s,rfl,hq,hb⟩
 have B1:=hd_ hb
 have HQ:=hd_ hq
 clear hb HC hq
 go_wp2_with fail
 go_ret2
 exact⟨m,s,rfl,HQ.out,B1.out⟩
theorem cents_big(w:World)(a1 a2:Option Addr)(c1 c2 n1 n2 k N:Nat)(hN:0<N)(hk:0<k)(hk9:k≤9)(hs:k<(dec N).size)(hs2:(dec N).size≤1000000)(hc:Calls Tryz.prog 81 #[.slice a1 n1 c1,.slice a2 n2 c2,.int .i64 k] w fun e w'=>(∃ m:Int,e = .returned (.tuple #[.int .i64 m,.string (dec N),.int .i64 0]))∧Below w.heap.size w w'):
  Gives Tryz.prog 24 #[.slice a1 n1 c1,.slice a2 n2 c2,.int .i64 k] w (.tuple #[.string ((dec N).extract 0 ((dec N).size-k)++⟨#[46]⟩++(dec N).extract ((dec N).size-k) (dec N).size),.int .i64 0]):=by
 unfold Gives
 have HC:=hd_ hc
 have HA:=hd_ (fun W=>show Gives Tryz.prog 82 #[.string (dec N)] W (.string (dec N)) from by
  have:=abs_any W (N:Int)
  rw[itx_nat,Int.natAbs_natCast] at this;exact this)
 have HS:=hd_ (fun W=>show Gives Tryz.prog 84 #[.string (dec N)] W (.int .i64 1) from by
  have:=sign_any W (N:Int)
  rw[itx_nat,sign_nat hN] at this;exact this)
 clear hc hN
 generalize dec N=s at *
 obtain⟨z,hz⟩:∃ z,s.size=z:=⟨_,rfl⟩
 have Hz:=hd_ hz
 rw[hz] at hs hs2
 clear hz
 go_enter Tryz.func24,Tryz.ntmps24
 go_wp2_with fail
 refine cm_ HC.out ?_
 rintro e w1 ⟨⟨m,rfl⟩,hb⟩
 have B1:=hd_ hb
 clear hb HC
 go_wp2_with fail
 refine cm_ (HA.out _) ?_
 rintro e w2 ⟨rfl,hb⟩
 have B2:=hd_ (B1.out.trans (hb.mono B1.out.size))
 clear hb HA B1
 have hz:=Hz.out
 have hsz:¬ ((s.size:Int)≤k):=by rw[hz];omega
 have hk0:(0:Int)<k:=by omega
 have hw:IntKind.i64.wrap ((s.size:Int)-k)=((s.size-k:Nat):Int):=by rw[hz,show (z:Int)-k=((z-k:Nat):Int) by omega];exact iw_ _ (by omega)
 clear hz
 have hex1:((s.size-k:Nat):Int)≤s.size:=by omega
 have hcat1:¬ (9223372036854775807<s.size-k+1):=by rw[Hz.out];omega
 have hcat2:¬ (9223372036854775807<s.size-k+1+(s.size-(s.size-k))):=by rw[Hz.out];omega
 go_wp2_with fail
 refine RP.wp_region_readers 14 [(2,0),(2,1),(2,2),(2,3),(2,4),(2,5),(2,6),(2,7),(2,8),(2,9),(2,10),(2,11),(2,12),(2,13),(0,14)] (fun _=>True) (by kernel_rfl) (by kernel_rfl) ?_ ?_
 ·trivial
 iterate 14 (refine RP.walkR_any ?_;simp only[dsc_,dz_,tsc_,tz_];go_big_quiet_step (fail);refine wpQuiet_nil ?_)
 refine RP.walkR_move ?_
 simp only[dsc_,dz_,tsc_,tz_]
 go_wp2_with fail
 simp only[RP.walkR]
 go_wp2_with fail
 refine cm_ (HS.out _) ?_
 rintro e w3 ⟨rfl,hb⟩
 have B3:=hd_ ((below_dn B2.out 1).trans (hb.mono (below_dn B2.out 1).size))
 clear hb HS B2
 go_wp2_with fail
 go_ret2
 exact⟨rfl,B3.out⟩
theorem sumT_cut{n d K:Nat}(hd:n+d≤1056):∀ tl:List (Int×Int),(∀ x∈tl,x.1∈allP)→(∀ x∈tl,x.2.natAbs≤K) →
  (LN.sumT (lf (n+d)) tl-2^d*LN.sumT (lf n) tl).natAbs≤tl.length*(K*2^d)
 | [],_,_=>by simp[LN.sumT]
 | x::tl,h,hk=>by
  have ih:=sumT_cut hd tl (fun y hy=>h y (List.mem_cons_of_mem _ hy)) (fun y hy=>hk y (List.mem_cons_of_mem _ hy))
  have hx:=hk x List.mem_cons_self
  obtain⟨q,hq,hq2⟩:=allP_pr (h x List.mem_cons_self)
  have hc:=lgN_cut hq2 d (n:=n) hd
  have hm:=Nat.div_add_mod (lgN (q:Int) (n+d)) (2^d)
  have hlt:=Nat.mod_lt (lgN (q:Int) (n+d)) (Nat.two_pow_pos d)
  rw[hc] at hm
  generalize hr:lgN (q:Int) (n+d)%2^d=r at *
  have e:LN.sumT (lf (n+d)) (x::tl)-2^d*LN.sumT (lf n) (x::tl)=x.2*(r:Int)+(LN.sumT (lf (n+d)) tl-2^d*LN.sumT (lf n) tl):=by
   simp only[LN.sumT]
   have e1:((lf (n+d) x.1:Nat):Int)=2^d*((lf n x.1:Nat):Int)+(r:Int):=by
    unfold lf
    rw[hq,← hm,Int.natCast_add,Int.natCast_mul,Int.natCast_pow];rfl
   rw[e1]
   grind
  rw[e,List.length_cons,Nat.succ_mul]
  have h1:(x.2*(r:Int)).natAbs≤K*2^d:=by
   rw[Int.natAbs_mul,Int.natAbs_natCast]
   exact Nat.mul_le_mul hx (Nat.le_of_lt hlt)
  have h2:=Int.natAbs_add_le (x.2*(r:Int)) (LN.sumT (lf (n+d)) tl-2^d*LN.sumT (lf n) tl)
  omega
theorem scE_mono{k:Nat}{x y:Rat}(h:x≤y):scE k x≤scE k y:=by
 unfold scE nearR
 have h1:x*((1200*10^k:Nat):Rat)≤y*((1200*10^k:Nat):Rat):=Rat.mul_le_mul_of_nonneg_right h (by exact_mod_cast Nat.zero_le _)
 exact Rat.floor_monotone (Rat.add_le_add_right.2 h1)
theorem sameC_iff{k:Nat}{x y:Rat}:sameC k x y=true↔scE k x=scE k y:=by
 unfold sameC
 constructor
 ·intro h
  have h1:=eq_of_beq h
  refine itx_inj ?_
  exact ByteArray.ext (Array.ext' (by simpa [ByteArray.toList_eq] using h1))
 ·intro h
  rw[h];exact beq_self_eq_true _
theorem sc_one{k n m:Nat}{ps:List Int}{l:List Rat}(h:∀ p∈ps,∃ q:Nat,p=q∧(q=2∨q∈oddP))(_hn:n≤1000)(hm:m≤1000)(h1:sameC k (loE n ps l) (hiE n ps l)=true)(hnm:n≤m):
  scE k (loE m ps l)=scE k (loE n ps l)∧sameC k (loE m ps l) (hiE m ps l)=true:=by
 obtain⟨u1,u2⟩:=ends_ups (n:=n) (l:=l) h (m-n) (by omega)
 rw[show n+(m-n)=m by omega] at u1 u2
 have h2:=sameC_iff.1 h1
 have h3:=ends_le m ps l
 have a1:=scE_mono (k:=k) u1
 have a2:=scE_mono (k:=k) h3
 have a3:=scE_mono (k:=k) u2
 refine⟨by omega,sameC_iff.2 (by omega)⟩
theorem sc_any{k n m:Nat}{ps:List Int}{l:List Rat}(h:∀ p∈ps,∃ q:Nat,p=q∧(q=2∨q∈oddP))(hn:n≤1000)(hm:m≤1000)(h1:sameC k (loE n ps l) (hiE n ps l)=true)(h2:sameC k (loE m ps l) (hiE m ps l)=true):
  scE k (loE m ps l)=scE k (loE n ps l):=by
 rcases Nat.le_total n m with h3|h3
 ·exact(sc_one h hn hm h1 h3).1
 ·exact(sc_one h hm hn h2 h3).1.symm
/-! The numbers. -/
def kP:List Int:=[2,3]
def kA:List Rat:=[-19,12]
def kB:List Rat:=[-1,1]
theorem kP_pr:∀ p∈kP,∃ q:Nat,p=q∧(q=2∨q∈oddP):=by
 intro p hp
 simp only[kP,List.mem_cons,List.not_mem_nil,or_false] at hp
 rcases hp with rfl|rfl
 ·exact⟨2,rfl,.inl rfl⟩
 ·exact⟨3,rfl,.inr (by decide)⟩
theorem kP_all:∀ p∈kP,p∈allP:=by decide
theorem k_lg3:lgN 3 3=12:=by decide +kernel
theorem k_dec9:decE 9 kP kA=1:=by decide +kernel
theorem k_dec8:decE 8 kP kA=0:=by decide +kernel
theorem k_lo7:loE 7 kP kA = -1/16:=by decide +kernel
theorem k_hi7:hiE 7 kP kA=1/32:=by decide +kernel
theorem k_same:sameC 3 (loE 30 kP kB) (hiE 30 kP kB)=true:=by decide +kernel
theorem k_cents:scE 3 (loE 30 kP kB)=701955:=by decide +kernel
theorem k_bnd:bndL 9 kP kA=[(2,9,dec 512),(3,9,dec 811)]:=by
 have h1:lgN 2 9=512:=by decide +kernel
 have h2:lgN 3 9=811:=by decide +kernel
 show List.filterMap _ [((2:Int),(-19:Rat)),(3,12)]=_
 rw[List.filterMap_cons,List.filterMap_cons]
 rw[if_neg (by decide +kernel),if_neg (by decide +kernel),h1,h2]
 rfl
theorem k_least{n:Nat}(h:LeastN (fun b=>decE b kP kA != 0) n):n=9:=by
 refine LeastN.uniq (T:=fun b=>decE b kP kA != 0) (fun b hb hx=>?_) h ⟨?_,.inr ?_,by decide⟩
 ·show (decE (b+1) kP kA != 0)=true
  rw[bne_iff_ne]
  refine decE_up (d:=1) kP_all (by omega) ?_
  have hx':(decE b kP kA != 0)=true:=hx
  rwa [bne_iff_ne] at hx'
 ·show (decE 9 kP kA != 0)=true
  rw[k_dec9];rfl
 ·show (decE 8 kP kA != 0)=false
  rw[k_dec8];rfl
theorem k_cent{n:Nat}(h:LeastN (fun b=>sameC 3 (loE b kP kB) (hiE b kP kB)) n):scE 3 (loE n kP kB)=701955:=by
 rw[sc_any kP_pr (show 30≤1000 by decide) h.le k_same h.at_,k_cents]
theorem k_end:sameC 3 (loE 1000 kP kB) (hiE 1000 kP kB)=true:=(sc_one kP_pr (by decide) (by decide) k_same (by decide)).2
theorem k_endd:decE 1000 kP kA≠0:=decE_up (n:=9) (d:=991) kP_all (by decide) (by rw[k_dec9];decide)
theorem number14_ok(w:World)(n:Int)(d:Nat)(hn : -1000≤n)(hn2:n≤1000)(hd:0<d)(hd2:d≤1000)(L:Laid w):
  Gives Tryz.prog 65 #[.int .i64 n,.int .i64 d] w (fr (mkRat n d)):=by
 have hz:∀ x:Nat,x≤2000→Num x:=fun x hx=>num_k10 (Nat.lt_of_le_of_lt hx (Nat.lt_of_lt_of_le (show 2000<2^11 by decide) (Nat.pow_le_pow_right (by decide) (by rw[k10];decide))))
 have Hb0:=hd_ ((Below.refl w.heap.size w).alloc nr_ (.cells #[.string ⟨#[]⟩,.string ⟨#[]⟩] 42))
 have Hnew:Hid ((w.alloc (.cells #[.string ⟨#[]⟩,.string ⟨#[]⟩] 42)).heap[w.heap.size]?=some (.cells #[.string ⟨#[]⟩,.string ⟨#[]⟩] 42 (0,0))):=heap_alloc_new w _
 have HO:=hd_ (ofi_frac _ n d (by omega) (by omega) (by omega) (hz _ (by omega)) (hz _ (by omega)) hd (hz _ (by omega)) (hz _ (by omega)) (L.below Hb0.out))
 rw[redV_rat n d (by omega)] at HO
 clear L hz
 generalize mkRat n d=q at *
 unfold Gives
 unfold fr fv at HO ⊢
 go_enter Tryz.func65,Tryz.ntmps65
 go_wp2_with fail
 generalize w.alloc (.cells #[.string ⟨#[]⟩,.string ⟨#[]⟩] 42)=W0 at *
 refine cm_ HO.out ?_
 rintro e w1 ⟨rfl,hb⟩
 have hcell:=stored_cell Hnew.out hb
 have hcell2:=heap_old hcell (.cells #[.string (itx q.num),.string (dec q.den)] 42)
 have B2:=hd_ ((Hb0.out.trans (hb.mono Hb0.out.size)).alloc (Nat.le_trans Hb0.out.size hb.size) (.cells #[.string (itx q.num),.string (dec q.den)] 42))
 obtain⟨k0,k1,f0,f1⟩:=two_cells hcell2
 clear hb HO Hnew Hb0 hcell hcell2
 go_wp2
 obtain⟨c0,c1,hb3⟩:=two_stored (B:=w.heap.size) (.string (itx q.num)) (.string (dec q.den)) k0 k1 nr_ B2.out
 generalize ((w1.alloc (.cells #[.string (itx q.num),.string (dec q.den)] 42)).setCell ⟨w.heap.size,0,none⟩ (.string (itx q.num))).setCell ⟨w.heap.size,1,none⟩ (.string (dec q.den))=w9 at *
 exact bodyPost_ret (v := .agg #[.string (itx q.num),.string (dec q.den)]) (by simp[results,Tryz.results65,go_sem,c0,c1]) rfl ⟨rfl,hb3⟩
theorem fieldsBd : (Tryz.prog.fieldsOf 27).toList.map (fun f => (f.name, f.type, f.offset)) = [("Prime", 3, 0), ("Bits", 3, 1), ("Low", 25, 2)] := by kernel_rfl
theorem stoodBd:Tryz.prog.stoodInHeld 27=false:=by kernel_rfl
theorem guardBd:Tryz.prog.eqGuardType Tryz.prog.depth 27=false:=by kernel_rfl
theorem eqFields_bd (W : World) (d : Nat) (p n p' n' : Int) (s s' : ByteArray) (fs : List Field) (h : fs.map (fun f => (f.name, f.type, f.offset)) = [("Prime", 3, 0), ("Bits", 3, 1), ("Low", 25, 2)]) :
  (Op.eqFields (d+1) #[.int .i64 p,.int .i64 n,.string s] #[.int .i64 p',.int .i64 n',.string s'] fs).run Tryz.prog W = .ok (p==p'&&n==n'&&s.toList==s'.toList) W:=by
 obtain⟨f,g,k,rfl⟩:∃ f g k,fs=[f,g,k]:=by
  have hl:=congrArg List.length h
  rw[List.length_map] at hl
  cases fs with
  | nil=>simp at hl
  | cons f fs =>
   cases fs with
   | nil=>simp at hl
   | cons g fs =>
    cases fs with
    | nil=>simp at hl
    | cons k fs =>
     cases fs with
     | nil=>exact⟨f,g,k,rfl⟩
     | cons x fs=>simp at hl
 simp only[List.map_cons,List.map_nil,List.cons.injEq,Prod.mk.injEq,and_true] at h
 obtain⟨⟨h1,h2,h3⟩,⟨h4,h5,h6⟩,h7,h8,h9⟩:=h
 have hu:=Tryz.underlying25
 have hv:=Tryz.underlying3
 simp[Op.eqFields,h1,h2,h3,h4,h5,h6,h7,h8,h9,go_sem,hu,hv]
 by_cases q1:p=p'<;>by_cases q2:n=n'<;>by_cases q3:s.toList=s'.toList<;>simp[q1,q2,q3]
theorem structBd:Tryz.prog.underlying 27=some (.struct (Tryz.prog.fieldsOf 27)):=by
 have h:=Tryz.underlying27
 unfold Program.fieldsOf
 rw[h]
theorem eqlBd_run(W:World)(p n p' n':Int)(s s':ByteArray):
  (binOp .eql 27 (.agg #[.int .i64 p,.int .i64 n,.string s]) (.agg #[.int .i64 p',.int .i64 n',.string s'])).run Tryz.prog W = .ok (.bool (p==p'&&n==n'&&s.toList==s'.toList)) W:=by
 rw[run_eql_struct,show (10000:Nat)=9998+1+1 from rfl,run_equalIn_agg (ht:=structBd) (hp:=stoodBd),eqFields_bd W _ p n p' n' s s' _ fieldsBd]
 rfl
theorem guardBd_run(W:World)(op:BinOp)(x y:Operand)(xs ys:Array Value):(eqGuard op 27 x y (.agg xs) (.agg ys)).run Tryz.prog W = .ok () W:=run_eqGuard_agg W op _ x y xs ys guardBd
theorem quiet_eqlBd{C:World→Prop}{K:Act→Prop}{a:Act}{o:Oper}(x y:Operand)(r:TypeId)(p n p' n':Int)(s s':ByteArray)(h:o.op = .binOp .eql 27 x y r)(hx:a.eval x = .agg #[.int .i64 p,.int .i64 n,.string s])(hy:a.eval y = .agg #[.int .i64 p',.int .i64 n',.string s'])
  (hk:K (a.put o.dst (.bool (p==p'&&n==n'&&s.toList==s'.toList)))):o.quiet Tryz.prog a C K :=
 ⟨_,fun w _=>by
  unfold Oper.quietAt execOp
  rw[h]
  simp only[Sem.run_bind,hx,hy,guardBd_run,eqlBd_run,Result.andThen_ok,Sem.run_pure]
  exact⟨rfl,rfl⟩,hk⟩
theorem k_num(W:World)(n:Int)(d:Nat)(q:Rat)(hq:mkRat n d=q)(hn : -1000≤n)(hn2:n≤1000)(hd:0<d)(hd2:d≤1000)(L:Laid W):
  Gives Tryz.prog 65 #[.int .i64 n,.int .i64 d] W (fr q):=by rw[← hq];exact number14_ok W n d hn hn2 hd hd2 L
theorem kP_i64:I64s kP:=by
 intro x hx
 simp only[kP,List.mem_cons,List.not_mem_nil,or_false] at hx
 rcases hx with rfl|rfl<;>decide
theorem kA_sm:∀ q∈kA,Sm 30 q:=by
 intro q hq
 simp only[kA,List.mem_cons,List.not_mem_nil,or_false] at hq
 rcases hq with rfl|rfl<;>exact⟨by decide +kernel,by decide +kernel⟩
theorem kB_sm:∀ q∈kB,Sm 30 q:=by
 intro q hq
 simp only[kB,List.mem_cons,List.not_mem_nil,or_false] at hq
 rcases hq with rfl|rfl<;>exact⟨by decide +kernel,by decide +kernel⟩
theorem kP_code:pcode kP=0:=by decide +kernel
theorem kA_any:kA.any nzQ=true:=by decide +kernel
theorem known14_ok(w:World)(L:Laid w):Gives Tryz.prog 15 #[] w (.bool true):=by
 unfold Gives
 have HL:=hd_ L
 have HO:=hd_ (eOf_ok w 3 3 (.inr (by decide)) (by decide +kernel) (by decide) L)
 rw[show ((3:Nat):Int)=3 from rfl,k_lg3] at HO
 unfold bndV at HO
 clear L
 generalize hb12:dec 12=b12 at *
 have Hb12:=hd_ hb12
 clear hb12
 obtain⟨q1,hq1⟩:∃ q:Rat,q = -19:=⟨_,rfl⟩
 obtain⟨q2,hq2⟩:∃ q:Rat,q=12:=⟨_,rfl⟩
 obtain⟨q3,hq3⟩:∃ q:Rat,q = -1:=⟨_,rfl⟩
 obtain⟨q4,hq4⟩:∃ q:Rat,q=1:=⟨_,rfl⟩
 obtain⟨q5,hq5⟩:∃ q:Rat,q = -1/16:=⟨_,rfl⟩
 obtain⟨q6,hq6⟩:∃ q:Rat,q=1/32:=⟨_,rfl⟩
 have N1:=hd_ (fun W (hW:Below w.heap.size w W)=>k_num W (-19) 1 q1 (by rw[hq1];decide +kernel) (by decide) (by decide) (by decide) (by decide) (HL.out.below hW))
 have N2:=hd_ (fun W (hW:Below w.heap.size w W)=>k_num W 12 1 q2 (by rw[hq2];decide +kernel) (by decide) (by decide) (by decide) (by decide) (HL.out.below hW))
 have N3:=hd_ (fun W (hW:Below w.heap.size w W)=>k_num W (-1) 1 q3 (by rw[hq3];decide +kernel) (by decide) (by decide) (by decide) (by decide) (HL.out.below hW))
 have N4:=hd_ (fun W (hW:Below w.heap.size w W)=>k_num W 1 1 q4 (by rw[hq4];decide +kernel) (by decide) (by decide) (by decide) (by decide) (HL.out.below hW))
 have N5:=hd_ (fun W (hW:Below w.heap.size w W)=>k_num W (-1) 16 q5 (by rw[hq5];decide +kernel) (by decide) (by decide) (by decide) (by decide) (HL.out.below hW))
 have N6:=hd_ (fun W (hW:Below w.heap.size w W)=>k_num W 1 32 q6 (by rw[hq6];decide +kernel) (by decide) (by decide) (by decide) (by decide) (HL.out.below hW))
 have hA:kA=[q1,q2]:=by rw[hq1,hq2];rfl
 have hB:kB=[q3,q4]:=by rw[hq3,hq4];rfl
 have HD:=hd_ (fun W (hW:Below w.heap.size w W) a0 a1 (rp:Rd W a0 (ints kP)) (rl:Rd W a1 (cellsQ [q1,q2]))=>decide_ok W a0 a1 2 2 30 kP kA rp (by rw[hA];exact rl) kP_i64 rfl (by decide) kP_pr kA_sm (by decide) kP_code kA_any k_endd (HL.out.below hW))
 have HE:=hd_ (fun W (hW:Below w.heap.size w W) a0 a1 (rp:Rd W a0 (ints kP)) (rl:Rd W a1 (cellsQ [q1,q2]))=>enclose_ok W a0 a1 2 2 30 7 kP kA rp (by rw[hA];exact rl) kP_i64 rfl (by decide) kP_pr kA_sm (by decide) kP_code (by decide) (HL.out.below hW))
 rw[k_lo7,k_hi7,← hq5,← hq6] at HE
 have hbig:3<(dec 701955).size:=by rw[dec_size];decide +kernel
 have HC:=hd_ (fun W (hW:Below w.heap.size w W) a0 a1 (rp:Rd W a0 (ints kP)) (rl:Rd W a1 (cellsQ [q3,q4]))=>cents_big W a0 a1 2 2 2 2 3 701955 (by decide) (by decide) (by decide) hbig (by rw[dec_size];decide +kernel) ((certain_ok W a0 a1 2 2 30 3 kP kB rp (by rw[hB];exact rl) kP_i64 rfl (by decide) kP_pr kB_sm (by decide) kP_code (by decide) k_end (HL.out.below hW)).mono fun e w' h=>by
  obtain⟨n,he,hl,hb⟩:=h
  refine⟨⟨n,?_⟩,hb⟩
  rw[k_cent hl,show itx (701955:Int)=dec 701955 from itx_nat 701955] at he
  exact he))
 have hct:(dec 701955).extract 0 ((dec 701955).size-3)++⟨#[46]⟩++(dec 701955).extract ((dec 701955).size-3) (dec 701955).size=⟨#[55,48,49,46,57,53,53]⟩:=by
  have:((dec 701955).extract 0 ((dec 701955).size-3)++⟨#[46]⟩++(dec 701955).extract ((dec 701955).size-3) (dec 701955).size).data = #[55,48,49,46,57,53,53]:=by decide +kernel
  exact ByteArray.ext this
 rw[hct] at HC
 have Hq5:=hd_ hq5
 have Hq6:=hd_ hq6
 clear hq1 hq2 hq3 hq4 hq5 hq6 hA hB hbig hct
 unfold fr fv at N1 N2 N3 N4 N5 N6 HE
 go_enter Tryz.func15,Tryz.ntmps15
 go_wp2_with fail
 refine cm_ HO.out ?_
 rintro e w1 ⟨rfl,hb⟩
 have B1:=hd_ (hb.alloc hb.size (.cells #[.int .i64 3,.int .i64 3,.string b12] 27))
 have F1:=hd_ (heap_at w1 #[.int .i64 3,.int .i64 3,.string b12] 27 _ rfl)
 clear hb HO
 go_wp2_with fail
 have hsz1:(w1.alloc (.cells #[.int .i64 3,.int .i64 3,.string b12] 27)).heap.size=w1.heap.size+1:=by simp
 rw[← hsz1]
 generalize w1.heap.size=gb at *
 generalize w1.alloc (.cells #[.int .i64 3,.int .i64 3,.string b12] 27)=w1b at *
 clear hsz1
 have B2:=hd_ (B1.out.alloc B1.out.size (.cells #[.int .i64 2,.int .i64 3] 3))
 have FP:Hid ((w1b.alloc (.cells #[.int .i64 2,.int .i64 3] 3)).heap[w1b.heap.size]?=some (.cells #[.int .i64 2,.int .i64 3] 3 (0,0))):=heap_alloc_new w1b _
 replace F1:=hd_ (heap_old F1.out (.cells #[.int .i64 2,.int .i64 3] 3))
 clear B1
 generalize hg_:w1b.heap.size=gp at *
 generalize hw_:w1b.alloc (.cells #[.int .i64 2,.int .i64 3] 3)=w2 at *
 clear hg_ hw_
 refine cm_ (N1.out _ B2.out) ?_
 rintro e_ w3 ⟨rfl,hb_⟩
 have B3:=hd_ (B2.out.trans (hb_.mono B2.out.size))
 replace F1:=hd_ (heap_kept F1.out hb_ nr_)
 replace FP:=hd_ (heap_kept FP.out hb_ nr_)
 clear B2
 clear hb_
 go_wp2_with fail
 refine cm_ (N2.out _ B3.out) ?_
 rintro e_ w4 ⟨rfl,hb_⟩
 have B4:=hd_ (B3.out.trans (hb_.mono B3.out.size))
 replace F1:=hd_ (heap_kept F1.out hb_ nr_)
 replace FP:=hd_ (heap_kept FP.out hb_ nr_)
 clear B3
 clear hb_
 go_wp2_with fail
 have B5:=hd_ (B4.out.alloc B4.out.size (.cells #[.string (itx q1.num),.string (dec q1.den),.string (itx q2.num),.string (dec q2.den)] 42))
 have FA:Hid ((w4.alloc (.cells #[.string (itx q1.num),.string (dec q1.den),.string (itx q2.num),.string (dec q2.den)] 42)).heap[w4.heap.size]?=some (.cells #[.string (itx q1.num),.string (dec q1.den),.string (itx q2.num),.string (dec q2.den)] 42 (0,0))):=heap_alloc_new w4 _
 replace F1:=hd_ (heap_old F1.out (.cells #[.string (itx q1.num),.string (dec q1.den),.string (itx q2.num),.string (dec q2.den)] 42))
 replace FP:=hd_ (heap_old FP.out (.cells #[.string (itx q1.num),.string (dec q1.den),.string (itx q2.num),.string (dec q2.den)] 42))
 clear B4
 generalize hg_:w4.heap.size=ga at *
 generalize hw_:w4.alloc (.cells #[.string (itx q1.num),.string (dec q1.den),.string (itx q2.num),.string (dec q2.den)] 42)=w5 at *
 clear hg_ hw_
 refine cm_ (HD.out _ B5.out _ _ (rd_obj FP.out) (rd_obj FA.out)) ?_
 rintro e_ w6 ⟨n_,a_,c_,he_,hl_,hr_,hb_⟩
 have B6:=hd_ (B5.out.trans (hb_.mono B5.out.size))
 replace F1:=hd_ (heap_kept F1.out hb_ nr_)
 replace FP:=hd_ (heap_kept FP.out hb_ nr_)
 replace FA:=hd_ (heap_kept FA.out hb_ nr_)
 clear B5
 clear HD
 obtain rfl:=k_least hl_
 rw[k_dec9,k_bnd] at he_
 rw[k_bnd] at hr_
 have he2:e_ = .returned (.tuple #[.agg #[.int .i64 1,.int .i64 9,.slice a_ 2 c_],.int .i64 0]):=he_
 subst he2
 have HR:=hd_ hr_
 clear he_ hl_ hr_ hb_
 go_wp2_with fail
 have B7:=hd_ (B6.out.alloc B6.out.size (.cells #[.int .i64 1,.int .i64 9,.slice a_ 2 c_] 51))
 have FC:Hid ((w6.alloc (.cells #[.int .i64 1,.int .i64 9,.slice a_ 2 c_] 51)).heap[w6.heap.size]?=some (.cells #[.int .i64 1,.int .i64 9,.slice a_ 2 c_] 51 (0,0))):=heap_alloc_new w6 _
 replace F1:=hd_ (heap_old F1.out (.cells #[.int .i64 1,.int .i64 9,.slice a_ 2 c_] 51))
 replace FP:=hd_ (heap_old FP.out (.cells #[.int .i64 1,.int .i64 9,.slice a_ 2 c_] 51))
 replace FA:=hd_ (heap_old FA.out (.cells #[.int .i64 1,.int .i64 9,.slice a_ 2 c_] 51))
 replace HR:=hd_ (HR.out.below ((Below.refl w6.heap.size w6).alloc nr_ (.cells #[.int .i64 1,.int .i64 9,.slice a_ 2 c_] 51)) nr_)
 clear B6
 generalize hg_:w6.heap.size=gc at *
 generalize hw_:w6.alloc (.cells #[.int .i64 1,.int .i64 9,.slice a_ 2 c_] 51)=w7 at *
 clear hg_ hw_
 clear FA
 refine cm_ (N1.out _ B7.out) ?_
 rintro e_ w8 ⟨rfl,hb_⟩
 have B8:=hd_ (B7.out.trans (hb_.mono B7.out.size))
 replace F1:=hd_ (heap_kept F1.out hb_ nr_)
 replace FP:=hd_ (heap_kept FP.out hb_ nr_)
 replace FC:=hd_ (heap_kept FC.out hb_ nr_)
 replace HR:=hd_ (HR.out.below hb_ nr_)
 clear B7
 clear hb_
 go_wp2_with fail
 refine cm_ (N2.out _ B8.out) ?_
 rintro e_ w9 ⟨rfl,hb_⟩
 have B9:=hd_ (B8.out.trans (hb_.mono B8.out.size))
 replace F1:=hd_ (heap_kept F1.out hb_ nr_)
 replace FP:=hd_ (heap_kept FP.out hb_ nr_)
 replace FC:=hd_ (heap_kept FC.out hb_ nr_)
 replace HR:=hd_ (HR.out.below hb_ nr_)
 clear B8
 clear hb_
 go_wp2_with fail
 have B10:=hd_ (B9.out.alloc B9.out.size (.cells #[.string (itx q1.num),.string (dec q1.den),.string (itx q2.num),.string (dec q2.den)] 42))
 have FA:Hid ((w9.alloc (.cells #[.string (itx q1.num),.string (dec q1.den),.string (itx q2.num),.string (dec q2.den)] 42)).heap[w9.heap.size]?=some (.cells #[.string (itx q1.num),.string (dec q1.den),.string (itx q2.num),.string (dec q2.den)] 42 (0,0))):=heap_alloc_new w9 _
 replace F1:=hd_ (heap_old F1.out (.cells #[.string (itx q1.num),.string (dec q1.den),.string (itx q2.num),.string (dec q2.den)] 42))
 replace FP:=hd_ (heap_old FP.out (.cells #[.string (itx q1.num),.string (dec q1.den),.string (itx q2.num),.string (dec q2.den)] 42))
 replace FC:=hd_ (heap_old FC.out (.cells #[.string (itx q1.num),.string (dec q1.den),.string (itx q2.num),.string (dec q2.den)] 42))
 replace HR:=hd_ (HR.out.below ((Below.refl w9.heap.size w9).alloc nr_ (.cells #[.string (itx q1.num),.string (dec q1.den),.string (itx q2.num),.string (dec q2.den)] 42)) nr_)
 clear B9
 generalize hg_:w9.heap.size=ga2 at *
 generalize hw_:w9.alloc (.cells #[.string (itx q1.num),.string (dec q1.den),.string (itx q2.num),.string (dec q2.den)] 42)=w10 at *
 clear hg_ hw_
 refine cm_ (HE.out _ B10.out _ _ (rd_obj FP.out) (rd_obj FA.out)) ?_
 rintro e_ w11 ⟨rfl,hb_⟩
 have B11:=hd_ (B10.out.trans (hb_.mono B10.out.size))
 replace F1:=hd_ (heap_kept F1.out hb_ nr_)
 replace FP:=hd_ (heap_kept FP.out hb_ nr_)
 replace FC:=hd_ (heap_kept FC.out hb_ nr_)
 replace FA:=hd_ (heap_kept FA.out hb_ nr_)
 replace HR:=hd_ (HR.out.below hb_ nr_)
 clear B10
 clear hb_ HE FA N1 N2
 go_wp2_with fail
 have hz_:Hid ((w11.alloc (.cells #[.string (itx q5.num),.string (dec q5.den)] 42)).heap.size=w11.heap.size+1):=by show _=_;simp
 have B12:=hd_ (B11.out.alloc B11.out.size (.cells #[.string (itx q5.num),.string (dec q5.den)] 42))
 have F5:Hid ((w11.alloc (.cells #[.string (itx q5.num),.string (dec q5.den)] 42)).heap[w11.heap.size]?=some (.cells #[.string (itx q5.num),.string (dec q5.den)] 42 (0,0))):=heap_alloc_new w11 _
 replace F1:=hd_ (heap_old F1.out (.cells #[.string (itx q5.num),.string (dec q5.den)] 42))
 replace FP:=hd_ (heap_old FP.out (.cells #[.string (itx q5.num),.string (dec q5.den)] 42))
 replace FC:=hd_ (heap_old FC.out (.cells #[.string (itx q5.num),.string (dec q5.den)] 42))
 replace HR:=hd_ (HR.out.below ((Below.refl w11.heap.size w11).alloc nr_ (.cells #[.string (itx q5.num),.string (dec q5.den)] 42)) nr_)
 clear B11
 generalize hg_:w11.heap.size=g5 at *
 generalize hw_:w11.alloc (.cells #[.string (itx q5.num),.string (dec q5.den)] 42)=w12 at *
 clear hg_ hw_
 have B13:=hd_ (B12.out.alloc B12.out.size (.cells #[.string (itx q6.num),.string (dec q6.den)] 42))
 have F6:Hid ((w12.alloc (.cells #[.string (itx q6.num),.string (dec q6.den)] 42)).heap[g5+1]?=some (.cells #[.string (itx q6.num),.string (dec q6.den)] 42 (0,0))):=by
  have h_:=heap_alloc_new w12 (.cells #[.string (itx q6.num),.string (dec q6.den)] 42)
  rw[hz_.out] at h_;exact h_
 replace F1:=hd_ (heap_old F1.out (.cells #[.string (itx q6.num),.string (dec q6.den)] 42))
 replace FP:=hd_ (heap_old FP.out (.cells #[.string (itx q6.num),.string (dec q6.den)] 42))
 replace FC:=hd_ (heap_old FC.out (.cells #[.string (itx q6.num),.string (dec q6.den)] 42))
 replace F5:=hd_ (heap_old F5.out (.cells #[.string (itx q6.num),.string (dec q6.den)] 42))
 replace HR:=hd_ (HR.out.below ((Below.refl w12.heap.size w12).alloc nr_ (.cells #[.string (itx q6.num),.string (dec q6.den)] 42)) nr_)
 clear B12 hz_
 generalize hw_:w12.alloc (.cells #[.string (itx q6.num),.string (dec q6.den)] 42)=w13 at *
 clear hw_
 refine cm_ (N3.out _ B13.out) ?_
 rintro e_ w14 ⟨rfl,hb_⟩
 have B14:=hd_ (B13.out.trans (hb_.mono B13.out.size))
 replace F1:=hd_ (heap_kept F1.out hb_ nr_)
 replace FP:=hd_ (heap_kept FP.out hb_ nr_)
 replace FC:=hd_ (heap_kept FC.out hb_ nr_)
 replace F5:=hd_ (heap_kept F5.out hb_ nr_)
 replace F6:=hd_ (heap_kept F6.out hb_ nr_)
 replace HR:=hd_ (HR.out.below hb_ nr_)
 clear B13
 clear hb_
 go_wp2_with fail
 refine cm_ (N4.out _ B14.out) ?_
 rintro e_ w15 ⟨rfl,hb_⟩
 have B15:=hd_ (B14.out.trans (hb_.mono B14.out.size))
 replace F1:=hd_ (heap_kept F1.out hb_ nr_)
 replace FP:=hd_ (heap_kept FP.out hb_ nr_)
 replace FC:=hd_ (heap_kept FC.out hb_ nr_)
 replace F5:=hd_ (heap_kept F5.out hb_ nr_)
 replace F6:=hd_ (heap_kept F6.out hb_ nr_)
 replace HR:=hd_ (HR.out.below hb_ nr_)
 clear B14
 clear hb_
 go_wp2_with fail
 have B16:=hd_ (B15.out.alloc B15.out.size (.cells #[.string (itx q3.num),.string (dec q3.den),.string (itx q4.num),.string (dec q4.den)] 42))
 have FA:Hid ((w15.alloc (.cells #[.string (itx q3.num),.string (dec q3.den),.string (itx q4.num),.string (dec q4.den)] 42)).heap[w15.heap.size]?=some (.cells #[.string (itx q3.num),.string (dec q3.den),.string (itx q4.num),.string (dec q4.den)] 42 (0,0))):=heap_alloc_new w15 _
 replace F1:=hd_ (heap_old F1.out (.cells #[.string (itx q3.num),.string (dec q3.den),.string (itx q4.num),.string (dec q4.den)] 42))
 replace FP:=hd_ (heap_old FP.out (.cells #[.string (itx q3.num),.string (dec q3.den),.string (itx q4.num),.string (dec q4.den)] 42))
 replace FC:=hd_ (heap_old FC.out (.cells #[.string (itx q3.num),.string (dec q3.den),.string (itx q4.num),.string (dec q4.den)] 42))
 replace F5:=hd_ (heap_old F5.out (.cells #[.string (itx q3.num),.string (dec q3.den),.string (itx q4.num),.string (dec q4.den)] 42))
 replace F6:=hd_ (heap_old F6.out (.cells #[.string (itx q3.num),.string (dec q3.den),.string (itx q4.num),.string (dec q4.den)] 42))
 replace HR:=hd_ (HR.out.below ((Below.refl w15.heap.size w15).alloc nr_ (.cells #[.string (itx q3.num),.string (dec q3.den),.string (itx q4.num),.string (dec q4.den)] 42)) nr_)
 clear B15
 generalize hg_:w15.heap.size=ga3 at *
 generalize hw_:w15.alloc (.cells #[.string (itx q3.num),.string (dec q3.den),.string (itx q4.num),.string (dec q4.den)] 42)=w16 at *
 clear hg_ hw_
 refine cm_ (HC.out _ B16.out _ _ (rd_obj FP.out) (rd_obj FA.out)) ?_
 rintro e_ w17 ⟨rfl,hb_⟩
 have B17:=hd_ (B16.out.trans (hb_.mono B16.out.size))
 replace F1:=hd_ (heap_kept F1.out hb_ nr_)
 replace FP:=hd_ (heap_kept FP.out hb_ nr_)
 replace FC:=hd_ (heap_kept FC.out hb_ nr_)
 replace F5:=hd_ (heap_kept F5.out hb_ nr_)
 replace F6:=hd_ (heap_kept F6.out hb_ nr_)
 replace FA:=hd_ (heap_kept FA.out hb_ nr_)
 replace HR:=hd_ (HR.out.below hb_ nr_)
 clear B16
 clear hb_ HC FA N3 N4 FP
 go_wp2_with fail
 obtain⟨k0,k1,k2,-⟩:=three_cells F1.out
 obtain⟨k3,k4,k5,-⟩:=three_cells FC.out
 obtain⟨k6,k7,-,-⟩:=two_cells F5.out
 obtain⟨k8,k9,-,-⟩:=two_cells F6.out
 obtain⟨br,orr,rfl,hbr,hrow⟩:=HR.out.open (by decide)
 have kr:w17.cell? ⟨br,orr+5,none⟩=some (.string (dec 811)):=hrow 5 _ rfl
 have q0:=NW.cell k0
 have q1:=NW.cell k1
 have q2:=NW.cell k2
 have q3:=NW.cell k3
 have q4:=NW.cell k4
 have q5':=NW.cell k5
 have q6':=NW.cell k6
 have q7:=NW.cell k7
 have q8:=NW.cell k8
 have q9:=NW.cell k9
 have qr:=NW.cell kr
 have e811:(dec 811)=⟨#[56,49,49]⟩:=by
  have:(dec 811).data = #[56,49,49]:=by decide +kernel
  exact ByteArray.ext this
 have e12:b12=⟨#[49,50]⟩:=by
  rw[← Hb12.out]
  have:(dec 12).data = #[49,50]:=by decide +kernel
  exact ByteArray.ext this
 rw[e811] at qr
 rw[e12] at q2
 have hnon:Nonempty (NW w17):=⟨⟨w17,Below.refl _ _⟩⟩
 have I:Hid (Below w17.heap.size w17 w17.drew):=(Below.refl _ _).drew
 clear k0 k1 k2 k3 k4 k5 k6 k7 k8 k9 kr hrow e811 e12 hbr HR F1 FC F5 F6
 refine RP.wp_region_readers 57 [(2,0),(2,1),(2,2),(1,3),(2,4),(2,5),(2,6),(2,7),(2,8),(2,9),(2,10),(2,11),(2,12),(1,13),(2,14),(2,15),(2,16),(2,17),(1,18),(2,19),(2,20),(2,21),(2,22),(1,23),(2,24),(2,25),(2,26),(2,27),(2,28),(1,29),(2,30),(2,31),(1,32),(2,33),(2,34),(2,35),(2,36),(2,37),(2,38),(2,39),(1,40),(0,41),(2,42),(2,43),(2,44),(1,45),(0,46),(2,47),(2,48),(2,49),(2,50),(2,51),(2,52),(2,53),(2,54),(2,55),(2,56),(0,57)] (fun w'=>∃ p:NW w17,w'=p.w) (by kernel_rfl) (by kernel_rfl) ?_ ?_
 ·exact⟨⟨_,I.out⟩,rfl⟩
 refine RP.walkR_any ?_
 simp only[dz_,tsc_,tz_]
 first | go_big_quiet_step (fail) | quiet_step (fail)
 refine wpQuiet_nil ?_
 refine RP.walkR_any ?_
 simp only[dsc_,dz_,tsc_,tz_]
 first | go_big_quiet_step (fail) | quiet_step (fail)
 refine wpQuiet_nil ?_
 refine RP.walkR_any ?_
 simp only[dsc_,dz_,tsc_,tz_]
 first | go_big_quiet_step (fail) | quiet_step (fail)
 refine wpQuiet_nil ?_
 refine RP.walkR_read ?_
 simp only[dsc_,dz_,tsc_,tz_]
 first | go_big_quiet_step (fail) | quiet_step (fail)
 refine wpQuiet_nil ?_
 refine RP.walkR_any ?_
 simp only[dsc_,dz_,tsc_,tz_]
 first | go_big_quiet_step (fail) | quiet_step (fail)
 refine wpQuiet_nil ?_
 refine RP.walkR_any ?_
 simp only[dsc_,dz_,tsc_,tz_]
 refine BigFrame.wpQuiet_want rfl fun K hK=>quiet_eqlBd _ _ _ 3 3 3 3 _ _ rfl rfl rfl (hK _ ?_)
 refine wpQuiet_nil ?_
 refine RP.walkR_any ?_
 simp only[dsc_,dz_,tsc_,tz_]
 first | go_big_quiet_step (fail) | quiet_step (fail)
 refine wpQuiet_nil ?_
 refine RP.walkR_any ?_
 simp only[dsc_,dz_,tsc_,tz_]
 first | go_big_quiet_step (fail) | quiet_step (fail)
 refine wpQuiet_nil ?_
 refine RP.walkR_any ?_
 simp only[dsc_,dz_,tsc_,tz_]
 first | go_big_quiet_step (fail) | quiet_step (fail)
 refine wpQuiet_nil ?_
 refine RP.walkR_any ?_
 simp only[dsc_,dz_,tsc_,tz_]
 first | go_big_quiet_step (fail) | quiet_step (fail)
 refine wpQuiet_nil ?_
 refine RP.walkR_any ?_
 simp only[dsc_,dz_,tsc_,tz_]
 first | go_big_quiet_step (fail) | quiet_step (fail)
 refine wpQuiet_nil ?_
 refine RP.walkR_any ?_
 simp only[dsc_,dz_,tsc_,tz_]
 first | go_big_quiet_step (fail) | quiet_step (fail)
 refine wpQuiet_nil ?_
 refine RP.walkR_any ?_
 simp only[dsc_,dz_,tsc_,tz_]
 first | go_big_quiet_step (fail) | quiet_step (fail)
 refine wpQuiet_nil ?_
 refine RP.walkR_read ?_
 simp only[dsc_,dz_,tsc_,tz_]
 first | go_big_quiet_step (fail) | quiet_step (fail)
 refine wpQuiet_nil ?_
 refine RP.walkR_any ?_
 simp only[dsc_,dz_,tsc_,tz_]
 first | go_big_quiet_step (fail) | quiet_step (fail)
 refine wpQuiet_nil ?_
 refine RP.walkR_any ?_
 simp only[dsc_,dz_,tsc_,tz_]
 first | go_big_quiet_step (fail) | quiet_step (fail)
 refine wpQuiet_nil ?_
 refine RP.walkR_any ?_
 simp only[dsc_,dz_,tsc_,tz_]
 first | go_big_quiet_step (fail) | quiet_step (fail)
 refine wpQuiet_nil ?_
 refine RP.walkR_any ?_
 simp only[dsc_,dz_,tsc_,tz_]
 first | go_big_quiet_step (fail) | quiet_step (fail)
 refine wpQuiet_nil ?_
 refine RP.walkR_read ?_
 simp only[dsc_,dz_,tsc_,tz_]
 first | go_big_quiet_step (fail) | quiet_step (fail)
 refine wpQuiet_nil ?_
 refine RP.walkR_any ?_
 simp only[dsc_,dz_,tsc_,tz_]
 first | go_big_quiet_step (fail) | quiet_step (fail)
 refine wpQuiet_nil ?_
 refine RP.walkR_any ?_
 simp only[dsc_,dz_,tsc_,tz_]
 first | go_big_quiet_step (fail) | quiet_step (fail)
 refine wpQuiet_nil ?_
 refine RP.walkR_any ?_
 simp only[dsc_,dz_,tsc_,tz_]
 first | go_big_quiet_step (fail) | quiet_step (fail)
 refine wpQuiet_nil ?_
 refine RP.walkR_any ?_
 simp only[dsc_,dz_,tsc_,tz_]
 first | go_big_quiet_step (fail) | quiet_step (fail)
 refine wpQuiet_nil ?_
 refine RP.walkR_read ?_
 simp only[dsc_,dz_,tsc_,tz_]
 first | go_big_quiet_step (fail) | quiet_step (fail)
 refine wpQuiet_nil ?_
 refine RP.walkR_any ?_
 simp only[dsc_,dz_,tsc_,tz_]
 first | go_big_quiet_step (fail) | quiet_step (fail)
 refine wpQuiet_nil ?_
 refine RP.walkR_any ?_
 simp only[dsc_,dz_,tsc_,tz_]
 first | go_big_quiet_step (fail) | quiet_step (fail)
 refine wpQuiet_nil ?_
 refine RP.walkR_any ?_
 simp only[dsc_,dz_,tsc_,tz_]
 first | go_big_quiet_step (fail) | quiet_step (fail)
 refine wpQuiet_nil ?_
 refine RP.walkR_any ?_
 simp only[dsc_,dz_,tsc_,tz_]
 first | go_big_quiet_step (fail) | quiet_step (fail)
 refine wpQuiet_nil ?_
 refine RP.walkR_any ?_
 simp only[dsc_,dz_,tsc_,tz_]
 first | go_big_quiet_step (fail) | quiet_step (fail)
 refine wpQuiet_nil ?_
 refine RP.walkR_read ?_
 simp only[dsc_,dz_,tsc_,tz_]
 first | go_big_quiet_step (fail) | quiet_step (fail)
 refine wpQuiet_nil ?_
 refine RP.walkR_any ?_
 simp only[dsc_,dz_,tsc_,tz_]
 first | go_big_quiet_step (fail) | quiet_step (fail)
 refine wpQuiet_nil ?_
 refine RP.walkR_any ?_
 simp only[dsc_,dz_,tsc_,tz_]
 first | go_big_quiet_step (fail) | quiet_step (fail)
 refine wpQuiet_nil ?_
 refine RP.walkR_read ?_
 simp only[dsc_,dz_,tsc_,tz_]
 first | go_big_quiet_step (fail) | quiet_step (fail)
 refine wpQuiet_nil ?_
 refine RP.walkR_any ?_
 simp only[dsc_,dz_,tsc_,tz_]
 first | go_big_quiet_step (fail) | quiet_step (fail)
 refine wpQuiet_nil ?_
 refine RP.walkR_any ?_
 simp only[dsc_,dz_,tsc_,tz_]
 first | go_big_quiet_step (fail) | quiet_step (fail)
 refine wpQuiet_nil ?_
 refine RP.walkR_any ?_
 simp only[dsc_,dz_,tsc_,tz_]
 first | go_big_quiet_step (fail) | quiet_step (fail)
 refine wpQuiet_nil ?_
 refine RP.walkR_any ?_
 simp only[dsc_,dz_,tsc_,tz_]
 first | go_big_quiet_step (fail) | quiet_step (fail)
 refine wpQuiet_nil ?_
 refine RP.walkR_any ?_
 simp only[dsc_,dz_,tsc_,tz_]
 first | go_big_quiet_step (fail) | quiet_step (fail)
 refine wpQuiet_nil ?_
 refine RP.walkR_any ?_
 simp only[dsc_,dz_,tsc_,tz_]
 first | go_big_quiet_step (fail) | quiet_step (fail)
 refine wpQuiet_nil ?_
 refine RP.walkR_any ?_
 simp only[dsc_,dz_,tsc_,tz_]
 first | go_big_quiet_step (fail) | quiet_step (fail)
 refine wpQuiet_nil ?_
 refine RP.walkR_read ?_
 simp only[dsc_,dz_,tsc_,tz_]
 first | go_big_quiet_step (fail) | quiet_step (fail)
 refine wpQuiet_nil ?_
 refine RP.walkR_move ?_
 simp only[dsc_,dz_,tsc_,tz_]
 go_wp2_with fail
 refine cm_ (N5.out _ (B17.out.trans (I.out.mono B17.out.size))) ?_
 rintro e_ y1 ⟨rfl,hb_⟩
 have J1:Hid (Below w17.heap.size w17 y1):=I.out.trans (hb_.mono I.out.size)
 clear hb_ I
 go_wp2_with fail
 refine⟨⟨⟨_,J1.out⟩,rfl⟩,?_⟩
 refine RP.walkR_any ?_
 simp only[dsc_,dz_,tsc_,tz_]
 refine BigFrame.wpQuiet_want rfl fun K hK=>quiet_eqlQ _ _ _ q5 q5 rfl rfl rfl (hK _ ?_)
 refine wpQuiet_nil ?_
 refine RP.walkR_any ?_
 simp only[dsc_,dz_,tsc_,tz_]
 first | go_big_quiet_step (fail) | quiet_step (fail)
 refine wpQuiet_nil ?_
 refine RP.walkR_any ?_
 simp only[dsc_,dz_,tsc_,tz_]
 first | go_big_quiet_step (fail) | quiet_step (fail)
 refine wpQuiet_nil ?_
 refine RP.walkR_read ?_
 simp only[dsc_,dz_,tsc_,tz_]
 first | go_big_quiet_step (fail) | quiet_step (fail)
 refine wpQuiet_nil ?_
 clear hnon q0 q1 q2 q3 q4 q5' q6' q7 q8 q9 qr
 refine RP.walkR_move ?_
 simp only[dsc_,dz_,tsc_,tz_]
 go_wp2_with fail
 refine cm_ (N6.out _ (B17.out.trans (J1.out.mono B17.out.size))) ?_
 rintro e_ y2 ⟨rfl,hb_⟩
 have J2:Hid (Below w17.heap.size w17 y2):=J1.out.trans (hb_.mono J1.out.size)
 clear hb_ J1
 go_wp2_with fail
 refine⟨⟨⟨_,J2.out⟩,rfl⟩,?_⟩
 refine RP.walkR_any ?_
 simp only[dsc_,dz_,tsc_,tz_]
 refine BigFrame.wpQuiet_want rfl fun K hK=>quiet_eqlQ _ _ _ q6 q6 rfl rfl rfl (hK _ ?_)
 refine wpQuiet_nil ?_
 refine RP.walkR_any ?_
 simp only[dsc_,dz_,tsc_,tz_]
 first | go_big_quiet_step (fail) | quiet_step (fail)
 refine wpQuiet_nil ?_
 refine RP.walkR_any ?_
 simp only[dsc_,dz_,tsc_,tz_]
 first | go_big_quiet_step (fail) | quiet_step (fail)
 refine wpQuiet_nil ?_
 refine RP.walkR_any ?_
 simp only[dsc_,dz_,tsc_,tz_]
 first | go_big_quiet_step (fail) | quiet_step (fail)
 refine wpQuiet_nil ?_
 refine RP.walkR_any ?_
 simp only[dsc_,dz_,tsc_,tz_]
 first | go_big_quiet_step (fail) | quiet_step (fail)
 refine wpQuiet_nil ?_
 refine RP.walkR_any ?_
 simp only[dsc_,dz_,tsc_,tz_]
 first | go_big_quiet_step (fail) | quiet_step (fail)
 refine wpQuiet_nil ?_
 refine RP.walkR_any ?_
 simp only[dsc_,dz_,tsc_,tz_]
 first | go_big_quiet_step (fail) | quiet_step (fail)
 refine wpQuiet_nil ?_
 refine RP.walkR_any ?_
 simp only[dsc_,dz_,tsc_,tz_]
 first | go_big_quiet_step (fail) | quiet_step (fail)
 refine wpQuiet_nil ?_
 refine RP.walkR_any ?_
 simp only[dsc_,dz_,tsc_,tz_]
 first | go_big_quiet_step (fail) | quiet_step (fail)
 refine wpQuiet_nil ?_
 refine RP.walkR_any ?_
 simp only[dsc_,dz_,tsc_,tz_]
 first | go_big_quiet_step (fail) | quiet_step (fail)
 refine wpQuiet_nil ?_
 refine RP.walkR_move ?_
 simp only[dsc_,dz_,tsc_,tz_]
 go_wp2_with fail
 simp only[RP.walkR]
 go_wp2_with fail
 go_ret
 exact⟨rfl,B17.out.trans (J2.out.mono B17.out.size)⟩
structure TwoS (w:World) (ps:List Int) (a0 a1 a2:Option Addr) (l1 l2:Pairs):Prop where
 rp:Rd w a0 (ints ps)
 hi:I64s ps
 hl:ps.length≤1000
 r1:Rd w a1 (cellsS l1)
 r2:Rd w a2 (cellsS l2)
 n1:l1.length≤1000
 n2:l2.length≤1000
 s1:Ssz l1
 s2:Ssz l2
 L:Laid w
theorem TwoS.all{w W:World}{ps:List Int}{a0 a1 a2:Option Addr}{l1 l2:Pairs}(H:TwoS w ps a0 a1 a2 l1 l2)(hW:Below w.heap.size w W){g c0 c1 c2:Nat}(hg:W.heap[g]?=some (.cells #[.slice a1 l1.length c1,.slice a2 l2.length c2] 38 (0,0))):
  Gives Tryz.prog 107 #[.slice a0 ps.length c0,.slice (some ⟨g,0,none⟩) 2 2] W (.int .i64 (lcode ps [l1,l2])) :=
 checkAll_any W a0 _ c0 2 ps [l1,l2] (H.rp.below hW nr_) H.hi (Nat.le_trans H.hl (by decide)) (rdl_two hg (H.r1.below hW nr_) (H.r2.below hW nr_)) (by simp)
  (by intro l hl;simp only[List.mem_cons,List.not_mem_nil,or_false] at hl;rcases hl with rfl | rfl;exact⟨Nat.le_trans H.n1 (by decide),H.s1⟩;exact⟨Nat.le_trans H.n2 (by decide),H.s2⟩) (H.L.below hW)
def okE (s:ByteArray):Prop:=s.size≤5∨(31<s.size∧s.size≤40)
instance (s:ByteArray):Decidable (okE s):=inferInstanceAs (Decidable (_∨_))
theorem digits2_dec(w:World)(n:Nat):Gives Tryz.prog 116 #[.string (dec n)] w (.string (dec n)):=by
 unfold Gives
 have hix:∀ W,(Instr.index 25 (.string (dec n)) (.int .i64 0)).run Tryz.prog W = .ok (.int .u8 ((lb (dec n)).getD 0 0).toNat) W:=fun W=>idx0 W _ (dec_sizepos n)
 have hf:=dec_first n
 have hs:=dec_sizepos n
 have hs':(0:Int)<(dec n).size:=by omega
 generalize ((lb (dec n)).getD 0 0).toNat=c at *
 have hc:((c:Int)==45)=false:=by rw[beq_eq_false_iff_ne];omega
 clear hf
 generalize dec n=s at *
 go_enter Tryz.func116,Tryz.ntmps116
 go_wp2
 go_ret
 exact⟨rfl,Below.refl _ _⟩
theorem of2_any(w:World)(z:Int)(h0 : -9223372036854775808≤z)(h1:z≤9223372036854775807)(L:Laid w):
  Gives Tryz.prog 118 #[.int .i64 z] w (.string (itx z)):=by
 unfold Gives
 have HI:=hd_ (itoa_any w z h0 h1 L)
 generalize itx z=s at *
 clear h0 h1 L
 go_enter Tryz.func118,Tryz.ntmps118
 go_wp2_with fail
 refine cm_ HI.out ?_
 rintro e w1 ⟨rfl,hb⟩
 have B1:=hd_ hb
 clear hb HI
 go_wp2_with fail
 go_ret
 exact⟨rfl,B1.out⟩
theorem small2_dec(w:World)(n:Nat)(hn:(dec n).size≤18):
  Gives Tryz.prog 185 #[.string (dec n)] w (.tuple #[.int .i64 n,.bool true]):=by
 unfold Gives
 have hix:∀ W,(Instr.index 9 (.string (dec n)) (.int .i64 0)).run Tryz.prog W = .ok (.int .u8 ((lb (dec n)).getD 0 0).toNat) W:=fun W=>idx0 W _ (dec_sizepos n)
 have hf:=dec_first n
 have hs:=dec_sizepos n
 have hs':(0:Int)<(dec n).size:=by omega
 have hs2:((0:Int)==(dec n).size)=false:=by rw[beq_eq_false_iff_ne];omega
 have Hd:Hid (Digs (lb (dec n))):=by show Digs _;rw[lb_dec];exact dec_digs n
 have Hlb:=hd_ (lb_length (dec n))
 have Hval:Hid (dval (lb (dec n))=n):=by show _=_;rw[lb_dec];exact dval_dec n
 generalize ((lb (dec n)).getD 0 0).toNat=c at *
 have hc:((c:Int)==45)=false:=by rw[beq_eq_false_iff_ne];omega
 clear hf
 generalize dec n=s at *
 go_enter Tryz.func185,Tryz.ntmps185
 go_wp2_with fail
 go_loop [7,5] (fun n i=>∃ t:Nat,t≤s.size∧i = .int .i64 t∧n = .int .i64 (-((dval ((lb s).take t):Nat):Int))) (fun _ i=>s.size-(intOf i).toNat)
 case atStart=>exact⟨0,Nat.zero_le _,rfl,rfl⟩
 case round =>
  obtain⟨t,ht,rfl,rfl⟩:=hrel
  have hD:=dval_take_lt18 Hd.out t (by omega)
  by_cases hlt:t<s.size
  ·have hlt':(t:Int)<s.size:=by omega
   have hts:=dval_take_succ (lb s) t (by rw[Hlb.out];exact hlt)
   have hcd:=Hd.out ((lb s).getD t 0) (by rw[List.getD_eq_getElem?_getD,List.getElem?_eq_getElem (by rw[Hlb.out];exact hlt)];exact List.getElem_mem _)
   have hg:(lb s).getD t 0=s[t]'hlt:=by
    rw[List.getD_eq_getElem?_getD,List.getElem?_eq_getElem (by rw[Hlb.out];exact hlt)];rfl
   have hD1:dval ((lb s).take t)<100000000000000000:=by
    have h1:=dval_lt (Hd.out.take t)
    have h2:10^((lb s).take t).length≤10^17:=Nat.pow_le_pow_right (by decide) (by simp;omega)
    exact Nat.lt_of_lt_of_le h1 h2
   rw[hg] at hts hcd
   clear hg hD
   have Hts:=hd_ hts
   clear hts
   generalize dval ((lb s).take t)=D at *
   generalize hbb:(s[t]'hlt).toNat=b at *
   obtain⟨hc1,hc2⟩:=hcd
   have e1:IntKind.i64.wrap ((b:Int)-48)=(b:Int)-48:=iw_ _ (by omega)
   have e2:IntKind.i64.wrap (-9223372036854775808+((b:Int)-48)) = -9223372036854775808+((b:Int)-48):=iw_ _ (by omega)
   have e3:IntKind.i64.wrap (-(D:Int)*10) = -(D:Int)*10:=iw_ _ (by omega)
   have e4:IntKind.i64.wrap (-(D:Int)*10-((b:Int)-48)) = -(D:Int)*10-((b:Int)-48):=iw_ _ (by omega)
   have e5:IntKind.i64.wrap ((t:Int)+1)=((t+1:Nat):Int):=by rw[← Int.natCast_succ];exact iw_ _ (by omega)
   have q1:Int.tdiv (-9223372036854775808+((b:Int)-48)) 10 ≤ -100000000000000000:=by
    have:=Int.mul_tdiv_add_tmod (-9223372036854775808+((b:Int)-48)) 10
    have:=Int.tmod_lt_of_pos (-9223372036854775808+((b:Int)-48)) (show (0:Int)<10 by decide)
    have:=Int.lt_tmod_of_pos (-9223372036854775808+((b:Int)-48)) (show (0:Int)<10 by decide)
    omega
   have q2 : -1000000000000000000≤Int.tdiv (-9223372036854775808+((b:Int)-48)) 10:=by
    have:=Int.mul_tdiv_add_tmod (-9223372036854775808+((b:Int)-48)) 10
    have:=Int.tmod_lt_of_pos (-9223372036854775808+((b:Int)-48)) (show (0:Int)<10 by decide)
    have:=Int.lt_tmod_of_pos (-9223372036854775808+((b:Int)-48)) (show (0:Int)<10 by decide)
    omega
   obtain⟨Q,hQ⟩:∃ Q,Int.tdiv (-9223372036854775808+((b:Int)-48)) 10=Q:=⟨_,rfl⟩
   rw[hQ] at q1 q2
   have e6:IntKind.i64.wrap Q=Q:=iw_ _ (by omega)
   have n1:¬ ((b:Int)-48<0):=by omega
   have n2:¬ (9<(b:Int)-48):=by omega
   have n3:¬ (-(D:Int)<Q):=by omega
   go_wp2_with fail
   refine⟨⟨t+1,by omega,by go_num,by rw[Hts.out];congr 1;omega⟩,by simp[intOf];omega⟩
  ·have hlt':¬ (t:Int)<s.size:=by omega
   have hts:t=s.size:=by omega
   have Hf:Hid (dval ((lb s).take t)=n):=by
    show _=_
    rw[hts,← Hlb.out,List.take_length];exact Hval.out
   rw[Hf.out] at hD ⊢
   have n1:(-(n:Int) == -9223372036854775808)=false:=by rw[beq_eq_false_iff_ne];omega
   have e1:IntKind.i64.wrap (0 - -(n:Int))=(n:Int):=by rw[show 0 - -(n:Int)=n by omega];exact iw_ _ (by omega)
   have e2:IntKind.i64.wrap (n:Int)=(n:Int):=iw_ _ (by omega)
   go_wp2_with fail
   go_ret2
   exact⟨rfl,Below.refl _ _⟩
theorem quick2_dec(w:World)(n:Nat):
  Gives Tryz.prog 117 #[.string (dec n)] w (if (dec n).size≤18 then .tuple #[.int .i64 n,.bool true] else .tuple #[.int .i64 0,.bool false]):=by
 unfold Gives
 have HD:=hd_ (fun W=>digits2_dec W n)
 by_cases h:(dec n).size≤18
 ·rw[if_pos h]
  have HS:=hd_ (fun W=>small2_dec W n h)
  have h':¬ (18:Int)<(dec n).size:=by omega
  generalize dec n=s at *
  go_enter Tryz.func117,Tryz.ntmps117
  go_wp2_with fail
  refine cm_ (HD.out _) ?_
  rintro e w1 ⟨rfl,hb⟩
  have B1:=hd_ hb
  clear hb HD
  go_wp2_with fail
  refine cm_ (HS.out _) ?_
  rintro e w2 ⟨rfl,hb⟩
  have B2:=hd_ (B1.out.trans (hb.mono B1.out.size))
  clear hb HS B1
  go_wp2_with fail
  go_ret2
  exact⟨rfl,B2.out⟩
 ·rw[if_neg h]
  have h':(18:Int)<(dec n).size:=by omega
  generalize dec n=s at *
  go_enter Tryz.func117,Tryz.ntmps117
  go_wp2_with fail
  refine cm_ (HD.out _) ?_
  rintro e w1 ⟨rfl,hb⟩
  have B1:=hd_ hb
  clear hb HD
  go_wp2_with fail
  go_ret2
  exact⟨rfl,B1.out⟩
theorem sign2_dec(w:World)(n:Nat):Gives Tryz.prog 134 #[.string (dec n)] w (.int .i64 (if n=0 then 0 else 1)):=by
 unfold Gives
 by_cases h0:n=0
 ·subst h0
  rw[if_pos rfl,show dec 0=⟨#[48]⟩ from by rw[← zero_txt.1];exact(itx_nat 0).symm]
  go_enter Tryz.func134,Tryz.ntmps134
  go_wp2
  go_ret
  exact⟨rfl,Below.refl _ _⟩
 ·rw[if_neg h0]
  have hix:∀ W,(Instr.index 25 (.string (dec n)) (.int .i64 0)).run Tryz.prog W = .ok (.int .u8 ((lb (dec n)).getD 0 0).toNat) W:=fun W=>idx0 W _ (dec_sizepos n)
  have hf:=dec_first n
  have hq:=itx_isz (n:Int)
  rw[itx_nat,decide_eq_false (by omega)] at hq
  generalize ((lb (dec n)).getD 0 0).toNat=c at *
  have hc:((c:Int)==45)=false:=by rw[beq_eq_false_iff_ne];omega
  clear hf h0
  generalize dec n=s at *
  go_enter Tryz.func134,Tryz.ntmps134
  go_wp2
  go_ret
  exact⟨rfl,Below.refl _ _⟩
theorem side2_dec(w:World)(n:Nat):Gives Tryz.prog 120 #[.string (dec n)] w (.int .i64 1):=by
 unfold Gives
 obtain⟨z,hz,hz2⟩:∃ z:Int,(if n=0 then (0:Int) else 1)=z∧0≤z:=⟨_,rfl,by split<;>decide⟩
 have HS:=hd_ (fun W=>sign2_dec W n)
 rw[hz] at HS
 have hz3:¬ z<0:=by omega
 clear hz
 generalize dec n=s at *
 go_enter Tryz.func120,Tryz.ntmps120
 go_wp2_with fail
 refine cm_ (HS.out _) ?_
 rintro e w1 ⟨rfl,hb⟩
 have B1:=hd_ hb
 clear hb HS
 go_wp2_with fail
 go_ret
 exact⟨rfl,B1.out⟩
def nI (l:List Nat):List Int:=l.map fun x:Nat=>(x:Int)
theorem nI_length(l:List Nat):(nI l).length=l.length:=List.length_map ..
theorem nI_take(l:List Nat)(k:Nat):(nI l).take k=nI (l.take k):=List.map_take.symm
theorem nI_append(l m:List Nat):nI (l++m)=nI l++nI m:=List.map_append
theorem nI_set(l:List Nat)(k x:Nat):(nI l).set k (x:Int)=nI (l.set k x):=by
 unfold nI
 rw[List.map_set]
theorem nI_get(l:List Nat)(i:Nat)(hi:i<l.length)(h:i<(nI l).length):(nI l)[i]=((l.getD i 0:Nat):Int):=by
 simp only[nI,List.getElem_map]
 rw[List.getD_eq_getElem?_getD,List.getElem?_eq_getElem hi];rfl
theorem nI_cell{w:World}{a:Option Addr}{l:List Nat}(h:Rd w a (ints (nI l)))(k:Nat)(hk:k<l.length):∃ b off,a=some ⟨b,off,none⟩∧b<w.heap.size∧∀ i,i<l.length→w.cell? ⟨b,off+i,none⟩=some (.int .i64 (l.getD i 0:Nat)):=by
 obtain⟨b,off,rfl,hb,hc⟩:=h.open (by rw[ints_length,nI_length];omega)
 refine⟨b,off,rfl,hb,fun i hi=>hc i _ ?_⟩
 have h1:i<(nI l).length:=by rw[nI_length];exact hi
 rw[ints_get (nI l) i h1,nI_get l i hi h1]
theorem trim2_any(w:World)(a:Option Addr)(c:Nat)(l:List Nat)(hr:Rd w a (ints (nI l)))(hp:Pcs l)(hl:l.length≤1000000)(hc:l.length≤c):
  Gives Tryz.prog 186 #[.slice a l.length c] w (.slice a (limbs (val l)).length c):=by
 unfold Gives
 have Hr:=hd_ hr
 have Hp:=hd_ hp
 clear hr hp
 generalize hn:l.length=n at *
 have Hn:=hd_ hn
 clear hn
 go_enter Tryz.func186,Tryz.ntmps186
 go_wp2_with fail
 go_loop [3] (fun s=>∃ m:Nat,m≤n∧s = .int .i64 m∧Hid (val (l.take m)=val l)) (fun s=>(intOf s).toNat)
 case atStart=>exact⟨n,Nat.le_refl _,rfl,by show _=_;rw[← Hn.out,List.take_length]⟩
 case round =>
  obtain⟨m,hm,rfl,Hv⟩:=hrel
  by_cases h0:m=0
  ·subst h0
   have Hlen:Hid ((limbs (val l)).length=0):=by
    show _=_
    rw[← limbs_take l Hp.out 0 (Nat.zero_le _) Hv.out (.inl rfl)];simp
   go_wp2_with fail
   go_ret
   exact⟨by rw[Hlen.out];rfl,Below.refl _ _⟩
  ·obtain⟨k,rfl⟩:∃ k,m=k+1:=⟨m-1,by omega⟩
   obtain⟨b,off,rfl,hb,hcells⟩:=nI_cell Hr.out k (by rw[Hn.out];omega)
   have cx:=hcells k (by rw[Hn.out];omega)
   have ew:IntKind.i64.wrap (((k+1:Nat):Int)-1)=(k:Nat):=by rw[show ((k+1:Nat):Int)-1=k by omega];exact iw_ _ (by omega)
   have ew':IntKind.i64.wrap ((k:Int)+1-1)=(k:Nat):=by rw[show (k:Int)+1-1=k by omega];exact iw_ _ (by omega)
   have hpos:(0:Int)<(k:Int)+1:=by omega
   clear hcells
   by_cases hz:l.getD k 0=0
   ·have Hv2:Hid (val (l.take k)=val l):=by
     show _=_
     have:=val_take_zero l (k+1) (by omega) (by rw[Hn.out];omega) hz
     rw[Nat.add_sub_cancel] at this
     rw[this];exact Hv.out
    rw[hz] at cx
    clear hz Hv
    go_wp2_with fail
    refine⟨⟨k,by omega,rfl,Hv2⟩,by simp[intOf]⟩
   ·have Hlen:Hid ((limbs (val l)).length=k+1):=by
     show _=_
     rw[← limbs_take l Hp.out (k+1) (by rw[Hn.out];exact hm) Hv.out (.inr hz),List.length_take,Hn.out]
     omega
    have hq:(((l.getD k 0:Nat):Int)==0)=false:=by rw[beq_eq_false_iff_ne];omega
    clear Hv hz
    generalize l.getD k 0=x at *
    go_wp2_with fail
    go_ret
    exact⟨by rw[Hlen.out];rfl,Below.refl _ _⟩
theorem OwnI.cap2{w:World}{B c:Nat}{a:Option Addr}{l:List Int}(h:OwnI w B a c l):l.length≤c:=by
 rcases h.2 with⟨h1,h0⟩|⟨g,cap,cur,h1,h2,h3,h4,h5⟩
 ·rw[h0];exact Nat.zero_le _
 ·simp only[Value.slice.injEq] at h1
  obtain⟨-,-,rfl⟩:=h1
  exact h4
def GivesN (f:FuncId) (args:Array Value) (w:World) (n:Nat):Prop :=
 Calls Tryz.prog f args w fun e w'=>∃ a c,e = .returned (.slice a (limbs n).length c)∧Rd w' a (ints (nI (limbs n)))∧(limbs n).length≤c∧Below w.heap.size w w'
structure SpAt (d j:Nat) (a:Option Addr) (c:Nat) (w wr:World):Prop where
 own:OwnI wr w.heap.size a c (nI (digs9 d j))
 bel:Below w.heap.size w wr
theorem split2_any(s:ByteArray)(w:World)(hd:Digs (lb s))(hl:s.size≤9000000):
  GivesN 122 #[.string s] w (dval (lb s)):=by
 unfold GivesN
 have Hd:=hd_ hd
 clear hd
 have Hlb:=hd_ (lb_length s)
 obtain⟨S,hS⟩:∃ S,S=s.size:=⟨_,rfl⟩
 have HS:=hd_ hS
 rw[← hS] at hl
 clear hS
 go_enter Tryz.func122,Tryz.ntmps122
 go_wp2_with fail
 go_loopw [0,3] (fun x o wr=>∃ (j e:Nat) (X:ByteArray) (a:Option Addr) (c:Nat),9*j<S+9∧e=S-9*j∧X.size=e∧x = .string X∧o = .slice a j c∧Hid (lb X=(lb s).take e)∧Hid (SpAt (dval (lb s)) j a c w wr)) (fun x _ _=>match x with | .string X=>X.size | _=>0)
 case atStart =>
  refine⟨0,S,s,none,0,by omega,by omega,HS.out.symm,rfl,rfl,?_,⟨OwnI.nil w w.heap.size,Below.refl _ _⟩⟩
  show _=_
  rw[HS.out,← Hlb.out,List.take_length]
 case round =>
  obtain⟨j,e,X,a,c,hj,he,hX,rfl,rfl,HX,HC⟩:=hrel
  by_cases hpos:0<e
  ·obtain⟨lo,hlo⟩:∃ lo,lo=e-9:=⟨_,rfl⟩
   obtain⟨K,hK⟩:∃ K,K=min 9 e:=⟨_,rfl⟩
   have hek:e=lo+K:=by omega
   have hK0:0<K:=by omega
   have hK9:K≤9:=by omega
   have Hdv:Hid (dval (((lb s).drop lo).take K)=dval (lb s)/1000000000^j%1000000000):=by
    show _=_
    have h:=chunk_val (lb s) Hd.out j (by rw[Hlb.out,← HS.out];omega)
    rw[Hlb.out,← HS.out,← he,← hlo,← hK] at h
    exact h
   have hXl:(lb X).length=e:=by rw[lb_length,hX]
   have Hch:Hid (∀ t,t<K→∃ h:lo+t<X.size,(((lb s).drop lo).take K).getD t 0=X[lo+t]'h):=fun t ht=>by
    have h0:lo+t<X.size:=by omega
    refine⟨h0,?_⟩
    have e1:X[lo+t]'h0=(lb X).getD (lo+t) 0:=by
     rw[List.getD_eq_getElem?_getD,List.getElem?_eq_getElem (by rw[hXl];omega)];rfl
    rw[e1,HX.out]
    simp only[List.getD_eq_getElem?_getD,List.getElem?_take,List.getElem?_drop]
    rw[if_pos ht,if_pos (by omega)]
   have Hdc:Hid (Digs (((lb s).drop lo).take K)):=(Hd.out.drop _).take _
   have Hlc:Hid ((((lb s).drop lo).take K).length=K):=by
    show _=_
    simp only[List.length_take,List.length_drop,Hlb.out,← HS.out];omega
   have Hnx:Hid ((X.extract 0 lo).size=lo∧lb (X.extract 0 lo)=(lb s).take lo∧lo=S-9*(j+1)):=by
    refine⟨by rw[ByteArray.size_extract];omega,?_,by omega⟩
    rw[lb_extract,HX.out,List.drop_zero,List.take_take]
    congr 1;omega
   have hj2:9*(j+1)<S+9:=by omega
   have hez:(0:Int)<e:=by omega
   clear hXl HX
   generalize ((lb s).drop lo).take K=ch at *
   have Hek:=hd_ hek
   have heS:e≤9000000:=by omega
   have Hlo:Hid (lo=e-9):=hlo
   clear he hlo hK hek
   have HXs:=hd_ hX
   -- the digits of one piece
   have Hin:Hid (∀ t,t≤K→(t<K↔((lo:Int)+t<e))):=fun t ht=>by have:=Hek.out;constructor<;>intro h<;>omega
   by_cases h9:(9:Int)<e
   ·have hw:IntKind.i64.wrap ((e:Int)-9)=(lo:Nat):=by
     have:=Hlo.out
     rw[show (e:Int)-9=(lo:Nat) by omega];exact iw_ _ (by omega)
    go_wp2_with fail
    go_loopw [5,6] (fun n i w2=>∃ t:Nat,t≤K∧i = .int .i64 ((lo:Int)+t)∧n = .int .i64 (dval (ch.take t):Nat)∧Hid (w2=wr)) (fun _ i _=>e-(intOf i).toNat)
    case atStart=>exact⟨0,Nat.zero_le _,by simp,rfl,rfl⟩
    case round =>
     obtain⟨t,ht,rfl,rfl,Hww⟩:=hrel
     have hww:=Hww.out
     subst hww
     clear Hww
     have hD:=dval_take_lt Hdc.out t (by omega)
     by_cases hlt:t<K
     ·obtain⟨hlo2,hcx⟩:=Hch.out t hlt
      have hts:=dval_take_succ ch t (by rw[Hlc.out];exact hlt)
      have hcd:=Hdc.out (ch.getD t 0) (by rw[List.getD_eq_getElem?_getD,List.getElem?_eq_getElem (by rw[Hlc.out];exact hlt)];exact List.getElem_mem _)
      have Hts:=hd_ hts
      clear hts
      generalize dval (ch.take t)=D at *
      rw[hcx] at hcd Hts
      clear hcx
      generalize hb:(X[lo+t]'hlo2).toNat=b at *
      obtain⟨hc1,hc2⟩:=hcd
      have hlt':(lo:Int)+t<e:=(Hin.out t ht).1 hlt
      have e1:IntKind.u8.wrap ((b:Int)-48)=(b:Int)-48:=IntKind.wrap_u8 _ ▸ by omega
      have e2:IntKind.i64.wrap (10*(D:Int))=10*(D:Int):=iw_ _ (by omega)
      have e3:IntKind.i64.wrap (10*(D:Int)+((b:Int)-48))=10*(D:Int)+((b:Int)-48):=iw_ _ (by omega)
      have e4:IntKind.i64.wrap ((lo:Int)+t+1)=(lo:Int)+t+1:=iw_ _ (by omega)
      go_wp2_with fail
      refine⟨⟨t+1,by omega,by go_num,by rw[Hts.out];congr 1;omega,trivial⟩,by simp[intOf];omega⟩
     ·obtain rfl:t=K:=by omega
      have hDt:dval (ch.take t)=dval (lb s)/1000000000^j%1000000000:=by
       rw[← Hlc.out,List.take_length];exact Hdv.out
      have HDt:=hd_ hDt
      clear hDt
      generalize dval (ch.take t)=D at *
      have hlt':¬ (lo:Int)+t<e:=fun h=>hlt ((Hin.out t ht).2 h)
      have hrow:wr.ownsRow w.heap.size 3 1 (.slice a j c) j (ints (nI (digs9 (dval (lb s)) j))):=by have:=HC.out.own;unfold OwnI at this;rw[nI_length,digs9_length] at this;exact this
      have Hrow:=hd_ hrow
      clear hrow
      have hloe:((lo:Nat):Int)≤e:=by have:=Hek.out;omega
      have hlo0:(0:Int)≤lo:=by omega
      have hloS:lo≤e:=by have:=Hek.out;omega
      go_wp2_with (at_builtin;refine wpList_append_new rfl (.tmp 31) (.tmp 33) 35 rfl elInt _ 1 [.int .i64 D] rfl rfl Hrow.out HC.out.bel.size rfl ?c1 (by omega) (by omega) ?_)
      case c1=>first | rfl | (intro u hu;obtain rfl:=List.mem_singleton.1 hu;rfl)
      intro v' w3 hown3 hg3 _
      obtain⟨a3,c3,rfl⟩:=own_form hown3
      have HC3:Hid (SpAt (dval (lb s)) (j+1) a3 c3 w w3):=by
       refine⟨?_,(HC.out.bel.alloc HC.out.bel.size _).grown hg3 (by have:=HC.out.bel.size;simp;omega) (fun k hk=>(Hrow.out.lt k hk).1)⟩
       unfold OwnI
       rw[nI_length,digs9_length,digs9_succ,nI_append,ints_append]
       have:=hown3
       rw[HDt.out] at this
       exact this
      clear hown3 hg3 HC
      go_wp2_with fail
      obtain⟨m1,m2,m3⟩:=Hnx.out
      refine⟨⟨j+1,lo,X.extract 0 lo,a3,c3,hj2,m3,m1,rfl,rfl,m2,HC3⟩,?_⟩
      show (X.extract 0 lo).size<X.size
      have:=Hek.out
      omega
   ·have hz0:lo=0:=by have:=Hlo.out;omega
    subst hz0
    replace Hch:Hid (∀ t,t<K→∃ h:t<X.size,ch.getD t 0=X[t]'h):=fun t ht=>by
     obtain⟨h,e1⟩:=Hch.out t ht
     simp only[Nat.zero_add] at h e1
     exact⟨h,e1⟩
    replace Hin:Hid (∀ t:Nat,t≤K→(t<K↔((t:Int)<e))):=fun t ht=>by
     have:=Hin.out t ht
     rw[show ((0:Nat):Int)+(t:Int)=t by omega] at this
     exact this
    go_wp2_with fail
    go_loopw [5,6] (fun n i w2=>∃ t:Nat,t≤K∧i = .int .i64 (t:Int)∧n = .int .i64 (dval (ch.take t):Nat)∧Hid (w2=wr)) (fun _ i _=>e-(intOf i).toNat)
    case atStart=>exact⟨0,Nat.zero_le _,by simp,rfl,rfl⟩
    case round =>
     obtain⟨t,ht,rfl,rfl,Hww⟩:=hrel
     have hww:=Hww.out
     subst hww
     clear Hww
     have hD:=dval_take_lt Hdc.out t (by omega)
     by_cases hlt:t<K
     ·obtain⟨hlo2,hcx⟩:=Hch.out t hlt
      have hts:=dval_take_succ ch t (by rw[Hlc.out];exact hlt)
      have hcd:=Hdc.out (ch.getD t 0) (by rw[List.getD_eq_getElem?_getD,List.getElem?_eq_getElem (by rw[Hlc.out];exact hlt)];exact List.getElem_mem _)
      have Hts:=hd_ hts
      clear hts
      generalize dval (ch.take t)=D at *
      rw[hcx] at hcd Hts
      clear hcx
      generalize hb:(X[t]'hlo2).toNat=b at *
      obtain⟨hc1,hc2⟩:=hcd
      have hlt':(t:Int)<e:=(Hin.out t ht).1 hlt
      have e1:IntKind.u8.wrap ((b:Int)-48)=(b:Int)-48:=IntKind.wrap_u8 _ ▸ by omega
      have e2:IntKind.i64.wrap (10*(D:Int))=10*(D:Int):=iw_ _ (by omega)
      have e3:IntKind.i64.wrap (10*(D:Int)+((b:Int)-48))=10*(D:Int)+((b:Int)-48):=iw_ _ (by omega)
      have e4:IntKind.i64.wrap ((t:Int)+1)=(t:Int)+1:=iw_ _ (by omega)
      go_wp2_with fail
      refine⟨⟨t+1,by omega,by go_num,by rw[Hts.out];congr 1;omega,trivial⟩,by simp[intOf];omega⟩
     ·obtain rfl:t=K:=by omega
      have hDt:dval (ch.take t)=dval (lb s)/1000000000^j%1000000000:=by
       rw[← Hlc.out,List.take_length];exact Hdv.out
      have HDt:=hd_ hDt
      clear hDt
      generalize dval (ch.take t)=D at *
      have hlt':¬ (t:Int)<e:=fun h=>hlt ((Hin.out t ht).2 h)
      have hrow:wr.ownsRow w.heap.size 3 1 (.slice a j c) j (ints (nI (digs9 (dval (lb s)) j))):=by have:=HC.out.own;unfold OwnI at this;rw[nI_length,digs9_length] at this;exact this
      have Hrow:=hd_ hrow
      clear hrow
      go_wp2_with (at_builtin;refine wpList_append_new rfl (.tmp 31) (.tmp 33) 35 rfl elInt _ 1 [.int .i64 D] rfl rfl Hrow.out HC.out.bel.size rfl ?c1 (by omega) (by omega) ?_)
      case c1=>first | rfl | (intro u hu;obtain rfl:=List.mem_singleton.1 hu;rfl)
      intro v' w3 hown3 hg3 _
      obtain⟨a3,c3,rfl⟩:=own_form hown3
      have HC3:Hid (SpAt (dval (lb s)) (j+1) a3 c3 w w3):=by
       refine⟨?_,(HC.out.bel.alloc HC.out.bel.size _).grown hg3 (by have:=HC.out.bel.size;simp;omega) (fun k hk=>(Hrow.out.lt k hk).1)⟩
       unfold OwnI
       rw[nI_length,digs9_length,digs9_succ,nI_append,ints_append]
       have:=hown3
       rw[HDt.out] at this
       exact this
      clear hown3 hg3 HC
      go_wp2_with fail
      obtain⟨m1,m2,m3⟩:=Hnx.out
      refine⟨⟨j+1,0,ByteArray.empty,a3,c3,hj2,m3,rfl,rfl,rfl,(show lb ByteArray.empty=List.take 0 (lb s) from by rw[List.take_zero];rfl),HC3⟩,?_⟩
      show (ByteArray.empty).size<X.size
      have:(ByteArray.empty).size=0:=rfl
      omega
  ·have hz:¬ (0:Int)<e:=by omega
   have hv:val (digs9 (dval (lb s)) j)=dval (lb s):=by
    rw[digs9_val,Nat.mod_eq_of_lt]
    have h1:=dval_lt Hd.out
    rw[Hlb.out] at h1
    have h2:10^s.size≤10^(9*j):=Nat.pow_le_pow_right (by decide) (by have:=HS.out;omega)
    rw[show (1000000000:Nat)^j=10^(9*j) by rw[Nat.pow_mul]]
    omega
   have hjl:(digs9 (dval (lb s)) j).length=j:=digs9_length _ _
   have hcap:=HC.out.own.cap2
   rw[nI_length,hjl] at hcap
   have HT:=hd_ (trim2_any wr a c (digs9 (dval (lb s)) j) HC.out.own.rd (digs9_pcs _ _) (by rw[hjl];omega) (by rw[hjl];exact hcap))
   rw[hv,hjl] at HT
   have HR:Hid (Rd wr a (ints (nI (limbs (dval (lb s)))))):=by
    show Rd _ _ _
    have h1:=limbs_prefix (digs9 (dval (lb s)) j) (digs9_pcs _ _)
    rw[hv] at h1
    have h2:=HC.out.own.rd
    rw[← h1,← nI_take,show ∀ (L:List Int) (k:Nat),ints (L.take k)=(ints L).take k from fun L k=>List.map_take]
    exact rd_take h2 _
   have Hle:Hid ((limbs (dval (lb s))).length≤c):=by
    show _≤_
    have h1:=limbs_len_le (digs9 (dval (lb s)) j) (digs9_pcs _ _)
    rw[hv,hjl] at h1;omega
   have HB:=hd_ HC.out.bel
   clear hv hjl hcap he HX HC
   go_wp2_with fail
   refine cm_ HT.out ?_
   rintro e_ w1 ⟨rfl,hb⟩
   have B1:=hd_ (HB.out.trans (hb.mono HB.out.size))
   have R1:=hd_ (HR.out.below hb nr_)
   clear hb HT
   go_wp2_with fail
   go_ret
   exact⟨a,c,rfl,R1.out,Hle.out,B1.out⟩
theorem dec_join{y u:Nat}{x:List UInt8}(hy:0<y)(hd:Digs x)(hl:x.length=9)(hv:dval x=u):Lib.decDigits (u+1000000000*y)=Lib.decDigits y++x:=by
 have h1:=dec_canon y
 have hc:Canon (Lib.decDigits y++x):=by
  refine⟨fun c hc=>?_,fun e=>h1.2.1 (List.append_eq_nil_iff.1 e).1,.inr ?_⟩
  ·rcases List.mem_append.1 hc with h | h
   ·exact h1.1 c h
   ·exact hd c h
  ·rcases h1.2.2 with h2 | h2
   ·have h3:Lib.decDigits y=[UInt8.ofNat (48+y)]:=by
     refine dec_small ?_
     have:=(dec_length y 1 (by decide)).1 (by omega)
     simpa using this
    have h4:y<10:=by
     have:=(dec_length y 1 (by decide)).1 (by omega)
     simpa using this
    rw[h3]
    intro h5
    simp only[List.singleton_append,List.head?_cons,Option.some.injEq] at h5
    have h6:=congrArg UInt8.toNat h5
    simp only[UInt8.toNat_ofNat'] at h6
    have h7:(48:UInt8).toNat=48:=rfl
    omega
   ·cases e:Lib.decDigits y with
    | nil=>exact absurd e h1.2.1
    | cons c t=>rw[e] at h2;exact h2
 rw[canon_dec hc,dval_append,dval_dec,hl,hv]
 congr 1
 omega
theorem val_pos{L:List Nat}(h:L=[]∨L.getD (L.length-1) 0≠0):∀ d k,L.length=k+d+1→0<val (L.drop k)
 | 0,k,hk=>by
  have h1:=val_drop L k (by omega)
  rcases h with h|h
  ·rw[h] at hk;simp at hk
  ·rw[show L.length-1=k by omega] at h
   omega
 | d+1,k,hk=>by
  have h1:=val_drop L k (by omega)
  have h2:=val_pos h d (k+1) (by omega)
  omega
theorem dec_add_txt{y u:Nat}{X:ByteArray}(hy:0<y)(hd:Digs (lb X))(hl:X.size=9)(hv:dval (lb X)=u):dec y++X=dec (u+1000000000*y):=by
 have h:=dec_join hy hd (by rw[lb_length];exact hl) hv
 have e:lb (dec y++X)=lb (dec (u+1000000000*y)):=by
  rw[lb_dec,h]
  unfold lb
  rw[ByteArray.data_append,Array.toList_append]
  rw[show (dec y).data.toList=Lib.decDigits y from lb_dec y]
 rw[← bs_lb (dec y++X),e,bs_lb]
theorem dec_val_size{L:List Nat}(hp:Pcs L)(k:Nat):(dec (val (L.drop k))).size≤9*L.length+1:=by
 rw[dec_size]
 refine(dec_length _ _ (by omega)).2 ?_
 have h1:=val_lt (l:=L.drop k) (fun x hx=>hp x (List.mem_of_mem_drop hx))
 refine Nat.lt_of_lt_of_le h1 ?_
 rw[show (1000000000:Nat)^(L.drop k).length=10^(9*(L.drop k).length) by rw[Nat.pow_mul]]
 exact Nat.pow_le_pow_right (by decide) (by rw[List.length_drop];omega)
theorem join2_any(w:World)(a:Option Addr)(c:Nat)(l:List Nat)(hr:Rd w a (ints (nI l)))(hp:Pcs l)(hl:l.length≤1000000)(hz:l=[]∨l.getD (l.length-1) 0≠0)(L:Laid w):
  Gives Tryz.prog 187 #[.slice a l.length c] w (.string (dec (val l))):=by
 unfold Gives
 by_cases h0:l.length=0
 ·obtain rfl:l=[]:=List.length_eq_zero_iff.1 h0
  rw[show dec (val [])=⟨#[48]⟩ by rw[← zero_txt.1];exact(itx_nat 0).symm]
  rw[List.length_nil]
  clear hr
  go_enter Tryz.func187,Tryz.ntmps187
  go_wp2_with fail
  go_ret
  exact⟨rfl,Below.refl _ _⟩
 ·obtain⟨n,hn⟩:∃ n,l.length=n+1:=⟨l.length-1,by omega⟩
  obtain⟨b,off,rfl,hb,hcells⟩:=nI_cell hr 0 (by omega)
  have Hc:=hd_ (fun W (hW:Below w.heap.size w W) i (hi:i<n+1)=>show W.cell? ⟨b,off+i,none⟩=some (.int .i64 (l.getD i 0:Nat)) from by
   rw[hW.cell (p:=⟨b,off+i,none⟩) hb];exact hcells i (by omega))
  have HI:=hd_ (fun W (hW:Below w.heap.size w W) i=>show Gives Tryz.prog 144 #[.int .i64 (l.getD i 0:Nat)] W (.string (dec (l.getD i 0))) from by
   have h9:=hp.getD i
   have:=itoa_any W ((l.getD i 0:Nat):Int) (by omega) (by omega) (L.below hW)
   rw[itx_nat] at this;exact this)
  have Hv0:Hid (val (l.drop n)=l.getD n 0):=by
   show _=_
   rw[val_drop l n (by omega),List.drop_eq_nil_of_le (by omega)]
   show _+1000000000*0=_
   omega
  have Hvs:=hd_ (fun k (hk:k<n+1)=>val_drop l k (by omega))
  have Hvp:=hd_ (fun k (hk:k<n+1)=>val_pos hz (n-k) k (by omega))
  have Hsz:=hd_ (fun k=>dec_val_size hp k)
  have Hp9:=hd_ (fun i=>hp.getD i)
  have Hd0:Hid (l.drop 0=l):=List.drop_zero
  rw[hn] at Hsz hl ⊢
  have hn1:(((n+1:Nat):Int)==0)=false:=by rw[beq_eq_false_iff_ne];omega
  have hn1':(((n:Int)+1)==0)=false:=by rw[beq_eq_false_iff_ne];omega
  have ew:IntKind.i64.wrap ((n:Int)+1-1)=(n:Nat):=by rw[show (n:Int)+1-1=n by omega];exact iw_ _ (by omega)
  have ew2:IntKind.i64.wrap ((n:Int)+1-2)=(n:Int)-1:=by rw[show (n:Int)+1-2=(n:Int)-1 by omega];exact iw_ _ (by omega)
  have cx:=Hc.out w (Below.refl _ _) n (by omega)
  have HIn:=hd_ (fun W hW=>HI.out W hW n)
  clear hr hp hz L h0 hcells hn
  obtain⟨u0,hu0⟩:∃ u0,l.getD n 0=u0:=⟨_,rfl⟩
  rw[hu0] at cx HIn Hv0
  clear hu0
  go_enter Tryz.func187,Tryz.ntmps187
  go_wp2_with fail
  refine cm_ (HIn.out _ (Below.refl _ _)) ?_
  rintro e_ w1 ⟨rfl,hb1⟩
  have B1:=hd_ hb1
  clear hb1 cx HIn
  go_wp2_with fail
  have hst:dec u0=dec (val (l.drop n)):=by rw[Hv0.out]
  rw[hst]
  clear hst Hv0
  go_loopw [3,4] (fun s i wr=>∃ k:Nat,k≤n∧s = .string (dec (val (l.drop k)))∧i = .int .i64 ((k:Int)-1)∧Hid (Below w.heap.size w wr)) (fun _ i _=>(intOf i+1).toNat)
  case atStart=>exact⟨n,Nat.le_refl _,rfl,rfl,B1⟩
  case round =>
   obtain⟨k,hk,rfl,rfl,B⟩:=hrel
   by_cases hk0:k=0
   ·subst hk0
    have hneg:¬ (0:Int)≤((0:Nat):Int)-1:=by omega
    have hneg2:¬ (0:Int) ≤ -1:=by omega
    rw[Hd0.out]
    go_wp2_with fail
    go_ret
    exact⟨rfl,B.out⟩
   ·obtain⟨q,rfl⟩:∃ q,k=q+1:=⟨k-1,by omega⟩
    have ei:((q+1:Nat):Int)-1=(q:Int):=by omega
    rw[ei]
    have cq:=Hc.out wr B.out q (by omega)
    have ew3:IntKind.i64.wrap ((q:Int)-1)=(q:Int)-1:=iw_ _ (by omega)
    have hvq:=Hvs.out q (by omega)
    have Hvq:=hd_ hvq
    have Hyp:=hd_ (Hvp.out (q+1) (by omega))
    have hsy:=Hsz.out (q+1)
    have hu9:=Hp9.out q
    have hIq:=hd_ (fun W hW=>HI.out W hW q)
    clear hvq ei
    generalize l.getD q 0=u at *
    obtain⟨y,hy⟩:∃ y,val (l.drop (q+1))=y:=⟨_,rfl⟩
    rw[hy] at Hyp hsy Hvq ⊢
    have hu2:(dec u).size≤9:=by
     rw[dec_size];exact(dec_length u 9 (by decide)).2 hu9
    have Hud:Hid (Digs (lb (dec u))):=by show Digs _;rw[lb_dec];exact dec_digs u
    have Huv:Hid (dval (lb (dec u))=u):=by show _=_;rw[lb_dec];exact dval_dec u
    clear hy
    go_wp2_with fail
    refine cm_ (hIq.out _ B.out) ?_
    rintro e_ w2 ⟨rfl,hb2⟩
    have B2:=hd_ (B.out.trans (hb2.mono B.out.size))
    clear hb2 B cq hIq
    go_wp2_with fail
    go_loopw [5] (fun x w'=>∃ X:ByteArray,x = .string X∧X.size≤9∧Hid (Digs (lb X))∧Hid (dval (lb X)=u)∧Hid (w'=w2)) (fun x _=>match x with | .string X=>9-X.size | _=>0)
    case atStart=>exact⟨dec u,rfl,hu2,Hud,Huv,rfl⟩
    case round =>
     obtain⟨X,rfl,hX,Hxd,Hxv,Hww⟩:=hrel
     have hww:=Hww.out
     subst hww
     clear Hww
     by_cases h9:X.size<9
     ·have h9':(X.size:Int)<9:=by omega
      have hX2:lb (⟨#[48]⟩++X)=48::lb X:=by
       unfold lb
       rw[ByteArray.data_append,Array.toList_append];rfl
      have hXs:(⟨#[48]⟩++X:ByteArray).size=X.size+1:=by rw[← lb_length,hX2,List.length_cons,lb_length]
      have HX2:=hd_ hX2
      have HXs:=hd_ hXs
      clear hX2 hXs
      go_wp2_with fail
      refine⟨⟨⟨#[48]⟩++X,rfl,by rw[HXs.out];omega,?_,?_,trivial⟩,?_⟩
      ·show Digs _
       rw[HX2.out]
       intro c hc
       rcases List.mem_cons.1 hc with rfl|h
       ·exact⟨by decide,by decide⟩
       ·exact Hxd.out c h
      ·show _=_
       rw[HX2.out,dval_cons,Hxv.out]
       show (48-48)*_+u=u
       omega
      ·show 9-(⟨#[48]⟩++X:ByteArray).size<9-X.size
       rw[HXs.out];omega
     ·have h9':¬ (X.size:Int)<9:=by omega
      have HT:Hid (dec y++X=dec (val (l.drop q))):=by
       show _=_
       rw[Hvq.out]
       exact dec_add_txt Hyp.out Hxd.out (by omega) Hxv.out
      go_wp2_with fail
      refine⟨⟨q,by omega,by rw[HT.out],rfl,B2⟩,by simp[intOf]⟩
theorem limbs_top2(n:Nat):limbs n=[]∨(limbs n).getD ((limbs n).length-1) 0≠0:=by
 induction n using Nat.strongRecOn with
 | ind n ih =>
  by_cases h:n=0
  ·left;subst h;exact limbs_zero
  ·right
   have e:limbs n=n%1000000000::limbs (n/1000000000):=by rw[limbs,dif_neg h]
   have h1:=ih (n/1000000000) (Nat.div_lt_self (by omega) (by decide))
   rw[e]
   rcases h1 with h2|h2
   ·rw[h2]
    have h3:=val_limbs (n/1000000000)
    rw[h2] at h3
    have h4:n/1000000000=0:=h3.symm
    show n%1000000000≠0
    omega
   ·cases e2:limbs (n/1000000000) with
    | nil=>rw[e2] at h2;exact absurd rfl h2
    | cons x t=>rw[e2] at h2;exact h2
theorem signed2_any(w:World)(a:Option Addr)(c:Nat)(l:List Nat)(hr:Rd w a (ints (nI l)))(hp:Pcs l)(hl:l.length≤1000000)(hc:l.length≤c)(L:Laid w):
  Gives Tryz.prog 119 #[.bool false,.slice a l.length c] w (.string (dec (val l))):=by
 unfold Gives
 have HT:=hd_ (trim2_any w a c l hr hp hl hc)
 have HJ:=hd_ (fun W (hW:Below w.heap.size w W)=>show Gives Tryz.prog 187 #[.slice a (limbs (val l)).length c] W (.string (dec (val l))) from by
  have h1:=limbs_prefix l hp
  have h2:Rd w a (ints (nI (limbs (val l)))):=by
   rw[← h1,← nI_take,show ∀ (L:List Int) (k:Nat),ints (L.take k)=(ints L).take k from fun L k=>List.map_take]
   exact rd_take hr _
  have h3:=limbs_len_le l hp
  have h4:=join2_any W a c (limbs (val l)) (h2.below hW nr_) (limbs_pcs _) (by omega) (limbs_top2 _) (L.below hW)
  rw[val_limbs] at h4
  exact h4)
 clear hr hp hl hc L
 generalize (limbs (val l)).length=m at *
 generalize l.length=n at *
 generalize dec (val l)=s at *
 go_enter Tryz.func119,Tryz.ntmps119
 go_wp2_with fail
 refine cm_ HT.out ?_
 rintro e_ w1 ⟨rfl,hb⟩
 have B1:=hd_ hb
 clear hb HT
 go_wp2_with fail
 refine cm_ (HJ.out _ B1.out) ?_
 rintro e_ w2 ⟨rfl,hb⟩
 have B2:=hd_ (B1.out.trans (hb.mono B1.out.size))
 clear hb HJ B1
 go_wp2_with fail
 go_ret
 exact⟨rfl,B2.out⟩
def OwnN (w:World) (B:Nat) (a:Option Addr) (c:Nat) (l:List Nat):Prop:=OwnI w B a c (nI l)
theorem OwnN.open{w:World}{B c:Nat}{a:Option Addr}{l:List Nat}(h:OwnN w B a c l)(hn:0<l.length):
  ∃ g,a=some ⟨g,0,none⟩∧B≤g∧g<w.heap.size∧l.length≤c∧(∀ j,j<l.length→w.cell? ⟨g,j,none⟩=some (.int .i64 (l.getD j 0:Nat)))∧(∀ j,w.frozen? ⟨g,j,none⟩=false):=by
 obtain⟨g,cap,hv,h1,h2,h3,h4,h5⟩:=own_open h (by rw[nI_length];exact hn)
 simp only[Value.slice.injEq] at hv
 obtain⟨rfl,-,rfl⟩:=hv
 rw[nI_length] at h3 h4
 refine⟨g,rfl,h1,h2,h3,fun j hj=>?_,h5⟩
 have h6:j<(nI l).length:=by rw[nI_length];exact hj
 rw[h4 j (by omega),ints_get (nI l) j h6,nI_get l j hj h6]
theorem OwnN.store{w:World}{B c g:Nat}{l:List Nat}(h:OwnN w B (some ⟨g,0,none⟩) c l)(j x:Nat):
  OwnN (w.setCell ⟨g,j,none⟩ (.int .i64 (x:Nat))) B (some ⟨g,0,none⟩) c (l.set j x):=by
 have:=(World.ownsRow.stored h j (.int .i64 (x:Nat))).1
 unfold OwnN OwnI
 rw[← nI_set,List.length_set,show ints ((nI l).set j (x:Int))=(ints (nI l)).set j (.int .i64 x) by simp[ints,List.map_set]]
 exact this
theorem OwnN.below{w w':World}{B c:Nat}{a:Option Addr}{l:List Nat}(h:OwnN w B a c l){D:Nat}(hb:Below D w w')(hD:w.heap.size≤D):OwnN w' B a c l:=OwnI.below h hb hD
theorem OwnN.rd{w:World}{B c:Nat}{a:Option Addr}{l:List Nat}(h:OwnN w B a c l):Rd w a (ints (nI l)):=OwnI.rd h
theorem own_madeN(w:World)(l:List Nat)(hl:l.length≤100000000):OwnN (w.alloc (.cells (ints (nI l)).toArray 3)) w.heap.size (some ⟨w.heap.size,0,none⟩) l.length l :=
 ⟨by simp[ints_length],.inr ⟨w.heap.size,(nI l).length,(ints (nI l)).toArray,by rw[nI_length],Nat.le_refl _,heap_alloc_new _ _,Nat.le_refl _,by rw[nI_length];unfold maxLen;omega,by simp[ints_length],by rw[Nat.mul_one];exact List.take_of_length_le (by simp[ints_length])⟩⟩
theorem made_zerosN(n:Nat):(madeCells #[.int .i64 0] n)=(ints (nI (List.replicate n 0))).toArray:=by
 apply Array.ext'
 rw[toList_madeCells_one]
 simp[ints,nI]
theorem made_N(n:Nat)(w:World)(hn:n≤100000000):
  (Instr.makeSlice 35 (.int .i64 (n:Int)) (.int .i64 (n:Int))).run Tryz.prog w = .ok (.slice (some ⟨w.heap.size,0,none⟩) n n) (w.alloc (.cells (ints (nI (List.replicate n 0))).toArray 3)):=by
 have:=run_make_row' (P:=Tryz.prog) 35 3 (.int .i64 0) 8 Tryz.underlying35 infoP rfl .i64 .i64 n (by omega) (by omega) w
 rw[made_zerosN] at this
 exact this
structure TuO (p q:List Nat) (B k:Nat) (L:List Nat) (w wr:World):Prop where
 len:L.length=p.length+q.length+1
 pcs:Pcs L
 v:val L=val (p.take k)*val q
 z:∀ j,k+q.length≤j→L.getD j 0=0
 own:OwnN wr B (some ⟨B,0,none⟩) (p.length+q.length+1) L
 bel:Below B w wr
structure TuI (p q L:List Nat) (B i m cc:Nat) (M:List Nat) (w wr:World):Prop where
 len:M.length=p.length+q.length+1
 pcs:Pcs M
 v:val M+1000000000^(i+m)*cc=val L+1000000000^i*(p.getD i 0*val (q.take m))
 z:∀ j,i+q.length≤j→M.getD j 0=0
 own:OwnN wr B (some ⟨B,0,none⟩) (p.length+q.length+1) M
 bel:Below B w wr
theorem times2_any(w:World)(a1 a2:Option Addr)(c1 c2:Nat)(p q:List Nat)(h1:Rd w a1 (ints (nI p)))(h2:Rd w a2 (ints (nI q)))(p1:Pcs p)(p2:Pcs q)(l1:p.length≤400000)(l2:q.length≤400000):
  GivesN 121 #[.slice a1 p.length c1,.slice a2 q.length c2] w (val p*val q):=by
 unfold GivesN
 have H1:=hd_ h1
 have H2:=hd_ h2
 have P1:=hd_ p1
 have P2:=hd_ p2
 clear h1 h2 p1 p2
 obtain⟨n,hn⟩:∃ n,p.length=n:=⟨_,rfl⟩
 obtain⟨m,hm⟩:∃ m,q.length=m:=⟨_,rfl⟩
 rw[hn] at l1 ⊢
 rw[hm] at l2 ⊢
 have Hn:=hd_ hn
 have Hm:=hd_ hm
 clear hn hm
 have hmk:=made_N (n+m+1) w (by omega)
 have Hown:=hd_ (own_madeN w (List.replicate (n+m+1) 0) (by simp;omega))
 have Hb:=hd_ ((Below.refl w.heap.size w).alloc nr_ (.cells (ints (nI (List.replicate (n+m+1) 0))).toArray 3))
 push_cast at hmk
 have e1:IntKind.i64.wrap ((n:Int)+m)=(n:Int)+m:=iw_ _ (by omega)
 have e2:IntKind.i64.wrap ((n:Int)+m+1)=(n:Int)+m+1:=iw_ _ (by omega)
 generalize w.alloc (.cells (ints (nI (List.replicate (n+m+1) 0))).toArray 3)=w5 at *
 go_enter Tryz.func121,Tryz.ntmps121
 go_wp2_with fail
 go_loopw [6] (fun i wr=>∃ (k:Nat) (L:List Nat),k≤n∧i = .int .i64 k∧Hid (TuO p q w.heap.size k L w wr)) (fun i _=>n-(intOf i).toNat)
 case atStart =>
  refine⟨0,List.replicate (n+m+1) 0,Nat.zero_le _,rfl,?_⟩
  refine⟨by simp[Hn.out,Hm.out],Pcs.zeros _,by simp[val_zeros,val],fun j _=>?_,?_,Hb.out⟩
  ·rw[List.getD_eq_getElem?_getD,List.getElem?_replicate];split<;>rfl
  ·have:=Hown.out
   rw[List.length_replicate] at this
   rw[Hn.out,Hm.out];exact this
 case round =>
  obtain⟨k,L,hk,rfl,HT⟩:=hrel
  clear Hown Hb hmk
  by_cases hlt:k<n
  ·obtain⟨b1,o1,rfl,hb1,hc1⟩:=nI_cell H1.out k (by rw[Hn.out];exact hlt)
   have hlt':(k:Int)<n:=by omega
   go_wp2_with fail
   go_loopw [7,8] (fun c j wr=>∃ (t cc:Nat) (M:List Nat),cc<1000000000∧j = .int .i64 t∧c = .int .i64 cc∧((t≤m∧Hid (TuI p q L w.heap.size k t cc M w wr))∨(t=m+1∧cc=0∧Hid (TuO p q w.heap.size (k+1) M w wr)))) (fun _ j _=>m+1-(intOf j).toNat)
   case atStart =>
    refine⟨0,0,L,by omega,rfl,rfl,.inl ⟨Nat.zero_le _,?_⟩⟩
    exact⟨HT.out.len,HT.out.pcs,by simp[val],fun j hj=>HT.out.z j hj,HT.out.own,HT.out.bel⟩
   case round =>
    obtain⟨t,cc,M,hcc,rfl,rfl,hor⟩:=hrel
    rcases hor with⟨ht,HI⟩|⟨rfl,rfl,HO⟩
    ·obtain⟨g,hg,hg1,hg2,hg3,hg4,hg5⟩:=HI.out.own.open (by rw[HI.out.len];omega)
     obtain rfl:w.heap.size=g:=by simpa using hg
     clear hg
     by_cases hlt2:t<m
     ·have cx:=hc1 k (by rw[Hn.out];exact hlt)
      rw[← HI.out.bel.cell (p:=⟨b1,o1+k,none⟩) hb1] at cx
      have hx:=P1.out.getD k
      obtain⟨x,hxx⟩:∃ x,p.getD k 0=x:=⟨_,rfl⟩
      rw[hxx] at cx hx
      have Hxx:=hd_ hxx
      clear hxx
      obtain⟨b2,o2,rfl,hb2,hc2⟩:=nI_cell H2.out t (by rw[Hm.out];exact hlt2)
      have cy:=hc2 t (by rw[Hm.out];exact hlt2)
      rw[← HI.out.bel.cell (p:=⟨b2,o2+t,none⟩) hb2] at cy
      have hy:=P2.out.getD t
      have ce:=hg4 (k+t) (by rw[HI.out.len,Hn.out,Hm.out];omega)
      have he:=HI.out.pcs.getD (k+t)
      have fe:=hg5 (k+t)
      have hxy:=mul_lt hx hy
      have hstep:=times_step M q k t x cc (val L) (by rw[Hm.out];exact hlt2) (by rw[HI.out.len,Hn.out,Hm.out];omega) (by have:=HI.out.v;rw[Hxx.out] at this;exact this)
      have HI2:Hid (∀ nq,TuI p q L w.heap.size k (t+1) ((cc+(M.getD (k+t) 0+x*q.getD t 0))/1000000000) (M.set (k+t) ((cc+(M.getD (k+t) 0+x*q.getD t 0))%1000000000)) w ((wr.drewN nq).setCell ⟨w.heap.size,k+t,none⟩ (.int .i64 ((cc+(M.getD (k+t) 0+x*q.getD t 0))%1000000000:Nat)))) :=
       fun nq=>⟨by rw[List.length_set];exact HI.out.len,HI.out.pcs.set _ _ (Nat.mod_lt _ (by decide)),by rw[Hxx.out];exact hstep,fun j hj=>by rw[limb_set_ne _ _ _ _ (by have:=Hm.out;omega)];exact HI.out.z j hj,(HI.out.own.below (below_dn (Below.refl _ _) nq) nr_).store (k+t) _,(below_dn HI.out.bel nq).setCell (p:=⟨w.heap.size,k+t,none⟩) nr_ _⟩
      clear hstep hc2 hg4 hg5
      generalize M.getD (k+t) 0=e at *
      generalize q.getD t 0=y at *
      have hxyc:(x:Int)*(y:Int)=((x*y:Nat):Int):=by rw[Int.natCast_mul]
      generalize x*y=xy at *
      have hm1:IntKind.i64.wrap (xy:Int)=(xy:Int):=iw_ _ (by omega)
      have hm2:IntKind.i64.wrap ((e:Int)+(cc:Int))=(e:Int)+(cc:Int):=iw_ _ (by omega)
      have hm3:IntKind.i64.wrap ((e:Int)+(cc:Int)+(xy:Int))=(e:Int)+(cc:Int)+(xy:Int):=iw_ _ (by omega)
      have hk1:IntKind.i64.wrap ((k:Int)+(t:Int))=((k+t:Nat):Int):=by rw[← Int.natCast_add];exact iw_ _ (by have:=Hn.out;omega)
      have hk2:IntKind.i64.wrap ((t:Int)+1)=((t+1:Nat):Int):=by rw[← Int.natCast_succ];exact iw_ _ (by omega)
      have hd1:Int.tmod ((e:Int)+(cc:Int)+(xy:Int)) 1000000000=(((cc+(e+xy))%1000000000:Nat):Int):=by rw[Int.tmod_eq_emod_of_nonneg (by omega)];omega
      have hd1':((e:Int)+(cc:Int)+(xy:Int))%1000000000=(((cc+(e+xy))%1000000000:Nat):Int):=by omega
      have hd2:Int.tdiv ((e:Int)+(cc:Int)+(xy:Int)) 1000000000=(((cc+(e+xy))/1000000000:Nat):Int):=by rw[Int.tdiv_eq_ediv_of_nonneg (by omega)];omega
      have hd2':((e:Int)+(cc:Int)+(xy:Int))/1000000000=(((cc+(e+xy))/1000000000:Nat):Int):=by omega
      have hd3:(cc+(e+xy))/1000000000<1000000000:=by omega
      have hd4:(cc+(e+xy))%1000000000<1000000000:=Nat.mod_lt _ (by decide)
      generalize (cc+(e+xy))/1000000000=cd at *
      generalize (cc+(e+xy))%1000000000=d at *
      have hm4:IntKind.i64.wrap (cd:Int)=(cd:Int):=iw_ _ (by omega)
      have hm5:IntKind.i64.wrap (d:Int)=(d:Int):=iw_ _ (by omega)
      have hlt2':(t:Int)<m:=by omega
      clear HT HI
      go_wp2_with fail
      go_quiet (fail)
      go_wp2_with fail
      refine⟨⟨t+1,cd,_,hd3,by go_num,rfl,.inl ⟨by omega,HI2.out _⟩⟩,by simp[intOf];omega⟩
     ·obtain rfl:t=m:=by omega
      have fe:=hg5 (k+t)
      have ce:=hg4 (k+t) (by rw[HI.out.len,Hn.out,Hm.out];omega)
      have hz0:M.getD (k+t) 0=0:=HI.out.z _ (by rw[Hm.out];exact Nat.le_refl _)
      rw[hz0] at ce
      have hrow:=times_row L M p q k cc (by rw[Hn.out];exact hlt) (by rw[HI.out.len,Hn.out,Hm.out];omega) (by rw[Hm.out];exact hz0) HT.out.v (by rw[Hm.out];exact HI.out.v)
      rw[Hm.out] at hrow
      have hlt2':¬ (t:Int)<t:=by omega
      by_cases hc0:cc=0
      ·subst hc0
       have hset:M.set (k+t) 0=M:=by
        refine List.ext_getElem (by simp) fun i h1 h2=>?_
        by_cases hi:k+t=i
        ·subst hi
         rw[List.getElem_set_self]
         rw[List.getD_eq_getElem?_getD,List.getElem?_eq_getElem h2] at hz0
         exact hz0.symm
        ·rw[List.getElem_set_ne hi]
       rw[hset] at hrow
       have HO:Hid (TuO p q w.heap.size (k+1) M w wr):=⟨HI.out.len,HI.out.pcs,hrow,fun j hj=>HI.out.z j (by omega),HI.out.own,HI.out.bel⟩
       have hn0:¬ (0:Int)<0:=by omega
       clear hrow hg4 hg5 hlt2 HT hz0 hset HI
       go_wp2_with fail
       refine⟨⟨k+1,M,by omega,by go_num,HO⟩,by simp[intOf];omega⟩
      ·have hcp:(0:Int)<cc:=by omega
       have hk1:IntKind.i64.wrap ((k:Int)+(t:Int))=((k+t:Nat):Int):=by rw[← Int.natCast_add];exact iw_ _ (by have:=Hn.out;omega)
       have hk2:IntKind.i64.wrap ((t:Int)+1)=((t+1:Nat):Int):=by rw[← Int.natCast_succ];exact iw_ _ (by omega)
       have hm2:IntKind.i64.wrap (cc:Int)=(cc:Int):=iw_ _ (by omega)
       have hd1:Int.tmod (cc:Int) 1000000000=(cc:Int):=by rw[Int.tmod_eq_emod_of_nonneg (by omega)];omega
       have hd1':(cc:Int)%1000000000=(cc:Int):=by omega
       have hd2:Int.tdiv (cc:Int) 1000000000=0:=by rw[Int.tdiv_eq_ediv_of_nonneg (by omega)];omega
       have hd2':(cc:Int)/1000000000=0:=by omega
       have HO:Hid (TuO p q w.heap.size (k+1) (M.set (k+t) cc) w (wr.setCell ⟨w.heap.size,k+t,none⟩ (.int .i64 (cc:Nat)))) :=
        ⟨by rw[List.length_set];exact HI.out.len,HI.out.pcs.set _ _ hcc,hrow,fun j hj=>by rw[limb_set_ne _ _ _ _ (by have:=Hm.out;omega)];exact HI.out.z j (by omega),HI.out.own.store (k+t) cc,HI.out.bel.setCell (p:=⟨w.heap.size,k+t,none⟩) nr_ _⟩
       clear hrow hg4 hg5 hlt2 HT hz0 HI
       go_wp2_with fail
       refine⟨⟨t+1,0,_,by omega,by go_num,rfl,.inr ⟨rfl,rfl,HO⟩⟩,by simp[intOf]⟩
    ·have hlt2:¬ ((m:Int)+1<m):=by omega
     clear HT
     go_wp2_with fail
     refine⟨⟨k+1,M,by omega,by go_num,HO⟩,by simp[intOf];omega⟩
  ·obtain rfl:k=n:=by omega
   have hlt':¬ (k:Int)<k:=by omega
   have hv:val L=val p*val q:=by
    have:=HT.out.v
    rw[← Hn.out,List.take_length] at this
    exact this
   have hlen:L.length=k+m+1:=by rw[HT.out.len,Hn.out,Hm.out]
   have htr:=trim2_any wr (some ⟨w.heap.size,0,none⟩) (k+m+1) L HT.out.own.rd HT.out.pcs (by omega) (by omega)
   rw[hlen,hv] at htr
   have Htr:=hd_ htr
   have h3:=limbs_len_le L HT.out.pcs
   have h4:=limbs_prefix L HT.out.pcs
   rw[hv,hlen] at h3
   rw[hv] at h4
   have HR:Hid (Rd wr (some ⟨w.heap.size,0,none⟩) (ints (nI (limbs (val p*val q))))):=by
    show Rd _ _ _
    rw[← h4,← nI_take,show ∀ (L:List Int) (k:Nat),ints (L.take k)=(ints L).take k from fun L k=>List.map_take]
    exact rd_take HT.out.own.rd _
   have HB:=hd_ HT.out.bel
   have H3:=hd_ h3
   clear htr hv hlen h3 h4 HT
   push_cast at Htr
   go_wp2_with fail
   refine cm_ Htr.out ?_
   rintro e_ w6 ⟨rfl,hb6⟩
   have B6:=hd_ (HB.out.trans (hb6.mono HB.out.size))
   have R6:=hd_ (HR.out.below hb6 nr_)
   clear hb6 Htr
   go_wp2_with fail
   go_ret
   exact⟨some ⟨w.heap.size,0,none⟩,k+m+1,rfl,R6.out,H3.out,B6.out⟩
theorem split2_dec(w:World)(n:Nat)(hn:Num n):GivesN 122 #[.string (dec n)] w n:=by
 have h1:(dec n).size≤1000000:=hn
 have:=split2_any (dec n) w (by rw[lb_dec];exact dec_digs n) (by omega)
 rw[show dval (lb (dec n))=n from by rw[lb_dec];exact dval_dec n] at this
 exact this
theorem limbs_num(n:Nat)(hn:Num n):(limbs n).length≤400000:=by
 have h:(dec n).size≤1000000:=hn
 obtain⟨k,hk⟩:∃ k,k=400000:=⟨_,rfl⟩
 rw[← hk,limbs_length]
 have h1:=(size_lt n (9*k) (by omega)).1 (by omega)
 rwa [Nat.pow_mul] at h1
theorem mul2_dec(w:World)(x y:Nat)(hx:Num x)(hy:Num y)(L:Laid w):
  Gives Tryz.prog 44 #[.string (dec x),.string (dec y)] w (.string (dec (x*y))):=by
 unfold Gives
 have hx1:(dec x).size≤1000000:=hx
 have hy1:(dec y).size≤1000000:=hy
 have D1:=hd_ fun w:World=>digits2_dec w x
 have D2:=hd_ fun w:World=>digits2_dec w y
 by_cases hs:(dec x).size+(dec y).size≤18
 ·have Q1:=hd_ fun w:World=>quick2_dec w x
  have Q2:=hd_ fun w:World=>quick2_dec w y
  rw[if_pos (by omega)] at Q1 Q2
  have d1:=(dec_length x (dec x).size (by rw[dec_size];exact dec_pos x)).1 (by rw[dec_size];exact Nat.le_refl _)
  have d2:=(dec_length y (dec y).size (by rw[dec_size];exact dec_pos y)).1 (by rw[dec_size];exact Nat.le_refl _)
  have d3:x*y<10^((dec x).size+(dec y).size):=by rw[Nat.pow_add];exact Nat.mul_lt_mul_of_lt_of_lt d1 d2
  have d4:10^((dec x).size+(dec y).size)≤10^18:=Nat.pow_le_pow_right (by decide) hs
  have d5:x*y<1000000000000000000:=by omega
  have hw1:IntKind.i64.wrap ((x:Int)*(y:Int))=((x*y:Nat):Int):=by rw[← Int.natCast_mul];exact iw_ _ (by omega)
  have HOf:=hd_ fun (W:World) (hW:Below w.heap.size w W)=>of2_any W ((x*y:Nat):Int) (by omega) (by omega) (L.below hW)
  rw[itx_nat] at HOf
  have hs':((dec x).size:Int)+(dec y).size≤18:=by omega
  clear d1 d2 d3 d4 d5 hx hy hx1 hy1 L
  generalize dec (x*y)=r at *
  generalize x*y=u at *
  generalize dec x=s1 at *
  generalize dec y=s2 at *
  go_enter Tryz.func44,Tryz.ntmps44
  go_wp2_with fail
  refine cm_ (D1.out _) ?_
  rintro e w1 ⟨rfl,hb1⟩
  have Hb1:=hd_ hb1
  clear hb1
  go_wp2_with fail
  refine cm_ (D2.out _) ?_
  rintro e w2 ⟨rfl,hb2⟩
  have Hb2:=hd_ (Hb1.out.trans (hb2.mono Hb1.out.size))
  clear hb2 Hb1
  go_wp2_with fail
  refine Calls.mono (Q1.out _) ?_
  rintro e w3 ⟨rfl,hb3⟩
  have Hb3:=hd_ (Hb2.out.trans (hb3.mono Hb2.out.size))
  clear hb3 Hb2
  go_wp2_with fail
  refine Calls.mono (Q2.out _) ?_
  rintro e w4 ⟨rfl,hb4⟩
  have Hb4:=hd_ (Hb3.out.trans (hb4.mono Hb3.out.size))
  clear hb4 Hb3
  go_wp2_with fail
  refine cm_ (HOf.out _ Hb4.out) ?_
  rintro e w5 ⟨rfl,hb5⟩
  have Hb5:=hd_ (Hb4.out.trans (hb5.mono Hb4.out.size))
  clear hb5 Hb4
  go_wp2_with fail
  go_ret
  exact⟨rfl,Hb5.out⟩
 ·have hs':¬ ((dec x).size:Int)+(dec y).size≤18:=by omega
  have S1:=hd_ fun w:World=>side2_dec w x
  have S2:=hd_ fun w:World=>side2_dec w y
  have SP1:=hd_ fun w:World=>split2_dec w x hx
  have SP2:=hd_ fun w:World=>split2_dec w y hy
  unfold GivesN at SP1 SP2
  have HT:=hd_ fun (W:World) (a1 a2:Option Addr) (c1 c2:Nat) (h1:Rd W a1 (ints (nI (limbs x)))) (h2:Rd W a2 (ints (nI (limbs y))))=>times2_any W a1 a2 c1 c2 (limbs x) (limbs y) h1 h2 (limbs_pcs _) (limbs_pcs _) (limbs_num x hx) (limbs_num y hy)
  rw[val_limbs,val_limbs] at HT
  unfold GivesN at HT
  have hnl:(limbs (x*y)).length≤1000000:=by
   have h1:=limbs_mul_le x y
   have h2:=limbs_num x hx
   have h3:=limbs_num y hy
   omega
  have HG:=hd_ fun (W:World) (a:Option Addr) (c:Nat) (h:Rd W a (ints (nI (limbs (x*y))))) (hc:(limbs (x*y)).length≤c) (LW:Laid W)=>signed2_any W a c (limbs (x*y)) h (limbs_pcs _) hnl hc LW
  rw[val_limbs] at HG
  have HL:=hd_ L
  clear hx hy L hnl
  generalize dec (x*y)=r at *
  generalize dec x=s1 at *
  generalize dec y=s2 at *
  obtain⟨lp,hlp⟩:∃ lp,(limbs x).length=lp:=⟨_,rfl⟩
  obtain⟨lq,hlq⟩:∃ lq,(limbs y).length=lq:=⟨_,rfl⟩
  obtain⟨lr,hlr⟩:∃ lr,(limbs (x*y)).length=lr:=⟨_,rfl⟩
  rw[hlp] at SP1 HT
  rw[hlq] at SP2 HT
  rw[hlr] at HT HG
  clear hlp hlq hlr
  go_enter Tryz.func44,Tryz.ntmps44
  go_wp2_with fail
  refine cm_ (D1.out _) ?_
  rintro e w1 ⟨rfl,hb1⟩
  have Hb1:=hd_ hb1
  clear hb1
  go_wp2_with fail
  refine cm_ (D2.out _) ?_
  rintro e w2 ⟨rfl,hb2⟩
  have Hb2:=hd_ (Hb1.out.trans (hb2.mono Hb1.out.size))
  clear hb2 Hb1
  go_wp2_with fail
  refine cm_ (S1.out _) ?_
  rintro e w3 ⟨rfl,hb3⟩
  have Hb3:=hd_ (Hb2.out.trans (hb3.mono Hb2.out.size))
  clear hb3 Hb2
  go_wp2_with fail
  refine cm_ (S2.out _) ?_
  rintro e w4 ⟨rfl,hb4⟩
  have Hb4:=hd_ (Hb3.out.trans (hb4.mono Hb3.out.size))
  clear hb4 Hb3
  go_wp2_with fail
  refine cm_ (D1.out _) ?_
  rintro e w5 ⟨rfl,hb5⟩
  have Hb5:=hd_ (Hb4.out.trans (hb5.mono Hb4.out.size))
  clear hb5 Hb4
  go_wp2_with fail
  refine cm_ (SP1.out _) ?_
  rintro e w6 ⟨a1,c1,rfl,r1,hc1,hb6⟩
  have Hb6:=hd_ (Hb5.out.trans (hb6.mono Hb5.out.size))
  have R1:=hd_ r1
  clear hb6 Hb5 r1 hc1
  go_wp2_with fail
  refine cm_ (D2.out _) ?_
  rintro e w7 ⟨rfl,hb7⟩
  have Hb7:=hd_ (Hb6.out.trans (hb7.mono Hb6.out.size))
  replace R1:=hd_ (R1.out.below hb7 nr_)
  clear hb7 Hb6
  go_wp2_with fail
  refine cm_ (SP2.out _) ?_
  rintro e w8 ⟨a2,c2,rfl,r2,hc2,hb8⟩
  have Hb8:=hd_ (Hb7.out.trans (hb8.mono Hb7.out.size))
  replace R1:=hd_ (R1.out.below hb8 nr_)
  have R2:=hd_ r2
  clear hb8 Hb7 r2 hc2
  go_wp2_with fail
  refine cm_ (HT.out _ a1 a2 c1 c2 R1.out R2.out) ?_
  rintro e w9 ⟨a3,c3,rfl,r3,hc3,hb9⟩
  have Hb9:=hd_ (Hb8.out.trans (hb9.mono Hb8.out.size))
  have R3:=hd_ r3
  have HC3:=hd_ hc3
  clear hb9 Hb8 r3 hc3 R1 R2 HT
  go_wp2_with fail
  refine cm_ (HG.out _ a3 c3 R3.out HC3.out (HL.out.below Hb9.out)) ?_
  rintro e w10 ⟨rfl,hb10⟩
  have Hb10:=hd_ (Hb9.out.trans (hb10.mono Hb9.out.size))
  clear hb10 Hb9
  go_wp2_with fail
  go_ret
  exact⟨rfl,Hb10.out⟩
theorem power2_dec(w:World)(b n:Nat)(hb:1≤b)(hN:Num (b^(2*n+2)))(hn:n≤1000000)(L:Laid w):
  Gives Tryz.prog 45 #[.string (dec b),.int .i64 n] w (.string (dec (b^n))):=by
 unfold Gives
 have HN:Hid (∀ k,k≤2*n+2→Num (b^k)):=fun k hk=>Nat.le_trans (dec_mono (Nat.pow_le_pow_right hb hk)) hN
 have HM:=hd_ fun (W:World) (x y:Nat) (hx:x≤2*n+2) (hy:y≤2*n+2) (hW:Below w.heap.size w W)=>mul2_dec W (b^x) (b^y) (HN.out x hx) (HN.out y hy) (L.below hW)
 have H1:Hid (dec (b^0)=⟨#[49]⟩):=by show _=_;rw[Nat.pow_zero,dec_one]
 have Hb1:Hid (dec b=dec (b^1)):=by show _=_;rw[Nat.pow_one]
 clear hN L
 go_enter Tryz.func45,Tryz.ntmps45
 go_wp2_with fail
 go_loopw [0,1,5] (fun A m o wr=>∃ (k x y:Nat),A = .string (dec (b^y))∧m = .int .i64 k∧o = .string (dec (b^x))∧k≤n∧Hid (x+y*k=n)∧Hid (y≤2*n+2)∧Hid (Below w.heap.size w wr)) (fun _ m _ _=>(intOf m).toNat)
 case atStart =>
  refine⟨n,0,1,by rw[Hb1.out],rfl,by rw[H1.out],Nat.le_refl _,?_,?_,Below.refl _ _⟩
  ·show _=_;omega
  ·show _≤_;omega
 case round =>
  obtain⟨k,x,y,rfl,rfl,rfl,hk,Hxy,Hy,HB⟩:=hrel
  by_cases hk0:k=0
  ·subst hk0
   have hk1:¬ (0:Int)<((0:Nat):Int):=by omega
   have Hx2:Hid (x=n):=by show _=_;have:=Hxy.out;omega
   go_wp2_with fail
   go_ret
   exact⟨by rw[Hx2.out];rfl,HB.out⟩
  ·have hk1:(0:Int)<k:=by omega
   have Hx:Hid (x≤2*n+2):=by show _≤_;have:=Hxy.out;omega
   have Hyn:Hid (y≤n):=by
    show _≤_
    have:=Hxy.out
    have h2:y*1≤y*k:=Nat.mul_le_mul_left _ (by omega)
    omega
   have hdiv:Int.tdiv (k:Int) 2=((k/2:Nat):Int):=by rw[Int.tdiv_eq_ediv_of_nonneg (by omega)];omega
   have hdiv':(k:Int)/2=((k/2:Nat):Int):=by omega
   have hwd:IntKind.i64.wrap ((k/2:Nat):Int)=((k/2:Nat):Int):=iw_ _ (by omega)
   have Hsq:Hid (Gives Tryz.prog 44 #[.string (dec (b^y)),.string (dec (b^y))] wr (.string (dec (b^(y+y))))):=by
    have:=HM.out wr y y Hy.out Hy.out HB.out
    rw[← Nat.pow_add] at this
    exact this
   have Hev:Hid (x+(y+y)*(k/2)=n∨k%2=1):=by
    by_cases h:k%2=1
    ·exact .inr h
    ·refine .inl ?_
     have h1:=Hxy.out
     obtain⟨u,rfl⟩:∃ u,k=2*u:=⟨k/2,by omega⟩
     rw[show (2*u)/2=u by omega,Nat.add_mul]
     rw[Nat.mul_left_comm] at h1
     omega
   have Hod:Hid (k%2=1→x+y+(y+y)*(k/2)=n):=fun h=>by
    have h1:=Hxy.out
    obtain⟨u,rfl⟩:∃ u,k=2*u+1:=⟨k/2,by omega⟩
    rw[show (2*u+1)/2=u by omega,Nat.add_mul]
    rw[Nat.mul_add,Nat.mul_left_comm] at h1
    omega
   have Hlt:Hid (k/2<k∧k/2≤n):=⟨by omega,by omega⟩
   have Hh0:Hid (0<k/2→2*y≤n):=fun h=>by
    have:=Hxy.out
    have h2:y*2≤y*k:=Nat.mul_le_mul_left _ (by omega)
    omega
   have Hz:Hid (¬ 0<k/2→k=1):=fun h=>by omega
   by_cases hodd:k%2=1
   ·have hmod:Int.tmod (k:Int) 2=1:=by rw[Int.tmod_eq_emod_of_nonneg (by omega)];omega
    have hmod':(k:Int)%2=1:=by omega
    have Hmx:Hid (Gives Tryz.prog 44 #[.string (dec (b^x)),.string (dec (b^y))] wr (.string (dec (b^(x+y))))):=by
     have:=HM.out wr x y Hx.out Hy.out HB.out
     rw[← Nat.pow_add] at this
     exact this
    have Hsq2:Hid (∀ W,Below w.heap.size w W→Gives Tryz.prog 44 #[.string (dec (b^y)),.string (dec (b^y))] W (.string (dec (b^(y+y))))):=fun W hW=>by
     have:=HM.out W y y Hy.out Hy.out hW
     rw[← Nat.pow_add] at this
     exact this
    replace Hod:=hd_ (Hod.out hodd)
    clear hodd Hsq Hev
    generalize hh:k/2=h at *
    clear hh
    have HB0:=HB
    go_wp2_with fail
    refine cm_ Hmx.out ?_
    rintro e w5 ⟨rfl,hb5⟩
    have B5:=hd_ (HB.out.trans (hb5.mono HB.out.size))
    clear hb5 HB HB0 Hmx
    by_cases hh0:0<h
    ·have hh1:(0:Int)<h:=by omega
     have Hyy:Hid (y+y≤2*n+2):=by show _≤_;have:=Hyn.out;omega
     go_wp2_with fail
     refine cm_ (Hsq2.out _ B5.out) ?_
     rintro e w6 ⟨rfl,hb6⟩
     have B6:=hd_ (B5.out.trans (hb6.mono B5.out.size))
     clear hb6 B5 Hsq2
     go_wp2_with fail
     refine⟨⟨h,x+y,y+y,rfl,rfl,rfl,Hlt.out.2,Hod,Hyy,B6⟩,?_⟩
     have:=Hlt.out.1
     simp[intOf];omega
    ·have hh1:¬ (0:Int)<h:=by omega
     have Hxy2:Hid (x+y+y*h=n):=by
      show _=_
      have h1:=Hod.out
      obtain rfl:h=0:=by omega
      rw[Nat.mul_zero] at h1 ⊢
      exact h1
     go_wp2_with fail
     refine⟨⟨h,x+y,y,rfl,rfl,rfl,Hlt.out.2,Hxy2,Hy,B5⟩,?_⟩
     have:=Hlt.out.1
     simp[intOf];omega
   ·have hmod:Int.tmod (k:Int) 2=0:=by rw[Int.tmod_eq_emod_of_nonneg (by omega)];omega
    have hmod':(k:Int)%2=0:=by omega
    have Hxy2:Hid (x+(y+y)*(k/2)=n):=by
     rcases Hev.out with h|h
     ·exact h
     ·exact absurd h hodd
    have hh0:0<k/2:=by omega
    have hh1:(0:Int)<((k/2:Nat):Int):=by omega
    have Hyy:Hid (y+y≤2*n+2):=by show _≤_;have:=Hyn.out;omega
    clear hodd Hev Hod
    generalize hh:k/2=h at *
    clear hh
    go_wp2_with fail
    refine cm_ Hsq.out ?_
    rintro e w6 ⟨rfl,hb6⟩
    have B6:=hd_ (HB.out.trans (hb6.mono HB.out.size))
    clear hb6 HB Hsq
    go_wp2_with fail
    refine⟨⟨h,x,y+y,rfl,rfl,rfl,Hlt.out.2,Hxy2,Hyy,B6⟩,?_⟩
    have:=Hlt.out.1
    simp[intOf];omega
theorem u64_and32(n:Nat)(_:n<18446744073709551616):bits .and .u64 (n:Int) 4294967295=((n%4294967296:Nat):Int):=by
 have h1:(BitVec.ofInt 64 4294967295).toNat=2^32-1:=by decide
 have key:(BitVec.ofInt 64 (n:Int) &&& BitVec.ofInt 64 4294967295).toNat=((n:Int)%((2^64:Nat):Int)).toNat%2^32:=by
  rw[BitVec.toNat_and,BitVec.toNat_ofInt,h1,Nat.and_two_pow_sub_one_eq_mod]
 show IntKind.u64.wrap ((BitVec.ofInt 64 (n:Int) &&& BitVec.ofInt 64 4294967295).toNat:Nat)=_
 rw[key]
 have e:((n:Int)%((2^64:Nat):Int)).toNat%2^32=n%4294967296:=by
  have:((2^64:Nat):Int)=18446744073709551616:=by decide
  rw[this]
  omega
 rw[e]
 exact wrap_u _ (by omega)
structure BtO (n t:Nat) (L:List Nat) (a:Option Addr) (c:Nat) (w wr:World):Prop where
 own:OwnU wr w.heap.size a c L
 wd:Wd32 L
 v:vS L=val ((limbs n).drop t)
 top:L.length=0∨4294967296^(L.length-1)≤vS L
 ln:L.length+t≤(limbs n).length
 bel:Below w.heap.size w wr
structure BtI (L:List Nat) (x k cc:Nat) (M:List Nat) (a:Option Addr) (c:Nat) (w wr:World):Prop where
 len:M.length=L.length
 wd:Wd32 M
 same:∀ j,k≤j→M.getD j 0=L.getD j 0
 v:vS (M.take k)+4294967296^k*cc=1000000000*vS (L.take k)+x
 own:OwnU wr w.heap.size a c M
 bel:Below w.heap.size w wr
theorem val_dropB(l:List Nat)(t:Nat)(h:t<l.length):val (l.drop t)=l.getD t 0+1000000000*val (l.drop (t+1)):=by
 rw[List.drop_eq_getElem_cons h,val]
 have e:l.getD t 0=l[t]:=by rw[List.getD_eq_getElem?_getD,List.getElem?_eq_getElem h];rfl
 rw[e]
theorem bits_big(w:World)(n k:Nat)(hn:Num n)(h64:18446744073709551616≤n)(h1:2^k≤n)(h2:n<2^(k+1))(hk:k≤100000000)(L:Laid w):
  Gives Tryz.prog 127 #[.string (dec n)] w (.int .i64 ((k+1:Nat):Int)):=by
 unfold Gives
 have hn1:(dec n).size≤1000000:=hn
 have h:=smallS_any w n (by omega) L
 rw[if_neg (by omega)] at h
 have HS:=hd_ h
 have HC:=hd_ (fun W=>cutD W n hn)
 have Hk:Hid (∀ N m t a,n=a+4294967296^N*t→a<4294967296^N→2^m≤t→t<2^(m+1)→k=32*N+m):=fun N m t a e1 e2 e3 e4=>bits_end n k m N t a e1 e2 e3 e4 h1 h2
 have Hl:Hid (∀ (b:Nat) (W:World),b<18446744073709551616→Calls Tryz.prog 191 #[.int .u64 b] W fun e w'=>e = .returned (.int .i64 (Lib.bitLen b))∧w'=W):=fun b W hb=>Tryz.bits_Len64 b W (by omega) (by omega)
 have hlen:(limbs n).length≤400000:=limbs_num n hn
 have Hpos:Hid (0<(limbs n).length):=by
  show 0<_
  rw[limbs_pos (show 0<n by omega)];simp
 have Hp:=hd_ (limbs_pcs n)
 have Hval:Hid (val ((limbs n).drop 0)=n):=by show _=_;rw[List.drop_zero,val_limbs]
 unfold GivesU at HC
 clear h L hn h1 h2 hn1
 obtain⟨N,hN⟩:∃ N,(limbs n).length=N:=⟨_,rfl⟩
 have HN:=hd_ hN
 rw[hN] at hlen HC
 clear hN
 generalize dec n=s at *
 go_enter Tryz.func127,Tryz.ntmps127
 go_wp2_with fail
 refine cm_ HS.out ?_
 rintro e w1 ⟨rfl,hb1⟩
 have B1:=hd_ hb1
 clear hb1 HS
 go_wp2_with fail
 refine cm_ (HC.out _) ?_
 rintro e w2 ⟨ap,cp,rfl,ho,hb2⟩
 have B2:=hd_ (B1.out.trans (hb2.mono B1.out.size))
 have RP:=hd_ ho.reads
 clear hb2 B1 HC ho
 have ew0:IntKind.i64.wrap ((N:Int)-1)=(N:Int)-1:=iw_ _ (by omega)
 go_wp2_with fail
 go_loopw [5,7] (fun o i wr=>∃ (a:Option Addr) (c t:Nat) (L:List Nat),o = .slice a L.length c∧i = .int .i64 ((t:Int)-1)∧t≤N∧Hid (BtO n t L a c w2 wr)) (fun _ i _=>(intOf i+1).toNat)
 case atStart =>
  refine⟨none,0,N,[],rfl,rfl,Nat.le_refl _,⟨OwnU.nil w2 w2.heap.size,fun _ h=>absurd h List.not_mem_nil,?_,.inl rfl,?_,Below.refl _ _⟩⟩
  ·rw[← HN.out,List.drop_length];rfl
  ·rw[HN.out];simp
 case round =>
  obtain⟨a,c,t,L,rfl,rfl,ht,HO⟩:=hrel
  by_cases ht0:0<t
  ·obtain⟨i,rfl⟩:∃ i,t=i+1:=⟨t-1,by omega⟩
   have hi0:((i+1:Nat):Int)-1=(i:Int):=by omega
   have hi0':(i:Int)+1-1=(i:Int):=by omega
   have hi1:(0:Int)≤i:=by omega
   have ew1:IntKind.i64.wrap ((i:Int)-1)=(i:Int)-1:=iw_ _ (by omega)
   obtain⟨b,o,rfl,hb,hcl⟩:=RP.out.open Hpos.out
   have cx:=hcl i (by rw[HN.out];omega)
   rw[← HO.out.bel.cell (p:=⟨b,o+i,none⟩) hb] at cx
   have hx:=Hp.out.getD i
   have Hvd:=hd_ (val_dropB (limbs n) i (by rw[HN.out];omega))
   generalize (limbs n).getD i 0=x at *
   have hLl:=HO.out.ln
   rw[HN.out] at hLl
   have HI0:Hid (BtI L x 0 x L a c w2 wr):=⟨rfl,HO.out.wd,fun _ _=>rfl,by simp[vS],HO.out.own,HO.out.bel⟩
   obtain⟨m,hm⟩:∃ m,L.length=m:=⟨_,rfl⟩
   have Hm:=hd_ hm
   rw[hm] at hLl ⊢
   clear hm hcl
   rw[hi0]
   go_wp2_with fail
   go_loopw [8,33] (fun cv z w9=>∃ (k cc:Nat) (M:List Nat),k≤m∧cc<1000000000∧cv = .int .u64 cc∧z = .int .i64 k∧Hid (BtI L x k cc M a c w2 w9)) (fun _ z _=>m-(intOf z).toNat)
   case atStart=>exact⟨0,x,L,Nat.zero_le _,hx,rfl,rfl,HI0⟩
   case round =>
    obtain⟨k,cc,M,hk,hcc,rfl,rfl,HI⟩:=hrel
    clear HI0 cx
    by_cases hkm:k<m
    ·obtain⟨g,rfl,hg1,hg2,hg3,hg4,hg5⟩:=HI.out.own.open (by rw[HI.out.len,Hm.out];omega)
     have ce:=hg4 k (by rw[HI.out.len,Hm.out];exact hkm)
     have fe:=hg5 k
     have he:=HI.out.wd.getD k
     have hsm:=HI.out.same k nr_
     obtain⟨e,hee⟩:∃ e,M.getD k 0=e:=⟨_,rfl⟩
     rw[hee] at ce he hsm
     obtain⟨r,hr⟩:∃ r,(cc+e*1000000000)%4294967296=r:=⟨_,rfl⟩
     obtain⟨q,hq⟩:∃ q,(cc+e*1000000000)/4294967296=q:=⟨_,rfl⟩
     have hst:=bits_step L M k cc x r q e (by rw[HI.out.len,Hm.out];exact hkm) (by rw[Hm.out];exact hkm) hsm.symm HI.out.v (by omega)
     have HI2:Hid (BtI L x (k+1) q (M.set k r) (some ⟨g,0,none⟩) c w2 (wr.setCell ⟨g,k,none⟩ (.int .u64 (r:Nat)))) :=
      ⟨by rw[List.length_set];exact HI.out.len,HI.out.wd.set _ _ (by omega),fun j hj=>by rw[limb_set_ne _ _ _ _ (by omega)];exact HI.out.same j (by omega),hst,HI.out.own.store k r,HI.out.bel.setCell (p:=⟨g,k,none⟩) hg1 _⟩
     obtain⟨E,hE⟩:∃ E,e*1000000000=E:=⟨_,rfl⟩
     obtain⟨T,hT⟩:∃ T,cc+E=T:=⟨_,rfl⟩
     rw[hE,hT] at hr hq
     have hqb:q<1000000000:=by omega
     have hw1:IntKind.u64.wrap ((e:Int)*1000000000)=(E:Int):=by rw[show (e:Int)*1000000000=(E:Int) by omega];exact wrap_u _ (by omega)
     have hw2:IntKind.u64.wrap ((cc:Int)+(E:Int))=(T:Int):=by rw[show (cc:Int)+(E:Int)=(T:Int) by omega];exact wrap_u _ (by omega)
     have hw3:=u64_and32 T (by omega)
     rw[hr] at hw3
     have hw4:(T:Int)/4294967296=(q:Int):=by omega
     have hkm':(k:Int)<m:=by omega
     have hkw:IntKind.i64.wrap ((k:Int)+1)=((k+1:Nat):Int):=by rw[← Int.natCast_succ];exact iw_ _ (by omega)
     have hTb:T<18446744073709551616:=by omega
     clear hst hg4 hg5 hsm hee HI hr hq hE hT he
     go_wp2_with fail
     refine⟨⟨k+1,q,M.set k r,by omega,hqb,rfl,by go_num,HI2⟩,by simp[intOf];omega⟩
    ·obtain rfl:k=m:=by omega
     have hkm':¬ (k:Int)<k:=by omega
     have e1:M.take k=M:=List.take_of_length_le (by rw[HI.out.len,Hm.out];exact Nat.le_refl _)
     have e2:L.take k=L:=List.take_of_length_le (by rw[Hm.out];exact Nat.le_refl _)
     have hv:=HI.out.v
     rw[e1,e2,HO.out.v] at hv
     have hvd:=Hvd.out
     have hvL:vS L≤vS M+4294967296^k*cc:=by rw[hv,HO.out.v];omega
     have htop:k=0∨4294967296^(k-1)≤vS L:=by
      have:=HO.out.top
      rw[Hm.out] at this
      exact this
     have hMl:M.length=k:=by rw[HI.out.len,Hm.out]
     by_cases hc0:cc=0
     ·subst hc0
      have hcp:¬ (0:Int)<0:=by omega
      rw[Nat.mul_zero,Nat.add_zero] at hv hvL
      have HO2:Hid (BtO n i M a c w2 wr):=⟨HI.out.own,HI.out.wd,by rw[hvd,hv];omega,by rw[hMl];exact htop.elim (fun h => .inl h) (fun h => .inr (Nat.le_trans h hvL)),by rw[hMl,HN.out];omega,HI.out.bel⟩
      clear hv hvd hvL htop e1 e2 HI HO
      have hMl2:M.length=k:=hMl
      go_wp2_with fail
      refine⟨⟨a,c,i,M,by rw[hMl],rfl,by omega,HO2⟩,by simp[intOf]⟩
     ·have hcp:(0:Int)<cc:=by omega
      have hrow:wr.ownsRow w2.heap.size 193 1 (.slice a k c) k (u64s M):=by have:=HI.out.own;unfold OwnU at this;rw[hMl] at this;exact this
      have Hrow:=hd_ hrow
      have HB:=hd_ HI.out.bel
      have HO2:Hid (∀ a3 c3 w3,OwnU w3 w2.heap.size a3 c3 (M++[cc])→Below w2.heap.size w2 w3→BtO n i (M++[cc]) a3 c3 w2 w3):=fun a3 c3 w3 ho hb=>by
       refine⟨ho,HI.out.wd.snoc (by omega),?_,.inr ?_,?_,hb⟩
       ·rw[vS_snoc,hMl,hv,hvd];omega
       ·rw[vS_snoc,hMl,List.length_append,hMl]
        show 4294967296^(k+1-1)≤_
        rw[Nat.add_sub_cancel]
        have:=Nat.mul_le_mul_left (4294967296^k) (show 1≤cc by omega)
        omega
       ·rw[List.length_append,hMl,HN.out];simp;omega
      have HMl:=hd_ hMl
      clear hv hvd hvL htop e1 e2 HI HO hrow hMl
      go_wp2_with (at_builtin;refine wpList_append_new rfl (.tmp 53) (.tmp 55) 194 rfl elU64 _ 1 [.int .u64 cc] rfl rfl Hrow.out HB.out.size rfl ?c1 (by omega) (by omega) ?_)
      case c1=>first | rfl | (intro u hu;obtain rfl:=List.mem_singleton.1 hu;rfl)
      intro v' w3 hown3 hg3 _
      obtain⟨a3,c3,rfl⟩:=own_form hown3
      have HC3:=hd_ (HO2.out a3 c3 w3 (by
       unfold OwnU
       rw[List.length_append,HMl.out,u64s_append]
       exact hown3) ((HB.out.alloc HB.out.size _).grown hg3 (by have:=HB.out.size;simp;omega) (fun k hk=>(Hrow.out.lt k hk).1)))
      clear hown3 hg3 HO2 Hrow HB
      have hl3:(M++[cc]).length=k+1:=by rw[List.length_append,HMl.out];rfl
      go_wp2_with fail
      refine⟨⟨a3,c3,i,M++[cc],by rw[hl3],rfl,by omega,HC3⟩,by simp[intOf]⟩
  ·obtain rfl:t=0:=by omega
   have hv:=HO.out.v
   rw[Hval.out] at hv
   have hne:0<L.length:=by
    rcases Nat.eq_zero_or_pos L.length with h0|h0
    ·rw[List.eq_nil_of_length_eq_zero h0] at hv
     simp[vS] at hv
     omega
    ·exact h0
   obtain⟨m,hm⟩:∃ m,L.length=m+1:=⟨L.length-1,by omega⟩
   have htop:4294967296^m≤vS L:=by
    rcases HO.out.top with h|h
    ·omega
    ·rw[hm,Nat.add_sub_cancel] at h;exact h
   have hsp:=vS_take_succ L m (by omega)
   rw[List.take_of_length_le (by omega),hv] at hsp
   have hlow:=vS_lt (HO.out.wd.take m)
   rw[List.length_take,Nat.min_eq_left (by omega)] at hlow
   have hd:=HO.out.wd.getD m
   rw[hv] at htop
   obtain⟨g,rfl,hg1,hg2,hg3,hg4,-⟩:=HO.out.own.open hne
   have cx:=hg4 m (by omega)
   have hln:=HO.out.ln
   rw[hm,HN.out] at hln
   obtain⟨tt,htt⟩:∃ tt,L.getD m 0=tt:=⟨_,rfl⟩
   rw[htt] at hsp hd cx
   have htp:tt≠0:=by
    intro h
    subst h
    rw[Nat.mul_zero] at hsp
    omega
   obtain⟨bl,hbl⟩:∃ bl,Lib.bitLen tt=bl:=⟨_,rfl⟩
   obtain⟨b1,b2,b3⟩:=bitLen_of htp (by omega) hbl
   have hkk:=Hk.out m (bl-1) tt _ hsp hlow b2 (by rw[Nat.sub_add_cancel b1];exact b3)
   have hLen:=hd_ (Hl.out tt wr (by omega))
   rw[hbl] at hLen
   have HB:=hd_ (B2.out.trans (HO.out.bel.mono B2.out.size))
   have hblu:bl≤64:=by
    refine Nat.le_of_not_lt fun hc=>?_
    have:2^64≤2^(bl-1):=Nat.pow_le_pow_right (by decide) (by omega)
    omega
   have e1:IntKind.i64.wrap ((m:Int)+1-1)=(m:Int):=by rw[show (m:Int)+1-1=m by omega];exact iw_ _ (by omega)
   have e1':IntKind.i64.wrap (((m+1:Nat):Int)-1)=(m:Int):=by rw[show ((m+1:Nat):Int)-1=m by omega];exact iw_ _ (by omega)
   have e2:IntKind.i64.wrap (32*(m:Int))=32*(m:Int):=iw_ _ (by omega)
   have e3:IntKind.i64.wrap (32*(m:Int)+(bl:Int))=((k+1:Nat):Int):=by rw[show 32*(m:Int)+(bl:Int)=((k+1:Nat):Int) by omega];exact iw_ _ (by omega)
   have hz:((0:Nat):Int)-1 = -1:=by omega
   rw[hm,hz]
   have e0:wrap64 (m:Int)=(m:Int):=IntWalk.wrap64_in _ ⟨by clear e1 e1' e2 e3;omega,by clear e1 e1' e2 e3;omega⟩
   clear hv hne htop hsp hlow hd hg4 hln htt htp hbl b1 b2 b3 hkk HO Hk Hval hm ht0
   go_wp2_with fail
   refine cm_ hLen.out ?_
   rintro e_ w9 ⟨rfl,rfl⟩
   go_wp2_with fail
   go_ret
   exact⟨rfl,HB.out⟩
theorem bits_low(w:World)(n k:Nat)(h0:n≠0)(h64:n<18446744073709551616)(h1:2^k≤n)(h2:n<2^(k+1))(L:Laid w):
  Gives Tryz.prog 127 #[.string (dec n)] w (.int .i64 ((k+1:Nat):Int)):=by
 unfold Gives
 have h:=smallS_any w n (Nat.le_trans (show (dec n).size≤20 from (size_lt n 20 (by decide)).2 (by omega)) (by decide)) L
 rw[if_pos h64] at h
 have H:=hd_ h
 have Hl:Hid (∀ W:World,Calls Tryz.prog 191 #[.int .u64 n] W fun e w'=>e = .returned (.int .i64 ((k+1:Nat):Int))∧w'=W):=fun W=>by
  have:=Tryz.bits_Len64 n W (by omega) (by omega)
  obtain⟨b1,b2,b3⟩:=bitLen_of h0 h64 rfl
  have a1:=(Nat.pow_lt_pow_iff_right (a:=2) (by decide)).1 (Nat.lt_of_le_of_lt h1 b3)
  have a2:=(Nat.pow_lt_pow_iff_right (a:=2) (by decide)).1 (Nat.lt_of_le_of_lt b2 h2)
  rw[show ((n:Nat):Int).toNat=n from rfl,show Lib.bitLen n=k+1 by omega] at this
  exact this
 clear L h h0 h64 h1 h2
 generalize dec n=s at *
 generalize ((k+1:Nat):Int)=r at *
 go_enter Tryz.func127,Tryz.ntmps127
 go_wp2_with fail
 refine cm_ H.out ?_
 rintro e w1 ⟨rfl,hb1⟩
 have B1:=hd_ hb1
 clear hb1 H
 go_wp2_with fail
 refine cm_ (Hl.out _) ?_
 rintro e w2 ⟨rfl,rfl⟩
 clear Hl
 go_wp2_with fail
 go_ret
 exact⟨rfl,B1.out⟩
theorem bits2_any(w:World)(n k:Nat)(hn:Num n)(h1:2^k≤n)(h2:n<2^(k+1))(hk:k≤100000000)(L:Laid w):
  Gives Tryz.prog 127 #[.string (dec n)] w (.int .i64 ((k+1:Nat):Int)):=by
 have h0:n≠0:=by have:=Nat.two_pow_pos k;omega
 rcases Nat.lt_or_ge n 18446744073709551616 with h|h
 ·exact bits_low w n k h0 h h1 h2 L
 ·exact bits_big w n k hn h h1 h2 hk L
theorem quotient_zp(w:World)(x1 x2 y1 y2:Option Addr)(e1 e2 g1 g2 d g:Nat)(tx ty:List (Int×Int))(X:TermsAt w tx x1 x2)(Y:TermsAt w ty y1 y2)(L:Laid w)
  (hy:∀ x∈ty,okT 100000 x) (hd:d≤10000) (hg:g≤10000) (hd0:0<d) (hg0:0<g)
  (h1:0≤lowT tx) (h2:lowT tx≤highT tx) (h3:(∀ x∈tx,okT 100000 x)→highT tx≤100000000000000) (h4:0<lowT ty) (h5:lowT ty≤highT ty) (h6:highT ty≤100000000000000) :
  Calls Tryz.prog 221 #[.agg (tcells x1 e1 x2 e2 tx.length d),.agg (tcells y1 g1 y2 g2 ty.length g)] w fun e w'=>∃ q b,e = .returned (.tuple #[.int .i64 q,.bool b])∧(b=true→(∀ x∈tx,okT 100000 x)∧q=lowT tx*g/(highT ty*d))∧Below w.heap.size w w':=by
 obtain⟨one,hone,hone2⟩:∃ one:Bool,(∀ W,Below w.heap.size w W→Gives Tryz.prog 210 #[.agg (tcells x1 e1 x2 e2 tx.length d),.int .i64 100000] W (if one then .tuple #[.int .i64 (lowT tx),.int .i64 (highT tx),.bool true] else .tuple #[.int .i64 0,.int .i64 0,.bool false]))∧(one=true→∀ x∈tx,okT 100000 x):=by
  by_cases hx:∀ x∈tx,okT 100000 x
  ·refine⟨true,fun W hW=>?_,fun _=>hx⟩
   have:=near_any W x1 x2 e1 e2 d tx 100000 (by decide) (by decide) X.len (X.below hW).r1 (X.below hW).r2 X.p X.z (L.below hW)
   unfold nearV at this
   rw[if_pos hx] at this
   exact this
  ·refine⟨false,fun W hW=>?_,fun h=>by cases h⟩
   have:=near_any W x1 x2 e1 e2 d tx 100000 (by decide) (by decide) X.len (X.below hW).r1 (X.below hW).r2 X.p X.z (L.below hW)
   unfold nearV at this
   rw[if_neg hx] at this
   exact this
 have Hnx:=hd_ hone
 have Hone:=hd_ hone2
 have Hny:Hid (∀ W,Below w.heap.size w W→Gives Tryz.prog 210 #[.agg (tcells y1 g1 y2 g2 ty.length g),.int .i64 100000] W (.tuple #[.int .i64 (lowT ty),.int .i64 (highT ty),.bool true])):=fun W hW=>by
  have:=near_any W y1 y2 g1 g2 g ty 100000 (by decide) (by decide) Y.len (Y.below hW).r1 (Y.below hW).r2 Y.p Y.z (L.below hW)
  unfold nearV at this
  rw[if_pos hy] at this
  exact this
 have Hsd:Hid (∀ W,Below w.heap.size w W→Gives Tryz.prog 239 #[.string (dec d)] W (.tuple #[.int .i64 d,.bool true])):=fun W hW=>by
  have:=smallz_any W (d:Int) (num_pow (D:=5) (show (d:Int).natAbs<10^5 by omega) (by decide) (by decide)) (L.below hW)
  rw[if_pos (by omega),itx_nat] at this
  exact this
 have Hsg:Hid (∀ W,Below w.heap.size w W→Gives Tryz.prog 239 #[.string (dec g)] W (.tuple #[.int .i64 g,.bool true])):=fun W hW=>by
  have:=smallz_any W (g:Int) (num_pow (D:=5) (show (g:Int).natAbs<10^5 by omega) (by decide) (by decide)) (L.below hW)
  rw[if_pos (by omega),itx_nat] at this
  exact this
 have n5:¬ (d:Int) > 10000:=by omega
 have n6:¬ (g:Int) > 10000:=by omega
 clear X Y L hone hy
 generalize hxh:highT tx=xh at *
 generalize lowT tx=xl at *
 generalize lowT ty=yl at *
 generalize highT ty=yh at *
 generalize tx.length=n at *
 generalize ty.length=m at *
 have R1:Hid (((w.alloc (.cells (tcells x1 e1 x2 e2 n d) 163)).alloc (.cells (tcells y1 g1 y2 g2 m g) 163)).heap[w.heap.size]?=some (.cells #[.slice x1 n e1,.slice x2 n e2,.string (dec d)] 163 (0,0))):=heap_old (heap_at w _ _ _ rfl) _
 have R2:Hid (((w.alloc (.cells (tcells x1 e1 x2 e2 n d) 163)).alloc (.cells (tcells y1 g1 y2 g2 m g) 163)).heap[w.heap.size+1]?=some (.cells #[.slice y1 m g1,.slice y2 m g2,.string (dec g)] 163 (0,0))):=heap_at _ _ _ _ (by show (w.heap.push _).size=_;exact Array.size_push ..)
 have B0:Hid (Below w.heap.size w ((w.alloc (.cells (tcells x1 e1 x2 e2 n d) 163)).alloc (.cells (tcells y1 g1 y2 g2 m g) 163))):=by
  show Below _ _ _
  have b1:=(Below.refl w.heap.size w).alloc nr_ (.cells (tcells x1 e1 x2 e2 n d) 163)
  exact b1.alloc b1.size _
 cases one with
 | false =>
  rw[if_neg Bool.false_ne_true] at Hnx
  clear h1 h2 h3 h4 h5 h6 hone2 Hone
  go_enter Tryz.func221,Tryz.ntmps221
  go_wp2_with fail
  generalize (w.alloc (.cells (tcells x1 e1 x2 e2 n d) 163)).alloc (.cells (tcells y1 g1 y2 g2 m g) 163)=W0 at *
  refine cm_ (Hnx.out _ B0.out) ?_
  rintro e W1 ⟨rfl,hb⟩
  have B1:=hd_ (B0.out.trans (hb.mono B0.out.size))
  have R3:=hd_ (heap_kept R1.out hb nr_)
  have R4:=hd_ (heap_kept R2.out hb nr_)
  clear hb B0 R1 R2 Hnx
  obtain⟨k0,k1,k2,-⟩:=obj_cells3 R3.out
  obtain⟨m0,m1,m2,-⟩:=obj_cells3 R4.out
  go_wp2_with fail
  refine cm_ (Hny.out _ B1.out) ?_
  rintro e W2 ⟨rfl,hb⟩
  have B2:=hd_ (B1.out.trans (hb.mono B1.out.size))
  have R5:=hd_ (heap_kept R3.out hb nr_)
  have R6:=hd_ (heap_kept R4.out hb nr_)
  clear hb B1 R3 R4 Hny k0 k1 k2 m0 m1 m2
  obtain⟨k0,k1,k2,-⟩:=obj_cells3 R5.out
  go_wp2_with fail
  refine cm_ (Hsd.out _ B2.out) ?_
  rintro e W3 ⟨rfl,hb⟩
  have B3:=hd_ (B2.out.trans (hb.mono B2.out.size))
  have R8:=hd_ (heap_kept R6.out hb nr_)
  clear hb B2 R5 R6 Hsd k0 k1 k2
  obtain⟨m0,m1,m2,-⟩:=obj_cells3 R8.out
  go_wp2_with fail
  refine cm_ (Hsg.out _ B3.out) ?_
  rintro e W4 ⟨rfl,hb⟩
  have B4:=hd_ (B3.out.trans (hb.mono B3.out.size))
  clear hb B3 R8 Hsg m0 m1 m2
  go_wp2_with fail
  go_ret2
  exact⟨0,false,rfl,fun h=>(by cases h),B4.out⟩
 | true =>
  rw[if_pos rfl] at Hnx
  have h3':=h3 (hone2 rfl)
  have Hok:=hd_ (hone2 rfl)
  clear hone2 h3 Hone
  have p1:0≤xl*g:=Int.mul_nonneg h1 (by omega)
  have p2:xl*g≤100000000000000*10000:=Int.mul_le_mul (by omega) (by omega) (by omega) (by omega)
  have p3:0≤xh*g:=Int.mul_nonneg (by omega) (by omega)
  have p4:xh*g≤100000000000000*10000:=Int.mul_le_mul (by omega) (by omega) (by omega) (by omega)
  have p5:0<yl*d:=Int.mul_pos h4 (by omega)
  have p6:yl*d≤100000000000000*10000:=Int.mul_le_mul (by omega) (by omega) (by omega) (by omega)
  have p7:0<yh*d:=Int.mul_pos (by omega) (by omega)
  have p8:yh*d≤100000000000000*10000:=Int.mul_le_mul (by omega) (by omega) (by omega) (by omega)
  have w1:IntKind.i64.wrap (xl*g)=xl*g:=iw_ _ (by omega)
  have w2:IntKind.i64.wrap (xh*g)=xh*g:=iw_ _ (by omega)
  have w3:IntKind.i64.wrap (yl*d)=yl*d:=iw_ _ (by omega)
  have w4:IntKind.i64.wrap (yh*d)=yh*d:=iw_ _ (by omega)
  have D1:Hid (∀ W,Gives Tryz.prog 247 #[.int .i64 (xl*g),.int .i64 (yh*d)] W (.int .i64 (xl*g/(yh*d)))):=fun W=>downward_any W _ _ (by omega) p7 (by omega)
  have D2:Hid (∀ W,Gives Tryz.prog 247 #[.int .i64 (xh*g),.int .i64 (yl*d)] W (.int .i64 (xh*g/(yl*d)))):=fun W=>downward_any W _ _ (by omega) p5 (by omega)
  have n1:¬ yh≤0:=by omega
  have n2:¬ yl≤0:=by omega
  have n3:¬ xl<0:=by omega
  have n4:¬ xh<0:=by omega
  clear p1 p2 p3 p4 p5 p6 p7 p8 h2 h3' h5 h6 hd hg hd0 hg0 h1 h4
  generalize hq1:xl*g/(yh*d)=q1 at *
  generalize hq2:xh*g/(yl*d)=q2 at *
  clear hq1 hq2
  go_enter Tryz.func221,Tryz.ntmps221
  go_wp2_with fail
  generalize (w.alloc (.cells (tcells x1 e1 x2 e2 n d) 163)).alloc (.cells (tcells y1 g1 y2 g2 m g) 163)=W0 at *
  refine cm_ (Hnx.out _ B0.out) ?_
  rintro e W1 ⟨rfl,hb⟩
  have B1:=hd_ (B0.out.trans (hb.mono B0.out.size))
  have R3:=hd_ (heap_kept R1.out hb nr_)
  have R4:=hd_ (heap_kept R2.out hb nr_)
  clear hb B0 R1 R2 Hnx
  obtain⟨k0,k1,k2,-⟩:=obj_cells3 R3.out
  obtain⟨m0,m1,m2,-⟩:=obj_cells3 R4.out
  go_wp2_with fail
  refine cm_ (Hny.out _ B1.out) ?_
  rintro e W2 ⟨rfl,hb⟩
  have B2:=hd_ (B1.out.trans (hb.mono B1.out.size))
  have R5:=hd_ (heap_kept R3.out hb nr_)
  have R6:=hd_ (heap_kept R4.out hb nr_)
  clear hb B1 R3 R4 Hny k0 k1 k2 m0 m1 m2
  obtain⟨k0,k1,k2,-⟩:=obj_cells3 R5.out
  go_wp2_with fail
  refine cm_ (Hsd.out _ B2.out) ?_
  rintro e W3 ⟨rfl,hb⟩
  have B3:=hd_ (B2.out.trans (hb.mono B2.out.size))
  have R8:=hd_ (heap_kept R6.out hb nr_)
  clear hb B2 R5 R6 Hsd k0 k1 k2
  obtain⟨m0,m1,m2,-⟩:=obj_cells3 R8.out
  go_wp2_with fail
  refine cm_ (Hsg.out _ B3.out) ?_
  rintro e W4 ⟨rfl,hb⟩
  have B4:=hd_ (B3.out.trans (hb.mono B3.out.size))
  clear hb B3 R8 Hsg m0 m1 m2
  go_wp2_with fail
  refine cm_ (D1.out _) ?_
  rintro e W5 ⟨rfl,hb⟩
  have B5:=hd_ (B4.out.trans (hb.mono B4.out.size))
  clear hb B4
  go_wp2_with fail
  refine cm_ (D2.out _) ?_
  rintro e W6 ⟨rfl,hb⟩
  have B6:=hd_ (B5.out.trans (hb.mono B5.out.size))
  clear hb B5
  go_wp2_with fail
  go_ret2
  exact⟨q1,_,rfl,fun _=>⟨Hok.out,rfl⟩,B6.out⟩
structure FlrZp (ps:List Int) (la lb:List Rat) (E:Nat) (q:Int):Prop where
 pr:∀ p∈ps,p∈allP
 n6:ps.length≤6
 kx:∀ x∈tlQ ps la,x.2.natAbs<2^E
 ky:∀ x∈tlQ ps lb,x.2.natAbs<2^E
 d:tden la<2^E
 g:tden lb<2^E
 e:E≤3000
 pos:∀ n,n≤1024→0≤LN.eLo (lf n) (tlQ ps la)∧0<LN.eLo (lf n) (tlQ ps lb)
 dec:flAt 128 (tlQ ps la) (tlQ ps lb) (tden la) (tden lb)≠none
 val:∀ n r,n=64∨n=128→flAt n (tlQ ps la) (tlQ ps lb) (tden la) (tden lb)=some r→r=q
 nr:ratioB la lb ps.length (ratioK la lb ps.length)=false
 okt:∀ x∈tlQ ps lb,okT 100000 x
 dd:tden la≤10000
 gg:tden lb≤10000
 lo:0≤lowT (tlQ ps la)
 lh:lowT (tlQ ps la)≤highT (tlQ ps la)
 hi:(∀ x∈tlQ ps la,okT 100000 x)→highT (tlQ ps la)≤100000000000000
 yl:0<lowT (tlQ ps lb)
 ylh:lowT (tlQ ps lb)≤highT (tlQ ps lb)
 yh:highT (tlQ ps lb)≤100000000000000
 quo:(∀ x∈tlQ ps la,okT 100000 x)→lowT (tlQ ps la)*tden lb/(highT (tlQ ps lb)*tden la)=q ∧ -9223372036854775808≤q∧q≤9223372036854775807
theorem floor_zp(w:World)(ps:List Int)(a0 a1 a2:Option Addr)(c0 c1 c2 D E:Nat)(la lb:List Rat)(q:Int)(A:SizeOk w ps a0 a1 la D)(B:SizeOk w ps a0 a2 lb D)(hD0:0<D)(F:FlrZp ps la lb E q)(L:Laid w):
  Gives Tryz.prog 193 #[.slice a0 ps.length c0,.slice a1 la.length c1,.slice a2 lb.length c2] w (.string (itx q)):=by
 unfold Gives
 have hn:=A.n
 have hdd:=A.d
 have HL:=hd_ L
 have HF:=hd_ F
 have Hdec:=hd_ F.dec
 have hr:=F.nr
 have Hra:=hd_ (ratio_any w a1 a2 c1 c2 ps.length D la lb A.rl B.rl A.len B.len A.sm B.sm (by omega) hD0 hdd L)
 rw[hr] at Hra
 have Ht1:Hid (∀ W,Below w.heap.size w W→Calls Tryz.prog 100 #[.slice a0 ps.length c0,.slice a1 ps.length c1] W fun e w'=>∃ b1 d1 b2 d2,e = .returned (.agg (tcells b1 d1 b2 d2 (tlQ ps la).length (tden la)))∧TermsAt w' (tlQ ps la) b1 b2∧Below W.heap.size W w'):=fun W hW=>by
  have:=terms_ok (c0:=c0) (c:=c1) (A.below hW) (L.below hW)
  rw[A.len] at this
  exact this
 have Ht2:Hid (∀ W,Below w.heap.size w W→Calls Tryz.prog 100 #[.slice a0 ps.length c0,.slice a2 ps.length c2] W fun e w'=>∃ b1 d1 b2 d2,e = .returned (.agg (tcells b1 d1 b2 d2 (tlQ ps lb).length (tden lb)))∧TermsAt w' (tlQ ps lb) b1 b2∧Below W.heap.size W w'):=fun W hW=>by
  have:=terms_ok (c0:=c0) (c:=c2) (B.below hW) (L.below hW)
  rw[B.len] at this
  exact this
 have hE:=F.e
 have lx:(tlQ ps la).length≤6:=Nat.le_trans (by have:=(tlist_fst (tden la) ps la).length_le;rw[List.length_map] at this;exact this) F.n6
 have ly:(tlQ ps lb).length≤6:=Nat.le_trans (by have:=(tlist_fst (tden lb) ps lb).length_le;rw[List.length_map] at this;exact this) F.n6
 have hd0:=LN.tden_pos' la
 have hg0:=LN.tden_pos' lb
 have px:PrT (tlQ ps la):=fun x hx=>allP_pr (F.pr _ (tlist_mem hx).1)
 have py:PrT (tlQ ps lb):=fun x hx=>allP_pr (F.pr _ (tlist_mem hx).1)
 have Hqu:Hid (∀ W x1 x2 y1 y2 e1 e2 g1 g2,TermsAt W (tlQ ps la) x1 x2→TermsAt W (tlQ ps lb) y1 y2→Laid W→Calls Tryz.prog 221 #[.agg (tcells x1 e1 x2 e2 (tlQ ps la).length (tden la)),.agg (tcells y1 g1 y2 g2 (tlQ ps lb).length (tden lb))] W fun e w'=>∃ z b,e = .returned (.tuple #[.int .i64 z,.bool b])∧(b=true→z=q ∧ -9223372036854775808≤q∧q≤9223372036854775807)∧Below W.heap.size W w'):=fun W x1 x2 y1 y2 e1 e2 g1 g2 X Y LW=>by
  refine cm_ (quotient_zp W x1 x2 y1 y2 e1 e2 g1 g2 _ _ _ _ X Y LW F.okt F.dd F.gg hd0 hg0 F.lo F.lh F.hi F.yl F.ylh F.yh) ?_
  rintro e w' ⟨z,b,rfl,h,hb⟩
  refine⟨z,b,rfl,fun hb1=>?_,hb⟩
  obtain⟨k1,k2⟩:=h hb1
  obtain⟨k3,k4⟩:=F.quo k1
  exact⟨k2.trans k3,k4⟩
 have Hof:Hid (∀ W q,-9223372036854775808≤q→q≤9223372036854775807→Below w.heap.size w W→Gives Tryz.prog 73 #[.int .i64 q] W (.string (itx q))):=fun W q h1 h2 hW=>ofz_any W q h1 h2 (L.below hW)
 have HfF:Hid (∀ n r,n=64∨n=128→flAt n (tlQ ps la) (tlQ ps lb) (tden la) (tden lb)=some r→r=q):=fun n r hn h=>F.val n r hn h
 have Hps:Hid (∀ n,n≤1024→(0≤LN.eLo (lf n) (tlQ ps la)∧LN.eLo (lf n) (tlQ ps la)≤LN.eHi (lf n) (tlQ ps la))∧0<LN.eLo (lf n) (tlQ ps lb)):=fun n hn=>⟨⟨(F.pos n hn).1,eLo_le _ _⟩,(F.pos n hn).2⟩
 have Hen1:Hid (∀ (n:Nat) W x1 x2 e1 e2,n≤1056→TermsAt W (tlQ ps la) x1 x2→Laid W→Gives Tryz.prog 172 #[.agg (tcells x1 e1 x2 e2 (tlQ ps la).length (tden la)),.int .i64 n] W (.tuple #[.string (itx (LN.eLo (lf n) (tlQ ps la))),.string (itx (LN.eHi (lf n) (tlQ ps la)))])):=fun n W x1 x2 e1 e2 hn T LW =>
  ends_any W x1 x2 e1 e2 _ n E _ T px (by omega) F.kx hn LW
 have Hen2:Hid (∀ (n:Nat) W x1 x2 e1 e2,n≤1056→TermsAt W (tlQ ps lb) x1 x2→Laid W→Gives Tryz.prog 172 #[.agg (tcells x1 e1 x2 e2 (tlQ ps lb).length (tden lb)),.int .i64 n] W (.tuple #[.string (itx (LN.eLo (lf n) (tlQ ps lb))),.string (itx (LN.eHi (lf n) (tlQ ps lb)))])):=fun n W x1 x2 e1 e2 hn T LW =>
  ends_any W x1 x2 e1 e2 _ n E _ T py (by omega) F.ky hn LW
 obtain⟨K,hK⟩:∃ K:Nat,K=E+1060+10:=⟨_,rfl⟩
 have Hbx:Hid (∀ n:Nat,n≤1024→(LN.eLo (lf n) (tlQ ps la)).natAbs<2^K∧(LN.eHi (lf n) (tlQ ps la)).natAbs<2^K):=fun n hn=>by
  obtain⟨h1,h2⟩:=eSum_num (n:=n) (E:=E) (by omega) (tlQ ps la) (by omega) px F.kx
  exact⟨Nat.lt_of_lt_of_le h1 (Nat.pow_le_pow_right (by decide) (by omega)),Nat.lt_of_lt_of_le h2 (Nat.pow_le_pow_right (by decide) (by omega))⟩
 have Hby:Hid (∀ n:Nat,n≤1024→(LN.eLo (lf n) (tlQ ps lb)).natAbs<2^K∧(LN.eHi (lf n) (tlQ ps lb)).natAbs<2^K):=fun n hn=>by
  obtain⟨h1,h2⟩:=eSum_num (n:=n) (E:=E) (by omega) (tlQ ps lb) (by omega) py F.ky
  exact⟨Nat.lt_of_lt_of_le h1 (Nat.pow_le_pow_right (by decide) (by omega)),Nat.lt_of_lt_of_le h2 (Nat.pow_le_pow_right (by decide) (by omega))⟩
 have hKK:K+K<90000:=by omega
 have hdK:tden la<2^K:=Nat.lt_of_lt_of_le F.d (Nat.pow_le_pow_right (by decide) (by omega))
 have hgK:tden lb<2^K:=Nat.lt_of_lt_of_le F.g (Nat.pow_le_pow_right (by decide) (by omega))
 have HS:Hid (∀ (z:Int) W,Gives Tryz.prog 84 #[.string (itx z)] W (.int .i64 z.sign)):=fun z W=>sign_any W z
 have HN:Hid (∀ (z:Int) W,z.natAbs<2^K→Gives Tryz.prog 71 #[.string (itx z)] W (.string (itx (-z)))):=fun z W hz=>neg_any W z (num_two hz (by omega))
 have HMd:Hid (∀ (a:Int) W,a.natAbs<2^K→Below w.heap.size w W→Gives Tryz.prog 115 #[.string (itx a),.string (dec (tden la))] W (.string (itx (a*(tden la:Int))))):=fun a W ha hW=>by
  have:=mulZ W a (tden la:Int) K K hKK ha (by rw[Int.natAbs_natCast];exact hdK) (L.below hW)
  rw[itx_nat] at this;exact this
 have HMg:Hid (∀ (a:Int) W,a.natAbs<2^K→Below w.heap.size w W→Gives Tryz.prog 115 #[.string (itx a),.string (dec (tden lb))] W (.string (itx (a*(tden lb:Int))))):=fun a W ha hW=>by
  have:=mulZ W a (tden lb:Int) K K hKK ha (by rw[Int.natAbs_natCast];exact hgK) (L.below hW)
  rw[itx_nat] at this;exact this
 have HDv:Hid (∀ (a b:Int) W,a.natAbs<2^K→b.natAbs<2^K→0<b→Below w.heap.size w W→Gives Tryz.prog 163 #[.string (itx (a*(tden lb:Int))),.string (itx (b*(tden la:Int)))] W (.tuple #[.string (itx (a*(tden lb:Int)/(b*(tden la:Int)))),.string (itx (a*(tden lb:Int)%(b*(tden la:Int)))),.int .i64 0])):=fun a b W ha hb hb0 hW =>
  divZ W _ _ (K+K) hKK (abs_mul_lt ha hgK) (abs_mul_lt hb hdK) (Int.mul_pos hb0 (by omega)) (L.below hW)
 have Hfl:Hid (∀ n,flAt n (tlQ ps la) (tlQ ps lb) (tden la) (tden lb)=flS (LN.eLo (lf n) (tlQ ps la)) (LN.eHi (lf n) (tlQ ps la)) (LN.eLo (lf n) (tlQ ps lb)) (LN.eHi (lf n) (tlQ ps lb)) (tden lb) (tden la)):=fun n=>rfl
 unfold fr fv at Hra
 rw[A.len,B.len]
 clear A B L hr F hn hdd hE lx ly hd0 hg0 px py hK hKK hdK hgK hD0
 generalize ratioK la lb ps.length=k at *
 generalize tlQ ps la=tx at *
 generalize tlQ ps lb=ty at *
 generalize tden la=dx at *
 generalize tden lb=dy at *
 go_enter Tryz.func193,Tryz.ntmps193
 go_wp2_with fail
 refine cm_ Hra.out ?_
 rintro e w1 ⟨rfl,hb⟩
 have B2:=hd_ (hb.alloc hb.size (.cells #[.string (itx k.num),.string (dec k.den)] 42))
 clear hb Hra
 go_wp2_with fail
 generalize w1.alloc (.cells #[.string (itx k.num),.string (dec k.den)] 42)=w2 at *
 refine cm_ (Ht1.out _ B2.out) ?_
 rintro e w3 ⟨b1,d1,b2,d2,rfl,X,hb⟩
 have B3:=hd_ (B2.out.trans (hb.mono B2.out.size))
 have HX:=hd_ X
 clear hb Ht1 X B2
 go_wp2_with fail
 refine cm_ (Ht2.out _ B3.out) ?_
 rintro e w4 ⟨b3,d3,b4,d4,rfl,Y,hb⟩
 have B4:=hd_ (B3.out.trans (hb.mono B3.out.size))
 have HX4:=hd_ (HX.out.below hb)
 have HY:=hd_ Y
 clear hb Ht2 Y B3 HX
 go_wp2_with fail
 have Bx:=hd_ (((Below.refl w4.heap.size w4).alloc nr_ (.cells #[.slice b1 tx.length d1,.slice b2 tx.length d2,.string (dec dx)] 163)).alloc ((Below.refl w4.heap.size w4).alloc nr_ (.cells #[.slice b1 tx.length d1,.slice b2 tx.length d2,.string (dec dx)] 163)).size (.cells #[.slice b3 ty.length d3,.slice b4 ty.length d4,.string (dec dy)] 163))
 have S1:=hd_ (heap_old (heap_at w4 #[.slice b1 tx.length d1,.slice b2 tx.length d2,.string (dec dx)] 163 _ rfl) (.cells #[.slice b3 ty.length d3,.slice b4 ty.length d4,.string (dec dy)] 163))
 have S2:=hd_ (heap_at (w4.alloc (.cells #[.slice b1 tx.length d1,.slice b2 tx.length d2,.string (dec dx)] 163)) #[.slice b3 ty.length d3,.slice b4 ty.length d4,.string (dec dy)] 163 (w4.heap.size+1) (by show (w4.heap.push _).size=_;exact Array.size_push ..))
 have HX5:=hd_ (HX4.out.below Bx.out)
 have HY5:=hd_ (HY.out.below Bx.out)
 have B5:=hd_ (B4.out.trans (Bx.out.mono B4.out.size))
 clear HX4 HY Bx
 generalize hN:w4.heap.size=N9 at *
 generalize (w4.alloc (.cells #[.slice b1 tx.length d1,.slice b2 tx.length d2,.string (dec dx)] 163)).alloc (.cells #[.slice b3 ty.length d3,.slice b4 ty.length d4,.string (dec dy)] 163)=w5 at *
 clear hN B4
 refine cm_ (Hqu.out _ _ _ _ _ d1 d2 d3 d4 HX5.out HY5.out (HL.out.below B5.out)) ?_
 rintro e w6 ⟨q0,bq,rfl,hq0,hb⟩
 have B6:=hd_ (B5.out.trans (hb.mono B5.out.size))
 have T1:=hd_ (heap_kept S1.out hb nr_)
 have T2:=hd_ (heap_kept S2.out hb nr_)
 have HX6:=hd_ (HX5.out.below hb)
 have HY6:=hd_ (HY5.out.below hb)
 have Hq0:=hd_ hq0
 clear hb Hqu HX5 HY5 S1 S2 B5 hq0
 cases bq with
 | true =>
  obtain⟨hqt,hlo,hhi⟩:=Hq0.out rfl
  have Hoq:=hd_ (Hof.out w6 q hlo hhi B6.out)
  rw[hqt]
  clear hqt hlo hhi
  go_wp2_with fail
  refine cm_ Hoq.out ?_
  rintro e w7 ⟨rfl,hb⟩
  have B7:=hd_ (B6.out.trans (hb.mono B6.out.size))
  clear hb Hoq
  go_wp2_with fail
  go_ret
  exact⟨rfl,B7.out⟩
 | false =>
  clear Hq0 Hof
  go_wp2_with fail
  go_loopw [13] (fun a wr=>∃ (n:Nat),Hid (n=64∨n=128)∧n≤128∧a = .int .i64 n∧Hid (Below w.heap.size w wr)∧Hid (wr.heap[N9]?=some (.cells #[.slice b1 tx.length d1,.slice b2 tx.length d2,.string (dec dx)] 163 (0,0)))∧Hid (wr.heap[N9+1]?=some (.cells #[.slice b3 ty.length d3,.slice b4 ty.length d4,.string (dec dy)] 163 (0,0)))∧Hid (TermsAt wr tx b1 b2)∧Hid (TermsAt wr ty b3 b4)) (fun a _=>128-(intOf a).toNat)
  case atStart=>exact⟨64,.inl rfl,by decide,rfl,B6,T1,T2,HX6,HY6⟩
  case round =>
   clear B6 T1 T2 HX6 HY6
   obtain⟨n,Hp,hn,rfl,B1,T1,T2,HX,HY⟩:=hrel
   obtain⟨vx1,vx2⟩:=Hbx.out n (by omega)
   obtain⟨vy1,vy2⟩:=Hby.out n (by omega)
   have HE1:=hd_ (Hen1.out n wr b1 b2 d1 d2 (by omega) HX.out (HL.out.below B1.out))
   have HE2:Hid (∀ W,Below wr.heap.size wr W→Gives Tryz.prog 172 #[.agg (tcells b3 d3 b4 d4 ty.length dy),.int .i64 n] W (.tuple #[.string (itx (LN.eLo (lf n) ty)),.string (itx (LN.eHi (lf n) ty))])):=fun W hW=>Hen2.out n W b3 b4 d3 d4 (by omega) (HY.out.below hW) (HL.out.below (B1.out.trans (hW.mono B1.out.size)))
   have Hf:=hd_ (Hfl.out n)
   have Hspec:Hid (∀ r,flAt n tx ty dx dy=some r→r=q):=fun r h=>HfF.out n r Hp.out h
   obtain⟨⟨hx0,hxx⟩,hy0⟩:=Hps.out n (by omega)
   have hn0:0<n:=by rcases Hp.out with h | h<;>omega
   have Hnx:Hid (flAt n tx ty dx dy=none→n*2≤128∧(n*2=64∨n*2=128)):=fun h=>by
    rcases Hp.out with e|e
    ·subst e;exact⟨by decide,.inr rfl⟩
    ·subst e;exact absurd h Hdec.out
   clear Hen1 Hen2 Hfl HfF Hdec Hbx Hby Hps
   have hyy:=eLo_le (lf n) ty
   generalize flAt n tx ty dx dy=fl at *
   generalize LN.eLo (lf n) tx=xl at *
   generalize LN.eHi (lf n) tx=xh at *
   generalize LN.eLo (lf n) ty=yl at *
   generalize LN.eHi (lf n) ty=yh at *
   have hwn:IntKind.i64.wrap ((n:Int)*2)=((n*2:Nat):Int):=by rw[show (n:Int)*2=((n*2:Nat):Int) by omega];exact iw_ _ (by omega)
   obtain⟨m0,m1,m2,-⟩:=obj_cells3 T1.out
   go_wp2_with fail
   refine cm_ HE1.out ?_
   rintro e_ w2 ⟨rfl,hb⟩
   replace HE2:=hd_ (HE2.out w2 hb)
   have B2:=hd_ (B1.out.trans (hb.mono B1.out.size))
   replace T1:=hd_ (heap_kept T1.out hb nr_)
   replace T2:=hd_ (heap_kept T2.out hb nr_)
   replace HX:=hd_ (HX.out.below hb)
   replace HY:=hd_ (HY.out.below hb)
   clear hb HE1 B1 m0 m1 m2
   obtain⟨m0,m1,m2,-⟩:=obj_cells3 T2.out
   go_wp2_with fail
   clear m0 m1 m2
   refine cm_ (HE2.out) ?_
   rintro e_ w3 ⟨rfl,hb⟩
   have B3:=hd_ (B2.out.trans (hb.mono B2.out.size))
   replace T1:=hd_ (heap_kept T1.out hb nr_)
   replace T2:=hd_ (heap_kept T2.out hb nr_)
   replace HX:=hd_ (HX.out.below hb)
   replace HY:=hd_ (HY.out.below hb)
   clear hb B2
   clear HE2
   go_wp2_with fail
   refine cm_ (HS.out yh _) ?_
   rintro e_ w4 ⟨rfl,hb⟩
   have B4:=hd_ (B3.out.trans (hb.mono B3.out.size))
   replace T1:=hd_ (heap_kept T1.out hb nr_)
   replace T2:=hd_ (heap_kept T2.out hb nr_)
   replace HX:=hd_ (HX.out.below hb)
   replace HY:=hd_ (HY.out.below hb)
   clear hb B3
   have hsg0:¬ yh.sign≤0:=by have:=sign_cases yh;omega
   generalize yh.sign=sg0 at *
   go_wp2_with fail
   refine cm_ (HS.out yl _) ?_
   rintro e_ w5 ⟨rfl,hb⟩
   have B5:=hd_ (B4.out.trans (hb.mono B4.out.size))
   replace T1:=hd_ (heap_kept T1.out hb nr_)
   replace T2:=hd_ (heap_kept T2.out hb nr_)
   replace HX:=hd_ (HX.out.below hb)
   replace HY:=hd_ (HY.out.below hb)
   clear hb B4
   have hsg:0<yl.sign:=by have:=sign_cases yl;omega
   generalize yl.sign=sg at *
   go_wp2_with fail
   clear hsg
   refine cm_ (HS.out xl _) ?_
   rintro e_ w6 ⟨rfl,hb⟩
   have B6:=hd_ (B5.out.trans (hb.mono B5.out.size))
   replace T1:=hd_ (heap_kept T1.out hb nr_)
   replace T2:=hd_ (heap_kept T2.out hb nr_)
   replace HX:=hd_ (HX.out.below hb)
   replace HY:=hd_ (HY.out.below hb)
   clear hb B5
   have hsg:¬ xl.sign<0:=by have:=sign_cases xl;omega
   generalize xl.sign=sg at *
   go_wp2_with fail
   clear hsg
   refine cm_ (HS.out xh _) ?_
   rintro e_ w7 ⟨rfl,hb⟩
   have B7:=hd_ (B6.out.trans (hb.mono B6.out.size))
   replace T1:=hd_ (heap_kept T1.out hb nr_)
   replace T2:=hd_ (heap_kept T2.out hb nr_)
   replace HX:=hd_ (HX.out.below hb)
   replace HY:=hd_ (HY.out.below hb)
   clear hb B6
   have hsg:¬ xh.sign<0:=by have:=sign_cases xh;omega
   generalize xh.sign=sg at *
   obtain⟨k0,k1,k2,-⟩:=obj_cells3 T1.out
   obtain⟨m0,m1,m2,-⟩:=obj_cells3 T2.out
   have s2:=BW.cell k2
   have r2:=BW.cell m2
   have hnon:Nonempty (BW w7):=⟨⟨w7,Below.refl _ _⟩⟩
   have I:Hid (Below w7.heap.size w7 w7.drew):=(Below.refl _ _).drew
   go_wp2_with fail
   clear k0 k1 k2 m0 m1 m2
   refine RP.wp_region_readers 15 [(1,0),(1,1),(1,2),(1,4),(1,5),(1,6),(0,3),(0,7),(0,8),(2,9),(2,10),(2,11),(2,12),(0,13),(0,14),(0,15)] (fun w'=>∃ p:BW w7,w'=p.w) (by kernel_rfl) (by kernel_rfl) ?_ ?_
   ·exact⟨⟨_,I.out⟩,rfl⟩
   iterate 6 (refine RP.walkR_read ?_;simp only[dsc_,dz_,tsc_,tz_];go_big_quiet_step (fail);refine wpQuiet_nil ?_)
   clear hnon s2 r2
   refine RP.walkR_move ?_
   simp only[dsc_,dz_,tsc_,tz_]
   go_wp2_with fail
   refine cm_ (HMg.out xl _ (by omega) (B7.out.drew)) ?_
   rintro e_ wa ⟨rfl,hb⟩
   have Wa:Hid (Below w7.heap.size w7 wa):=(Below.refl w7.heap.size w7).drew.trans hb
   clear hb I
   go_wp2_with fail
   refine⟨⟨⟨_,Wa.out⟩,rfl⟩,?_⟩
   refine RP.walkR_move ?_
   simp only[dsc_,dz_,tsc_,tz_]
   go_wp2_with fail
   refine cm_ (HMd.out yh _ (by omega) (B7.out.trans (Wa.out.mono B7.out.size))) ?_
   rintro e_ wb ⟨rfl,hb⟩
   have Wb:=hd_ (Wa.out.trans (hb.mono Wa.out.size))
   clear hb Wa
   go_wp2_with fail
   refine⟨⟨⟨_,Wb.out⟩,rfl⟩,?_⟩
   refine RP.walkR_move ?_
   simp only[dsc_,dz_,tsc_,tz_]
   go_wp2_with fail
   refine cm_ (HDv.out xl yh _ (by omega) (by omega) (by omega) (B7.out.trans (Wb.out.mono B7.out.size))) ?_
   rintro e_ wc ⟨rfl,hb⟩
   have Wc:=hd_ (Wb.out.trans (hb.mono Wb.out.size))
   clear hb Wb
   go_wp2_with fail
   refine⟨⟨⟨_,Wc.out⟩,rfl⟩,?_⟩
   refine RP.walkR_any ?_
   simp only[dsc_,dz_,tsc_,tz_]
   go_big_quiet_step (fail)
   refine wpQuiet_nil ?_
   refine RP.walkR_any ?_
   simp only[dsc_,dz_,tsc_,tz_]
   go_big_quiet_step (fail)
   refine wpQuiet_nil ?_
   refine RP.walkR_any ?_
   simp only[dsc_,dz_,tsc_,tz_]
   go_big_quiet_step (fail)
   refine wpQuiet_nil ?_
   refine RP.walkR_any ?_
   simp only[dsc_,dz_,tsc_,tz_]
   go_big_quiet_step (fail)
   refine wpQuiet_nil ?_
   refine RP.walkR_move ?_
   simp only[dsc_,dz_,tsc_,tz_]
   go_wp2_with fail
   refine⟨⟨⟨_,Wc.out⟩,rfl⟩,?_⟩
   refine RP.walkR_move ?_
   simp only[dsc_,dz_,tsc_,tz_]
   go_wp2_with fail
   refine⟨⟨⟨_,Wc.out⟩,rfl⟩,?_⟩
   refine RP.walkR_move ?_
   simp only[dsc_,dz_,tsc_,tz_]
   go_wp2_with fail
   simp only[RP.walkR]
   have hb:=Wc.out
   have B8:=hd_ (B7.out.trans (hb.mono B7.out.size))
   replace T1:=hd_ (heap_kept T1.out hb nr_)
   replace T2:=hd_ (heap_kept T2.out hb nr_)
   replace HX:=hd_ (HX.out.below hb)
   replace HY:=hd_ (HY.out.below hb)
   clear hb Wc B7
   generalize wc=w8 at *
   go_wp2_with fail
   obtain⟨k0,k1,k2,-⟩:=obj_cells3 T1.out
   obtain⟨m0,m1,m2,-⟩:=obj_cells3 T2.out
   have s2:=BW.cell k2
   have r2:=BW.cell m2
   have hnon:Nonempty (BW w8):=⟨⟨w8,Below.refl _ _⟩⟩
   have I:Hid (Below w8.heap.size w8 w8.drew):=(Below.refl _ _).drew
   go_wp2_with fail
   clear k0 k1 k2 m0 m1 m2
   refine RP.wp_region_readers 15 [(1,0),(1,1),(1,2),(1,4),(1,5),(1,6),(0,3),(0,7),(0,8),(2,9),(2,10),(2,11),(2,12),(0,13),(0,14),(0,15)] (fun w'=>∃ p:BW w8,w'=p.w) (by kernel_rfl) (by kernel_rfl) ?_ ?_
   ·exact⟨⟨_,I.out⟩,rfl⟩
   iterate 6 (refine RP.walkR_read ?_;simp only[dsc_,dz_,tsc_,tz_];go_big_quiet_step (fail);refine wpQuiet_nil ?_)
   clear hnon s2 r2
   refine RP.walkR_move ?_
   simp only[dsc_,dz_,tsc_,tz_]
   go_wp2_with fail
   refine cm_ (HMg.out xh _ (by omega) (B8.out.drew)) ?_
   rintro e_ wa ⟨rfl,hb⟩
   have Wa:Hid (Below w8.heap.size w8 wa):=(Below.refl w8.heap.size w8).drew.trans hb
   clear hb I
   go_wp2_with fail
   refine⟨⟨⟨_,Wa.out⟩,rfl⟩,?_⟩
   refine RP.walkR_move ?_
   simp only[dsc_,dz_,tsc_,tz_]
   go_wp2_with fail
   refine cm_ (HMd.out yl _ (by omega) (B8.out.trans (Wa.out.mono B8.out.size))) ?_
   rintro e_ wb ⟨rfl,hb⟩
   have Wb:=hd_ (Wa.out.trans (hb.mono Wa.out.size))
   clear hb Wa
   go_wp2_with fail
   refine⟨⟨⟨_,Wb.out⟩,rfl⟩,?_⟩
   refine RP.walkR_move ?_
   simp only[dsc_,dz_,tsc_,tz_]
   go_wp2_with fail
   refine cm_ (HDv.out xh yl _ (by omega) (by omega) (by omega) (B8.out.trans (Wb.out.mono B8.out.size))) ?_
   rintro e_ wc ⟨rfl,hb⟩
   have Wc:=hd_ (Wb.out.trans (hb.mono Wb.out.size))
   clear hb Wb
   go_wp2_with fail
   refine⟨⟨⟨_,Wc.out⟩,rfl⟩,?_⟩
   refine RP.walkR_any ?_
   simp only[dsc_,dz_,tsc_,tz_]
   go_big_quiet_step (fail)
   refine wpQuiet_nil ?_
   refine RP.walkR_any ?_
   simp only[dsc_,dz_,tsc_,tz_]
   go_big_quiet_step (fail)
   refine wpQuiet_nil ?_
   refine RP.walkR_any ?_
   simp only[dsc_,dz_,tsc_,tz_]
   go_big_quiet_step (fail)
   refine wpQuiet_nil ?_
   refine RP.walkR_any ?_
   simp only[dsc_,dz_,tsc_,tz_]
   go_big_quiet_step (fail)
   refine wpQuiet_nil ?_
   refine RP.walkR_move ?_
   simp only[dsc_,dz_,tsc_,tz_]
   go_wp2_with fail
   refine⟨⟨⟨_,Wc.out⟩,rfl⟩,?_⟩
   refine RP.walkR_move ?_
   simp only[dsc_,dz_,tsc_,tz_]
   go_wp2_with fail
   refine⟨⟨⟨_,Wc.out⟩,rfl⟩,?_⟩
   refine RP.walkR_move ?_
   simp only[dsc_,dz_,tsc_,tz_]
   go_wp2_with fail
   simp only[RP.walkR]
   have hb:=Wc.out
   have B9:=hd_ (B8.out.trans (hb.mono B8.out.size))
   replace T1:=hd_ (heap_kept T1.out hb nr_)
   replace T2:=hd_ (heap_kept T2.out hb nr_)
   replace HX:=hd_ (HX.out.below hb)
   replace HY:=hd_ (HY.out.below hb)
   clear hb Wc B8
   generalize wc=w9 at *
   have hfl:fl=if xl*(dy:Int)/(yh*(dx:Int))=xh*(dy:Int)/(yl*(dx:Int)) then some (xl*(dy:Int)/(yh*(dx:Int))) else none:=by
    rw[Hf.out]
    unfold flS
    rw[if_neg (show ¬ yh≤0 by omega)]
    unfold flE LN.quoL LN.quoH
    rw[if_neg (show ¬ yl≤0 by omega),if_neg (show ¬ xl<0 by omega),if_neg (show ¬ xh<0 by omega)]
   have hsame:=same_itx (xl*(dy:Int)/(yh*(dx:Int))) (xh*(dy:Int)/(yl*(dx:Int)))
   clear Hf
   generalize xl*(dy:Int)/(yh*(dx:Int))=q1 at *
   generalize xh*(dy:Int)/(yl*(dx:Int))=q2 at *
   by_cases hqq:q1=q2
   ·rw[if_pos hqq] at hfl
    rw[decide_eq_true hqq] at hsame
    have Hans:=hd_ (Hspec.out _ hfl)
    clear hfl hqq Hspec Hnx
    go_wp2_with fail
    go_ret
    exact⟨by rw[Hans.out];rfl,B9.out⟩
   ·rw[if_neg hqq] at hfl
    rw[decide_eq_false hqq] at hsame
    obtain⟨hn2,hp2⟩:=Hnx.out hfl
    have Hp2:=hd_ hp2
    clear hfl hqq Hspec Hnx hp2
    go_wp2_with fail
    go_roundw
    case rel=>exact⟨n*2,Hp2,hn2,rfl,B9,T1,T2,HX,HY⟩
    case measure=>simp[intOf];omega
theorem lf_low38:∀ p∈oddP,(lgN ((p:Nat):Int) 128+1)%274877906944≠0:=by decide +kernel
theorem eLo_one(f:Int→Nat)(p k:Int)(h:0≤k):LN.eLo f [(p,k)]=k*(f p:Int):=by
 have e1:LN.eLo f [(p,k)]=(if k<0 then k*(LN.hiL f p:Int) else k*(f p:Int))+0:=by simp[LN.eLo]
 rw[e1,if_neg (by omega),Int.add_zero]
theorem eHi_one(f:Int→Nat)(p k:Int)(h:0≤k):LN.eHi f [(p,k)]=k*(LN.hiL f p:Int):=by
 have e1:LN.eHi f [(p,k)]=(if k<0 then k*(f p:Int) else k*(LN.hiL f p:Int))+0:=by simp[LN.eHi]
 rw[e1,if_neg (by omega),Int.add_zero]
theorem flAt_pow{p n N:Nat}(hp:p∈oddP)(hN:N≤1056)(hn:n+38≤N)(hl:(lgN p N+1)%274877906944≠0):
  flAt N [((p:Int),((2^n:Nat):Int))] [((2:Int),(1:Int))] 1 1=some ((lgN p n:Nat):Int):=by
 have hcut:=lgN_cut (p:=p) (.inr hp) (N-n) (n:=n) (by omega)
 rw[show n+(N-n)=N by omega] at hcut
 have hp2:((p:Nat):Int)≠2:=by have:=oddP_odd hp;omega
 have h2n:(2:Nat)^N=2^n*2^(N-n):=by rw[← Nat.pow_add];congr 1;omega
 have hdv:274877906944 ∣ 2^(N-n):=by
  rw[show (274877906944:Nat)=2^38 by decide]
  exact Nat.pow_dvd_pow 2 (by omega)
 have hnd:¬ 2^(N-n) ∣ lgN p N+1:=fun h=>hl (Nat.mod_eq_zero_of_dvd (Nat.dvd_trans hdv h))
 have hsd:(lgN p N+1)/2^(N-n)=lgN p N/2^(N-n):=Nat.succ_div_of_not_dvd hnd
 have hpos:=Nat.two_pow_pos n
 have hpos2:=Nat.two_pow_pos (N-n)
 unfold flAt
 rw[eLo_one _ _ _ (by omega),eHi_one _ _ _ (by omega),eLo_one _ _ _ (by decide),eHi_one _ _ _ (by decide)]
 have f1:LN.hiL (lf N) p=lgN p N+1:=by unfold LN.hiL lf;rw[if_neg hp2]
 have f2:LN.hiL (lf N) 2=2^N:=by unfold LN.hiL lf;rw[if_pos rfl,lgN_two]
 have f3:lf N 2=2^N:=lgN_two N
 have f4:lf N p=lgN p N:=rfl
 rw[f1,f2,f3,f4,h2n]
 clear f1 f2 f3 f4 h2n hl hnd hdv
 rw[hcut] at hsd
 generalize lgN p N=L at *
 generalize lgN p n=K at *
 generalize (2:Nat)^n=A at *
 generalize (2:Nat)^(N-n)=D at *
 have g1:((A:Int)*(L:Int))=((A*L:Nat):Int):=by rw[Int.natCast_mul]
 have g2:((A:Int)*((L+1:Nat):Int))=((A*(L+1):Nat):Int):=by rw[Int.natCast_mul]
 have hAD:0<A*D:=Nat.mul_pos hpos hpos2
 have q1:LN.quoL ((A:Int)*(L:Int)) (1*((A*D:Nat):Int)) (1*((A*D:Nat):Int)) 1 1=(K:Int):=by
  unfold LN.quoL
  rw[g1,if_neg (by omega),Int.mul_one,Int.mul_one,Int.one_mul,← Int.natCast_ediv,Nat.mul_div_mul_left _ _ hpos,hcut]
 have q2:LN.quoH ((A:Int)*((L+1:Nat):Int)) (1*((A*D:Nat):Int)) (1*((A*D:Nat):Int)) 1 1=(K:Int):=by
  unfold LN.quoH
  rw[g2,if_neg (by omega),Int.mul_one,Int.mul_one,Int.one_mul,← Int.natCast_ediv,Nat.mul_div_mul_left _ _ hpos,hsd]
 unfold flS
 rw[if_neg (by rw[Int.one_mul];omega)]
 unfold flE
 rw[if_neg (by rw[Int.one_mul];omega)]
 have c1:((1:Nat):Int)=1:=rfl
 rw[c1,q1,q2,if_pos rfl]
theorem flAt_pow_val{p n N:Nat}{r:Int}(hp:p∈oddP)(hN:N≤1056)(h:flAt N [((p:Int),((2^n:Nat):Int))] [((2:Int),(1:Int))] 1 1=some r):r=((lgN p n:Nat):Int):=by
 have hp2:((p:Nat):Int)≠2:=by have:=oddP_odd hp;omega
 have hz:(0:Int)≤((2^n:Nat):Int):=Int.natCast_nonneg _
 unfold flAt at h
 rw[eLo_one _ _ _ hz,eHi_one _ _ _ hz,eLo_one _ _ _ (by decide),eHi_one _ _ _ (by decide)] at h
 have f1:LN.hiL (lf N) p=lgN p N+1:=by unfold LN.hiL lf;rw[if_neg hp2]
 have f2:LN.hiL (lf N) 2=2^N:=by unfold LN.hiL lf;rw[if_pos rfl,lgN_two]
 have f3:lf N 2=2^N:=lgN_two N
 have f4:lf N p=lgN p N:=rfl
 rw[f1,f2,f3,f4] at h
 have hpos:=Nat.two_pow_pos n
 have hposN:=Nat.two_pow_pos N
 unfold flS at h
 rw[if_neg (by rw[Int.one_mul];omega)] at h
 obtain⟨-,h1,h2⟩:=flE_some h
 unfold LN.quoL at h1
 unfold LN.quoH at h2
 have c1:((1:Nat):Int)=1:=rfl
 rw[c1,← Int.natCast_mul,if_neg (by omega),Int.mul_one,Int.mul_one,Int.one_mul,← Int.natCast_ediv] at h1
 rw[c1,← Int.natCast_mul,if_neg (by omega),Int.mul_one,Int.mul_one,Int.one_mul,← Int.natCast_ediv] at h2
 rcases Nat.lt_or_ge N n with hc|hc
 ·exfalso
  have e:(2:Nat)^n=2^N*2^(n-N):=by rw[← Nat.pow_add];congr 1;omega
  have hd:=Nat.two_pow_pos (n-N)
  rw[e,Nat.mul_assoc,Nat.mul_div_cancel_left _ hposN] at h1
  rw[e,Nat.mul_assoc,Nat.mul_div_cancel_left _ hposN,Nat.mul_add,Nat.mul_one] at h2
  omega
 ·have hcut:=lgN_cut (p:=p) (.inr hp) (N-n) (n:=n) (by omega)
  rw[show n+(N-n)=N by omega] at hcut
  have e:(2:Nat)^N=2^n*2^(N-n):=by rw[← Nat.pow_add];congr 1;omega
  rw[e,Nat.mul_div_mul_left _ _ hpos,hcut] at h1
  exact h1.symm
def pwA (n:Nat):List Rat:=[0,((((2^n:Nat):Int)):Rat)]
def pwB:List Rat:=[1,0]
theorem tden_pwA(n:Nat):tden (pwA n)=1:=by
 have h:=LN.tden_min (l:=pwA n) (D:=1) fun q hq=>by
  simp only[pwA,List.mem_cons,List.not_mem_nil,or_false] at hq
  rcases hq with rfl|rfl
  ·exact Nat.dvd_refl 1
  ·rw[Rat.den_intCast];exact Nat.dvd_refl 1
 exact Nat.dvd_one.1 h
theorem tden_pwB:tden pwB=1:=by decide +kernel
theorem tlQ_pow(p n:Nat):tlQ [2,(p:Int)] (pwA n)=[((p:Int),((2^n:Nat):Int))]:=by
 have h0:=Nat.two_pow_pos n
 unfold tlQ
 rw[tden_pwA]
 unfold tlist pwA
 generalize 2^n=A at *
 rw[List.zip_cons_cons,List.zip_cons_cons,List.filterMap_cons,List.filterMap_cons]
 have z0:(0:Rat).num=0:=rfl
 have z1:((((A:Nat):Int)):Rat).num=((A:Nat):Int):=by rw[Rat.num_intCast]
 have z2:((((A:Nat):Int)):Rat).den=1:=by rw[Rat.den_intCast]
 simp only[z0,z1,z2,if_pos]
 rw[if_neg (by omega)]
 simp
theorem tlQ_oct(p:Nat):tlQ [2,(p:Int)] pwB=[((2:Int),(1:Int))]:=by
 unfold tlQ
 rw[tden_pwB]
 unfold tlist pwB
 rw[List.zip_cons_cons,List.zip_cons_cons,List.filterMap_cons,List.filterMap_cons]
 rfl
theorem pcode_two{p:Nat}(hp:p∈oddP):pcode [2,(p:Int)]=0:=by
 have key:∀ q∈oddP,pcode [2,((q:Nat):Int)]=0:=by decide +kernel
 exact key p hp
theorem all_two{p:Nat}(hp:p∈oddP):∀ x∈[2,(p:Int)],x∈allP:=by
 have key:∀ q∈oddP,((q:Nat):Int)∈allP:=by decide
 intro x hx
 simp only[List.mem_cons,List.not_mem_nil,or_false] at hx
 rcases hx with rfl|rfl
 ·decide
 ·exact key p hp
theorem low_one(p k:Int):lowT [(p,k)]=min (k*lgA p) (k*lgB p)∧highT [(p,k)]=max (k*lgA p) (k*lgB p):=by
 unfold lowT highT
 exact⟨by simp,by simp⟩
theorem oct_okt:okT 100000 ((2:Int),(1:Int)):=by decide +kernel
theorem oct_lg:lgA 2=67108864∧lgB 2=67108864:=by decide +kernel
theorem odd_lgA:∀ q∈oddP,(0:Int)≤lgA ((q:Nat):Int)∧lgA ((q:Nat):Int)≤500000000∧lgB ((q:Nat):Int)=lgA ((q:Nat):Int)+1:=by decide +kernel
theorem floor_pow{p n:Nat}(hp:p∈oddP)(hn:n≤90):FlrZp [2,(p:Int)] (pwA n) pwB 91 ((lgN p n:Nat):Int):=by
 have hpos:=Nat.two_pow_pos n
 obtain⟨o1,o2⟩:=oct_lg
 obtain⟨g1,g2,g3⟩:=odd_lgA p hp
 obtain⟨l1,l2⟩:=low_one (p:Int) ((2^n:Nat):Int)
 obtain⟨m1,m2⟩:=low_one 2 1
 rw[o1,o2] at m1 m2
 rw[g3] at l1 l2
 have q1:((2^n:Nat):Int)*lgA p≤((2^n:Nat):Int)*(lgA p+1):=Int.mul_le_mul_of_nonneg_left (by omega) (by omega)
 have q0:0≤((2^n:Nat):Int)*lgA p:=Int.mul_nonneg (by omega) g1
 rw[Int.min_eq_left q1] at l1
 rw[Int.max_eq_right q1] at l2
 have m1':lowT [((2:Int),(1:Int))]=67108864:=m1
 have m2':highT [((2:Int),(1:Int))]=67108864:=m2
 have hm:∀ {P:Int×Int→Prop} {x:Int×Int},P x→∀ t∈[x],P t:=fun h t ht=>by obtain rfl:=List.mem_singleton.1 ht;exact h
 refine⟨all_two hp,by simp,?_,?_,by rw[tden_pwA];decide,by rw[tden_pwB];decide,by decide,fun N hN=>?_,?_,fun N r hN h=>?_,?_,?_,by rw[tden_pwA];decide,by rw[tden_pwB];decide,?_,?_,fun h=>?_,?_,?_,?_,fun h=>?_⟩
 ·rw[tlQ_pow]
  refine hm (P:=fun t=>t.2.natAbs<2^91) ?_
  show (((2^n:Nat):Int)).natAbs<2^91
  rw[Int.natAbs_natCast]
  exact Nat.pow_lt_pow_right (by decide) (by omega)
 ·rw[tlQ_oct]
  exact hm (P:=fun t=>t.2.natAbs<2^91) (by decide)
 ·rw[tlQ_pow,tlQ_oct,eLo_one _ _ _ (Int.natCast_nonneg _),eLo_one _ _ _ (by decide)]
  refine⟨Int.mul_nonneg (Int.natCast_nonneg _) (Int.natCast_nonneg _),?_⟩
  have f3:lf N 2=2^N:=lgN_two N
  rw[f3,Int.one_mul]
  have:=Nat.two_pow_pos N
  omega
 ·rw[tlQ_pow,tlQ_oct,tden_pwA,tden_pwB,flAt_pow hp (by decide) (by omega) (lf_low38 p hp)]
  exact fun h=>by cases h
 ·rw[tlQ_pow,tlQ_oct,tden_pwA,tden_pwB] at h
  exact flAt_pow_val hp (by omega) h
 ·refine decide_eq_false fun h=>?_
  have h1:=h 1 (by simp)
  have e1:pwB.getD 1 0=0:=rfl
  have e2:(pwA n).getD 1 0=((((2^n:Nat):Int)):Rat):=rfl
  rw[e1,e2,Rat.mul_zero] at h1
  have h2:((0:Int):Rat)=((((2^n:Nat):Int)):Rat):=h1
  have:=Rat.intCast_inj.1 h2
  omega
 ·rw[tlQ_oct]
  exact hm (P:=okT 100000) oct_okt
 ·rw[tlQ_pow,l1];exact q0
 ·rw[tlQ_pow,l1,l2];exact q1
 ·rw[tlQ_pow] at h
  have hk:=(h _ (List.mem_singleton.2 rfl)).1.2
  rw[tlQ_pow,l2]
  have hk':((2^n:Nat):Int)≤100000:=hk
  have:=Int.mul_le_mul hk' (show lgA p+1≤500000001 by omega) (by omega) (by omega)
  omega
 ·rw[tlQ_oct,m1'];decide
 ·rw[tlQ_oct,m1',m2'];decide
 ·rw[tlQ_oct,m2'];decide
 ·rw[tlQ_pow] at h
  have hk:=h _ (List.mem_singleton.2 rfl)
  have hk':((2^n:Nat):Int)≤100000:=hk.1.2
  have hd:=(lgA_lf (p:=(p:Int)) ⟨p,rfl,.inr hp⟩ hk.2).1
  have hn16:n≤16:=by
   refine Nat.le_of_not_lt fun hc=>?_
   have:2^17≤2^n:=Nat.pow_le_pow_right (by decide) hc
   have e:(2:Nat)^17=131072:=by decide
   omega
  rw[tlQ_pow,tlQ_oct,l1,m2',tden_pwA,tden_pwB,hd]
  have hcut:=lgN_cut (p:=p) (.inr hp) (26-n) (n:=n) (by omega)
  rw[show n+(26-n)=26 by omega] at hcut
  have e:(67108864:Nat)=2^n*2^(26-n):=by
   rw[← Nat.pow_add,show n+(26-n)=26 by omega]
  have f4:lf 26 p=lgN p 26:=rfl
  have key:((2^n:Nat):Int)*((lf 26 p:Nat):Int)*((1:Nat):Int)/(67108864*((1:Nat):Int))=((lgN p n:Nat):Int):=by
   rw[show (67108864:Int)=((67108864:Nat):Int) from rfl,← Int.natCast_mul,← Int.natCast_mul,← Int.natCast_mul,← Int.natCast_ediv,Nat.mul_one,Nat.mul_one,e,Nat.mul_div_mul_left _ _ hpos,f4,hcut]
  have hlt:=lgN_le (.inr hp) (show n≤1056 by omega)
  have h16:2^n≤2^16:=Nat.pow_le_pow_right (by decide) hn16
  have e16:(2:Nat)^16=65536:=by decide
  exact⟨key,by omega,by omega⟩
theorem pw_sm{n:Nat}(hn:n≤90):(∀ q∈pwA n,Sm 30 q)∧∀ q∈pwB,Sm 30 q:=by
 have h1:(2:Nat)^n≤2^90:=Nat.pow_le_pow_right (by decide) hn
 have h2:(2:Nat)^90<10^30:=by decide
 have z:Sm 30 (0:Rat):=⟨by decide,by decide⟩
 constructor
 ·intro q hq
  simp only[pwA,List.mem_cons,List.not_mem_nil,or_false] at hq
  rcases hq with rfl|rfl
  ·exact z
  ·exact⟨by rw[Rat.num_intCast,Int.natAbs_natCast];omega,by rw[Rat.den_intCast];decide⟩
 ·intro q hq
  simp only[pwB,List.mem_cons,List.not_mem_nil,or_false] at hq
  rcases hq with rfl|rfl
  ·exact⟨by decide,by decide⟩
  ·exact z
end Go.Proofs.YtnjedhgcfeoemaaGreatDoor
