/- Lemmas for the laws of this seat, part 4. -/
import Derived.Laws.AppendOwnNone
import Derived.BigQuiet
import Derived.Deep.OwnRows
import Derived.Test.YtnjedhgcfeoemaaGreatDoorCards
import Derived.Test.YtnjedhgcfeoemaaGreatDoorTie
import Derived.SevenTiedAt
import Derived.Test.YtnjedhgcfeoemaaGreatDoorWb3
set_option maxRecDepth 100000
set_option maxHeartbeats 16000000
namespace Go.Proofs.YtnjedhgcfeoemaaGreatDoor
open Go.RowKit
theorem two_set {w:World} {R:Nat} {x y x' y':Value} {t:TypeId} (h:w.heap[R]?=some (.cells #[x,y] t (0,0))) :
  ((w.setCell ⟨R,0,none⟩ x').setCell ⟨R,1,none⟩ y').heap[R]?=some (.cells #[x',y'] t (0,0)):=by
 have hlt:=lt_of_block h
 have h':w.heap[R] = .cells #[x,y] t (0,0):=by simpa [Array.getElem?_eq_getElem hlt] using h
 have e1:(w.setCell ⟨R,0,none⟩ x').heap[R]?=some (.cells #[x',y] t (0,0)):=by
  show (w.heap.modify R _)[R]?=_
  rw [Array.getElem?_eq_getElem (by simpa using hlt),Array.getElem_modify_self,h']
  rfl
 have hlt2:=lt_of_block e1
 have h2':(w.setCell ⟨R,0,none⟩ x').heap[R] = .cells #[x',y] t (0,0):=by simpa [Array.getElem?_eq_getElem hlt2] using e1
 show ((w.setCell ⟨R,0,none⟩ x').heap.modify R _)[R]?=_
 rw [Array.getElem?_eq_getElem (by simpa using hlt2),Array.getElem_modify_self,h2']
 rfl
def FrAt (w:World) (g:Nat) (q:Rat):Prop:=w.heap[g]?=some (.cells #[.string (itx q.num),.string (dec q.den)] 42 (0,0))
theorem FrAt.below {w w':World} {g:Nat} {q:Rat} (h:FrAt w g q) (hb:Below w.heap.size w w'):FrAt w' g q:=by
 unfold FrAt at *
 rw [hb.block g (Array.getElem?_eq_some_iff.1 h).1]; exact h
structure EnI (w wr:World) (lo hi:Rat):Prop where
 e0:FrAt wr w.heap.size lo
 e1:FrAt wr (w.heap.size + 1) hi
 bel:Below w.heap.size w wr
theorem EnI.below {w wr w':World} {lo hi:Rat} (h:EnI w wr lo hi) (hb:Below wr.heap.size wr w'):EnI w w' lo hi:=⟨h.e0.below hb,h.e1.below hb,h.bel.trans (hb.mono h.bel.size)⟩
def putEnds (w:World) (E:Nat) (a b:Rat):World :=
 (((w.setCell ⟨E,0,none⟩ (.string (itx a.num))).setCell ⟨E,1,none⟩ (.string (dec a.den))).setCell ⟨E + 1,0,none⟩ (.string (itx b.num))).setCell ⟨E + 1,1,none⟩ (.string (dec b.den))
theorem EnI.put {w wr:World} {lo hi:Rat} (h:EnI w wr lo hi) (a b:Rat):EnI w (putEnds wr w.heap.size a b) a b:=by
 have h1:=two_set (x' := .string (itx a.num)) (y' := .string (dec a.den)) h.e0
 have e1:((wr.setCell ⟨w.heap.size,0,none⟩ (.string (itx a.num))).setCell ⟨w.heap.size,1,none⟩ (.string (dec a.den))).heap[w.heap.size + 1]?=some (.cells #[.string (itx hi.num),.string (dec hi.den)] 42 (0,0)):=by
  rw [Below.heap_setCell _ _ _ _ (by show w.heap.size + 1≠w.heap.size; omega),Below.heap_setCell _ _ _ _ (by show w.heap.size + 1≠w.heap.size; omega)]
  exact h.e1
 have h2:=two_set (x' := .string (itx b.num)) (y' := .string (dec b.den)) e1
 unfold putEnds
 refine ⟨?_,h2,?_⟩
 ·unfold FrAt
  rw [Below.heap_setCell _ _ _ _ (by show w.heap.size≠w.heap.size + 1; omega),Below.heap_setCell _ _ _ _ (by show w.heap.size≠w.heap.size + 1; omega)]
  exact h1
 ·exact (((h.bel.setCell (p:=⟨w.heap.size,0,none⟩) nr_ _).setCell (p:=⟨w.heap.size,1,none⟩) nr_ _).setCell (p:=⟨w.heap.size + 1,0,none⟩) (Nat.le_succ _) _).setCell (p:=⟨w.heap.size + 1,1,none⟩) (Nat.le_succ _) _
theorem EnI.set {w wr:World} {lo hi:Rat} (h:EnI w wr lo hi) {g:Nat} (hg:w.heap.size + 2≤g) (x y:Value):EnI w ((wr.setCell ⟨g,0,none⟩ x).setCell ⟨g,1,none⟩ y) lo hi:=by
 refine ⟨?_,?_,(h.bel.setCell (p:=⟨g,0,none⟩) (by show _≤g; omega) _).setCell (p:=⟨g,1,none⟩) (by show _≤g; omega) _⟩
 ·unfold FrAt
  rw [Below.heap_setCell _ _ _ _ (by show w.heap.size≠g; omega),Below.heap_setCell _ _ _ _ (by show w.heap.size≠g; omega)]
  exact h.e0
 ·unfold FrAt
  rw [Below.heap_setCell _ _ _ _ (by show w.heap.size + 1≠g; omega),Below.heap_setCell _ _ _ _ (by show w.heap.size + 1≠g; omega)]
  exact h.e1
theorem FrAt.set {w:World} {g k:Nat} {q:Rat} (h:FrAt w g q) (hk:g≠k) (x y:Value):FrAt ((w.setCell ⟨k,0,none⟩ x).setCell ⟨k,1,none⟩ y) g q:=by
 unfold FrAt
 rw [Below.heap_setCell _ _ _ _ hk,Below.heap_setCell _ _ _ _ hk]
 exact h
theorem FrAt.put {w:World} {g:Nat} {q:Rat} (h:FrAt w g q) (a:Rat):FrAt ((w.setCell ⟨g,0,none⟩ (.string (itx a.num))).setCell ⟨g,1,none⟩ (.string (dec a.den))) g a:=two_set h
theorem FrAt.new (w:World) (q:Rat):FrAt (w.alloc (.cells #[.string (itx q.num),.string (dec q.den)] 42)) w.heap.size q:=heap_alloc_new w _
theorem zero_txt:itx (0:Rat).num=⟨#[48]⟩∧dec (0:Rat).den=⟨#[49]⟩:=by
 refine ⟨?_,?_⟩
 ·show itx 0=_
  rw [show itx 0=dec 0 from itx_nat 0]
  have:(dec 0).data = #[48]:=by decide +kernel
  exact ByteArray.ext this
 ·exact dec_one
structure EnW (w0:World) (lo hi:Rat) where
 w:World
 h:EnI w0 w lo hi
theorem EnW.cells {w0:World} {lo hi:Rat} (p:EnW w0 lo hi):p.w.cell? ⟨w0.heap.size,0,none⟩=some (.string (itx lo.num))∧p.w.cell? ⟨w0.heap.size,1,none⟩=some (.string (dec lo.den))∧p.w.cell? ⟨w0.heap.size + 1,0,none⟩=some (.string (itx hi.num))∧p.w.cell? ⟨w0.heap.size + 1,1,none⟩=some (.string (dec hi.den)):=by
 obtain ⟨k0,k1,-,-⟩:=two_cells p.h.e0
 obtain ⟨k2,k3,-,-⟩:=two_cells p.h.e1
 exact ⟨k0,k1,k2,k3⟩
theorem EnI.put0 {w wr:World} {lo hi:Rat} (h:EnI w wr lo hi) (a:Rat):EnI w ((wr.setCell ⟨w.heap.size,0,none⟩ (.string (itx a.num))).setCell ⟨w.heap.size,1,none⟩ (.string (dec a.den))) a hi :=
 ⟨two_set h.e0,FrAt.set h.e1 (by omega) _ _,(h.bel.setCell (p:=⟨w.heap.size,0,none⟩) nr_ _).setCell (p:=⟨w.heap.size,1,none⟩) nr_ _⟩
theorem EnI.put1 {w wr:World} {lo hi:Rat} (h:EnI w wr lo hi) (a:Rat):EnI w ((wr.setCell ⟨w.heap.size + 1,0,none⟩ (.string (itx a.num))).setCell ⟨w.heap.size + 1,1,none⟩ (.string (dec a.den))) lo a :=
 ⟨FrAt.set h.e0 (by omega) _ _,two_set h.e1,(h.bel.setCell (p:=⟨w.heap.size + 1,0,none⟩) (Nat.le_succ _) _).setCell (p:=⟨w.heap.size + 1,1,none⟩) (Nat.le_succ _) _⟩
theorem num_k10 {x:Nat} (h:x < 2 ^ K10):Num x:=num_two h (by decide)
theorem lg_k10 {q b:Nat} (hq:q=2∨q∈oddP) (hb:b≤1000):lgN q b + 2 < 2 ^ K10∧2 ^ b + 1 < 2 ^ K10:=by
 have h1:=lgN_le hq (show b≤1056 by omega)
 have h2:8 * 2 ^ b≤2 ^ K10:=by
  rw [show 8=2 ^ 3 from rfl,← Nat.pow_add]
  exact Nat.pow_le_pow_right (by decide) (by rw [k10]; omega)
 have h3:8 * 2 ^ b + 8≤2 ^ K10:=by
  have e:8 * 2 ^ b * 2≤2 ^ K10:=by
   rw [show 8=2 ^ 3 from rfl,← Nat.pow_add,← Nat.pow_succ]
   exact Nat.pow_le_pow_right (by decide) (by rw [k10]; omega)
  have:=Nat.two_pow_pos b
  omega
 have:=Nat.two_pow_pos b
 omega
theorem newQ (w:World) (n d:Nat) (hn:n + 1 < 2 ^ K10) (hd:d + 1 < 2 ^ K10) (hd0:0 < d) (L:Laid w) :
  Gives Tryz.prog 102 #[.string (dec n),.string (dec d)] w (.tuple #[fr (mkRat (n:Int) d),.int .i64 0]):=by
 have h:=new_frac w n d (show Num _ from num_k10 (by rw [Int.natAbs_natCast]; omega)) (num_k10 (by omega)) hd0 (num_k10 (by rw [Int.natAbs_natCast]; exact hn)) (num_k10 hd) L
 rw [itx_nat,redV_rat _ _ (by omega)] at h
 exact h
theorem ends_any14 (w:World) (R:Nat) (ps:List Int) (l:List Rat) (B b D:Nat) (H:LgAt w R ps l B) (hl:l.length=ps.length) (hn:ps.length≤100) (hp:∀ p∈ps,∃ q:Nat,p=q∧(q=2∨q∈oddP)) (hs:∀ q∈l,Sm D q) (hD:D≤300) (hb:b≤B) (hB:B≤1000) (L:Laid w) :
  Gives Tryz.prog 80 #[.pointer (some ⟨R,0,none⟩),.int .i64 b] w (.tuple #[fr (loE b ps l),fr (hiE b ps l)]):=by
 unfold Gives
 have HH:=hd_ H
 have Hp:=hd_ hp
 have Hl:=hd_ hl
 have Hs:=hd_ hs
 have HL:=hd_ L
 obtain ⟨a0,c0,a1,c1,a2,c2,S⟩:=H
 obtain ⟨k0,k1,k2,k3,-⟩:=four_cells S.ob
 have hRs:R < w.heap.size:=(Array.getElem?_eq_some_iff.1 S.ob).1
 have HRp:=hd_ S.rp
 have HRl:=hd_ S.rl
 have HPw:=hd_ (fun W (hW:Below w.heap.size w W)=>power_ok W b (by omega) (HL.out.below hW))
 have Hk0:Hid (∀ W,Below w.heap.size w W→W.cell? ⟨R,0,none⟩=some (.slice a0 ps.length c0)):=fun W hW=>by rw [hW.cell (p:=⟨R,0,none⟩) hRs]; exact k0
 have Hk1:Hid (∀ W,Below w.heap.size w W→W.cell? ⟨R,1,none⟩=some (.slice a1 ps.length c1)):=fun W hW=>by rw [hW.cell (p:=⟨R,1,none⟩) hRs]; exact k1
 have Hv:Hid (True→(loE b ps l=loE b (ps.take ps.length) (l.take ps.length))∧hiE b ps l=hiE b (ps.take ps.length) (l.take ps.length)):=fun _=>by
  rw [List.take_length,List.take_of_length_le (by omega)]; exact ⟨rfl,rfl⟩
 obtain ⟨vlo,hvlo⟩:∃ v,loE b ps l=v:=⟨_,rfl⟩
 obtain ⟨vhi,hvhi⟩:∃ v,hiE b ps l=v:=⟨_,rfl⟩
 rw [hvlo,hvhi] at Hv ⊢
 clear S L hs hp hl hvlo hvhi k2 k3
 obtain ⟨n,hn'⟩:∃ n,ps.length=n:=⟨_,rfl⟩
 have Hn:=hd_ hn'
 rw [hn'] at hn Hk0 Hk1 Hv k0 k1
 clear hn'
 unfold fr fv
 go_enter Tryz.func80,Tryz.ntmps80
 go_wp2_with fail
 have HE0:Hid (EnI w ((w.alloc (.cells #[.string ⟨#[48]⟩,.string ⟨#[49]⟩] 42)).alloc (.cells #[.string ⟨#[48]⟩,.string ⟨#[49]⟩] 42)) 0 0):=by
  obtain ⟨z1,z2⟩:=zero_txt
  have h1:=FrAt.new w 0
  have h2:=FrAt.new (w.alloc (.cells #[.string (itx (0:Rat).num),.string (dec (0:Rat).den)] 42)) 0
  rw [z1,z2] at h1 h2
  refine ⟨h1.below ((Below.refl _ _).alloc nr_ _),?_,((Below.refl _ _).alloc nr_ _).alloc (by simp) _⟩
  have e:(w.alloc (.cells #[.string ⟨#[48]⟩,.string ⟨#[49]⟩] 42)).heap.size=w.heap.size + 1:=by simp
  rw [e] at h2; exact h2
 have Hz2:Hid (w.heap.size + 2≤((w.alloc (.cells #[.string ⟨#[48]⟩,.string ⟨#[49]⟩] 42)).alloc (.cells #[.string ⟨#[48]⟩,.string ⟨#[49]⟩] 42)).heap.size):=by show _≤_; simp
 generalize (w.alloc (.cells #[.string ⟨#[48]⟩,.string ⟨#[49]⟩] 42)).alloc (.cells #[.string ⟨#[48]⟩,.string ⟨#[49]⟩] 42)=W0 at *
 refine cm_ (HPw.out _ HE0.out.bel) ?_
 rintro e w1 ⟨rfl,hb1⟩
 have HE1:=hd_ (HE0.out.below hb1)
 have Hz3:=hd_ (Nat.le_trans Hz2.out hb1.size)
 have k1':=Hk1.out _ HE1.out.bel
 clear hb1 HE0 HPw k0 k1 Hz2
 go_wp2_with fail
 go_loopw [25] (fun i wr=>∃ k:Nat,k≤n∧i = .int .i64 k∧Hid (EnI w wr (loE b (ps.take k) (l.take k)) (hiE b (ps.take k) (l.take k)))∧Hid (w.heap.size + 2≤wr.heap.size)) (fun i _=>n - (intOf i).toNat)
 case atStart=>exact ⟨0,Nat.zero_le _,rfl,by simpa [loE,hiE] using HE1,Hz3⟩
 case round =>
  obtain ⟨k,hk,rfl,HE,Hz⟩:=hrel
  clear HE1 Hz3 k1'
  by_cases hlt:k < n
  ·have hlt':(k:Int) < n:=by omega
   have hkp:k < ps.length:=by rw [Hn.out]; exact hlt
   have hkl:k < l.length:=by rw [Hl.out]; exact hkp
   obtain ⟨b0,o0,rfl,hb0,hc0⟩:=HRp.out.open (by rw [ints_length]; omega)
   have Hcp:Hid (∀ W,Below w.heap.size w W→W.cell? ⟨b0,o0 + k,none⟩=some (.int .i64 ps[k])):=fun W hW=>by
    rw [hW.cell (p:=⟨b0,o0 + k,none⟩) hb0]; exact hc0 k _ (ints_get ps k hkp)
   obtain ⟨b1,o1,rfl,hb1,hc1⟩:=HRl.out.open (by rw [cellsQ_length]; omega)
   obtain ⟨x0,x1⟩:=cellsS_rd hc1 k (by rw [List.length_map]; exact hkl)
   rw [qs_getD l k hkl] at x0 x1
   rw [← HE.out.bel.cell (p:=⟨b1,o1 + k * 2,none⟩) hb1] at x0
   rw [← HE.out.bel.cell (p:=⟨b1,o1 + k * 2 + 1,none⟩) hb1] at x1
   have hkw:IntKind.i64.wrap ((k:Int) + 1)=((k + 1:Nat):Int):=by rw [← Int.natCast_succ]; exact iw_ _ (by omega)
   have Hsg:=hd_ (fun W=>signR W l[k])
   have Hst:=hd_ (ends_take b ps l k Hl.out hkp hkl)
   have Hsm:=hd_ (ends_sm (show b≤1056 by omega) Hp.out Hl.out Hs.out k (Nat.le_of_lt hkp))
   have Hcs:=hd_ (Hs.out l[k] (List.getElem_mem hkl))
   obtain ⟨q,hq,hq2⟩:=Hp.out _ (List.getElem_mem hkp)
   have Hxs:=hd_ (xE_sm (p:=ps[k]) (Hp.out _ (List.getElem_mem hkp)) (show b≤1056 by omega))
   have HAt:=hd_ (fun W (hW:Below w.heap.size w W) (hz:l[k].num≠0)=>at_any W R ps l B b k (HH.out.below hW) Hl.out (by rw [Hn.out]; omega) hkp hkl (Hp.out _ (List.getElem_mem hkp)) hz hb hB (HL.out.below hW))
   have Hq:=hd_ hq
   have Hq2:=hd_ hq2
   have hDk:1 + k * (D + 356)≤65700:=by
    have:k * (D + 356)≤100 * 656:=Nat.mul_le_mul (by omega) (by omega)
    omega
   clear hc0 hc1 hq hq2
   unfold fr fv at Hsg
   unfold qs at x0 x1
   simp only at x0 x1
   generalize l[k]=c at *
   generalize ps[k]=pk at *
   have Hb1000:=hd_ (show b≤1000 by omega)
   by_cases hz:c.num=0
   ·have hc0:c=0:=Rat.num_eq_zero.1 hz
    have hskip:loE b (ps.take (k + 1)) (l.take (k + 1))=loE b (ps.take k) (l.take k)∧hiE b (ps.take (k + 1)) (l.take (k + 1))=hiE b (ps.take k) (l.take k):=by
     obtain ⟨e1,e2⟩:=ends_skip b pk
     have:=Hst.out
     rw [hc0,e1,e2,Rat.add_zero,Rat.add_zero] at this
     exact this
    have Hskip:=hd_ hskip
    rw [hz] at Hsg x0
    have HEa:=hd_ (HE.out.below ((Below.refl _ _).alloc nr_ (.cells #[.string (itx 0),.string (dec c.den)] 42)))
    have Hza:Hid (w.heap.size + 2≤(wr.alloc (.cells #[.string (itx 0),.string (dec c.den)] 42)).heap.size):=by show _≤_; simp; have:=Hz.out; omega
    have k8:=two_cells (heap_alloc_new wr (.cells #[.string (itx 0),.string (dec c.den)] 42))
    clear hskip HAt Hst Hsm Hcs Hxs Hq Hq2 Hcp hc0 hz
    go_wp2_with fail
    refine cm_ (Hsg.out _) ?_
    rintro e w2 ⟨rfl,hb2⟩
    have HE2:=hd_ (HEa.out.below hb2)
    have Hz2:=hd_ (Nat.le_trans Hza.out hb2.size)
    clear hb2 Hsg k8
    go_wp2_with fail
    refine ⟨⟨k + 1,by omega,by go_num,by rw [Hskip.out.1,Hskip.out.2]; exact HE2,Hz2⟩,by simp [intOf]; omega⟩
   ·have hsb:(c.num.sign == 0)=false:=by
     rw [beq_eq_false_iff_ne]
     intro h
     exact hz (Int.sign_eq_zero_iff_zero.1 h)
    have HAt':=hd_ (fun W hW=>HAt.out W hW hz)
    have HEa:=hd_ (HE.out.below ((Below.refl _ _).alloc nr_ (.cells #[.string (itx c.num),.string (dec c.den)] 42)))
    have Hza:Hid (w.heap.size + 2≤(wr.alloc (.cells #[.string (itx c.num),.string (dec c.den)] 42)).heap.size):=by show _≤_; simp; have:=Hz.out; omega
    have F8:=hd_ (FrAt.new wr c)
    obtain ⟨g8,hg8⟩:∃ g8,g8=wr.heap.size:=⟨_,rfl⟩
    have k8:=two_cells (heap_alloc_new wr (.cells #[.string (itx c.num),.string (dec c.den)] 42))
    clear HAt hz
    go_wp2_with fail
    refine cm_ (Hsg.out _) ?_
    rintro e w2 ⟨rfl,hb2⟩
    have HE2:=hd_ (HEa.out.below hb2)
    have Hz2:=hd_ (Nat.le_trans Hza.out hb2.size)
    have F82:=hd_ (F8.out.below hb2)
    rw [← hg8] at F82
    have hz8:w.heap.size + 2≤g8:=by rw [hg8]; exact Hz.out
    have h82:g8 < w2.heap.size:=(Array.getElem?_eq_some_iff.1 F82.out).1
    clear hb2 Hsg k8 HEa Hza F8
    rw [← hg8]
    have Hz8:=hd_ hz8
    have H82:=hd_ h82
    clear x0 x1 hg8 hz8 h82
    obtain ⟨k0,k1,-,-⟩:=two_cells F82.out
    have q0:=NW.cell k0
    have q1:=NW.cell k1
    have hnon:Nonempty (NW w2):=⟨⟨w2,Below.refl _ _⟩⟩
    have I:Hid (Below w2.heap.size w2 w2.drew):=(Below.refl _ _).drew
    go_wp2_with fail
    clear k0 k1
    refine RP.wp_region_tree 5 (.rd 1 0 (.rd 1 1 (.two 2 3 (.mv 3 (.mv 4 (.mv 5 .nil))) (.mv 2 (.mv 4 (.mv 5 .nil)))))) (fun w'=>∃ p:NW w2,w'=p.w) (by kernel_rfl) (by kernel_rfl) ?_ ?_
    ·exact ⟨⟨_,I.out⟩,rfl⟩
    iterate 2 (refine RP.walkT_read ?_; simp only [dsc_,dz_,tsc_,tz_]; go_big_quiet_step (fail); refine wpQuiet_nil ?_)
    clear q0 q1 hnon
    refine RP.walkT_two ?_ ?_
    ·simp only [dsc_,dz_,tsc_,tz_]
     go_wp2_with fail
     obtain ⟨ga,hga⟩:∃ x,x=w2.heap.size:=⟨_,rfl⟩
     have I3:Hid (Below w2.heap.size w2 (w2.alloc (.cells #[.string ⟨#[]⟩,.string ⟨#[]⟩] 42)).drew):=below_dn ((Below.refl _ _).alloc nr_ _) 1
     have N3:Hid ((w2.alloc (.cells #[.string ⟨#[]⟩,.string ⟨#[]⟩] 42)).drew.heap[ga]?=some (.cells #[.string ⟨#[]⟩,.string ⟨#[]⟩] 42 (0,0))):=by rw [hga]; exact heap_alloc_new w2 _
     have Z3:Hid ((w2.alloc (.cells #[.string ⟨#[]⟩,.string ⟨#[]⟩] 42)).drew.heap.size=w2.heap.size + 1):=by show _=_; simp
     rw [← hga]
     have Hga:=hd_ hga
     clear hga
     generalize (w2.alloc (.cells #[.string ⟨#[]⟩,.string ⟨#[]⟩] 42)).drew=w3 at *
     refine ⟨⟨⟨_,I3.out⟩,rfl⟩,?_⟩
     refine RP.walkT_move ?_
     simp only [dsc_,dz_,tsc_,tz_]
     go_wp2_with fail
     obtain ⟨gb,hgb⟩:∃ x,x=w3.heap.size:=⟨_,rfl⟩
     have I4:Hid (Below w2.heap.size w2 (w3.alloc (.cells #[.string ⟨#[]⟩,.string ⟨#[]⟩] 42))):=I3.out.alloc I3.out.size _
     have N4:Hid ((w3.alloc (.cells #[.string ⟨#[]⟩,.string ⟨#[]⟩] 42)).heap[ga]?=some (.cells #[.string ⟨#[]⟩,.string ⟨#[]⟩] 42 (0,0))):=by
      show _=_
      rw [((Below.refl _ w3).alloc nr_ _).block ga (Array.getElem?_eq_some_iff.1 N3.out).1]; exact N3.out
     have M4:Hid ((w3.alloc (.cells #[.string ⟨#[]⟩,.string ⟨#[]⟩] 42)).heap[gb]?=some (.cells #[.string ⟨#[]⟩,.string ⟨#[]⟩] 42 (0,0))):=by rw [hgb]; exact heap_alloc_new w3 _
     have hab:ga≠gb:=by have:=Z3.out; have:=Hga.out; omega
     have hx2:w2.heap.size≤ga:=by have:=Hga.out; omega
     have hy2:w2.heap.size≤gb:=by have:=Z3.out; omega
     rw [← hgb]
     clear N3 I3 hgb Z3
     generalize w3.alloc (.cells #[.string ⟨#[]⟩,.string ⟨#[]⟩] 42)=w4 at *
     have NA:=N4
     have NB:=M4
     have hga2:=hx2
     have hgb2:=hy2
     have Hgab:=hd_ hab
     clear N4 M4 hx2 hy2 hab
     refine ⟨⟨⟨_,I4.out⟩,rfl⟩,?_⟩
     refine RP.walkT_move ?_
     simp only [dsc_,dz_,tsc_,tz_]
     obtain ⟨n0,n1,f0,f1⟩:=two_cells NA.out
     go_wp2_with fail
     have I5:=hd_ ((I4.out.setCell (p:=⟨ga,0,none⟩) hga2 (.string (itx c.num))).setCell (p:=⟨ga,1,none⟩) hga2 (.string (dec c.den)))
     have FA5:Hid (FrAt ((w4.setCell ⟨ga,0,none⟩ (.string (itx c.num))).setCell ⟨ga,1,none⟩ (.string (dec c.den))) ga c):=two_set NA.out
     have NB5:Hid (((w4.setCell ⟨ga,0,none⟩ (.string (itx c.num))).setCell ⟨ga,1,none⟩ (.string (dec c.den))).heap[gb]?=some (.cells #[.string ⟨#[]⟩,.string ⟨#[]⟩] 42 (0,0))):=by
      show _=_
      rw [Below.heap_setCell _ _ _ _ (Ne.symm Hgab.out),Below.heap_setCell _ _ _ _ (Ne.symm Hgab.out)]; exact NB.out
     clear n0 n1 f0 f1 NA NB I4
     generalize (w4.setCell ⟨ga,0,none⟩ (.string (itx c.num))).setCell ⟨ga,1,none⟩ (.string (dec c.den))=w5 at *
     refine ⟨⟨⟨_,I5.out⟩,rfl⟩,?_⟩
     refine RP.walkT_move ?_
     simp only [dsc_,dz_,tsc_,tz_]
     obtain ⟨n0,n1,f0,f1⟩:=two_cells NB5.out
     go_wp2_with fail
     have I6:=hd_ ((I5.out.setCell (p:=⟨gb,0,none⟩) hgb2 (.string (itx c.num))).setCell (p:=⟨gb,1,none⟩) hgb2 (.string (dec c.den)))
     have FB6:Hid (FrAt ((w5.setCell ⟨gb,0,none⟩ (.string (itx c.num))).setCell ⟨gb,1,none⟩ (.string (dec c.den))) gb c):=two_set NB5.out
     have FA6:=hd_ (FA5.out.set Hgab.out (.string (itx c.num)) (.string (dec c.den)))
     clear n0 n1 f0 f1 FA5 NB5 I5
     generalize (w5.setCell ⟨gb,0,none⟩ (.string (itx c.num))).setCell ⟨gb,1,none⟩ (.string (dec c.den))=w6 at *
     have HE6:=hd_ (HE2.out.below I6.out)
     have F86:=hd_ (F82.out.below I6.out)
     have hga:w.heap.size + 2≤ga:=by have:=Hz2.out; omega
     have hgb:w.heap.size + 2≤gb:=by have:=Hz2.out; omega
     have Hg8a:Hid (g8≠ga):=by have:=H82.out; show _≠_; omega
     have Hg8b:Hid (g8≠gb):=by have:=H82.out; show _≠_; omega
     have Hz6:=hd_ (Nat.le_trans Hz2.out I6.out.size)
     clear HE2 F82 I6 hga2 hgb2 Hz2 H82
     simp only [RP.walkT]
     have k0':=Hk0.out w6 HE6.out.bel
     have cp:=Hcp.out w6 HE6.out.bel
     by_cases h2:pk=2
     ·have h2b:(pk != 2)=false:=by rw [h2]; rfl
      have Hva:Hid (c=c * xE pk b∧Sm (D + 355) c):=⟨by rw [h2]; unfold xE; rw [if_pos rfl,Rat.mul_one],Hcs.out.le (by omega)⟩
      have Hvb:Hid (c=c * yE pk b∧Sm (D + 355) c):=⟨by rw [h2]; unfold yE; rw [if_pos rfl,Rat.mul_one],Hcs.out.le (by omega)⟩
      clear HAt'
      obtain ⟨k0,k1,-,-⟩:=two_cells HE6.out.e0
      obtain ⟨k2,k3,-,-⟩:=two_cells HE6.out.e1
      obtain ⟨k4,k5,-,-⟩:=two_cells FA6.out
      obtain ⟨k6,k7,-,-⟩:=two_cells FB6.out
      have q0:=NW.cell k0
      have q1:=NW.cell k1
      have q2:=NW.cell k2
      have q3:=NW.cell k3
      have q4:=NW.cell k4
      have q5:=NW.cell k5
      have q6:=NW.cell k6
      have q7:=NW.cell k7
      have hnon:Nonempty (NW w6):=⟨⟨w6,Below.refl _ _⟩⟩
      have I:Hid (Below w6.heap.size w6 w6.drew):=(Below.refl _ _).drew
      have HLa:=hd_ (fun X (hX:Below w6.heap.size w6 X)=>HL.out.below (HE6.out.bel.trans (hX.mono HE6.out.bel.size)))
      have Hmn:=hd_ (fun X hX=>minR_ok X c c (D + 355) (D + 355) Hva.out.2 Hvb.out.2 (by omega) (HLa.out X hX))
      have Hmx:=hd_ (fun X hX=>maxR_ok X c c (D + 355) (D + 355) Hva.out.2 Hvb.out.2 (by omega) (HLa.out X hX))
      have Had:=hd_ (fun X hX=>addR X _ _ _ _ Hsm.out.1 (minR_sm Hva.out.2 Hvb.out.2) (by omega) (HLa.out X hX))
      have Had2:=hd_ (fun X hX=>addR X _ _ _ _ Hsm.out.2 (maxR_sm Hva.out.2 Hvb.out.2) (by omega) (HLa.out X hX))
      have hst1:loE b (ps.take k) (l.take k) + minR c c=loE b (ps.take (k + 1)) (l.take (k + 1)):=by first | (rw [Hst.out.1]; done) | (rw [Hst.out.1,← Hva.out.1,← Hvb.out.1]; done)
      have hst2:hiE b (ps.take k) (l.take k) + maxR c c=hiE b (ps.take (k + 1)) (l.take (k + 1)):=by first | (rw [Hst.out.2]; done) | (rw [Hst.out.2,← Hva.out.1,← Hvb.out.1]; done)
      rw [hst1] at Had
      rw [hst2] at Had2
      clear hst1 hst2 HLa
      unfold fr fv at Hmn Hmx Had Had2
      go_wp2_with fail
      clear k0 k1 k2 k3 k4 k5 k6 k7
      refine RP.wp_region_readers 10 [(1,0),(1,1),(1,2),(1,5),(1,6),(1,7),(0,3),(0,4),(0,8),(0,9),(0,10),(0,11)] (fun w'=>∃ p:NW w6,w'=p.w) (by kernel_rfl) (by kernel_rfl) ?_ ?_
      ·exact ⟨⟨_,I.out⟩,rfl⟩
      iterate 6 (refine RP.walkR_read ?_; simp only [dsc_,dz_,tsc_,tz_]; go_big_quiet_step (fail); refine wpQuiet_nil ?_)
      clear q0 q1 q2 q3 q4 q5 q6 q7 hnon
      refine RP.walkR_move ?_
      simp only [dsc_,dz_,tsc_,tz_]
      go_wp2_with fail
      refine cm_ (Hmn.out _ I.out) ?_
      rintro e x1 ⟨rfl,hbx⟩
      have J1:Hid (Below w6.heap.size w6 x1):=I.out.trans (hbx.mono I.out.size)
      clear hbx I Hmn
      go_wp2_with fail
      refine ⟨⟨⟨_,J1.out⟩,rfl⟩,?_⟩
      refine RP.walkR_move ?_
      simp only [dsc_,dz_,tsc_,tz_]
      go_wp2_with fail
      refine cm_ (Had.out _ J1.out) ?_
      rintro e x2 ⟨rfl,hbx⟩
      have J2:Hid (Below w6.heap.size w6 x2):=J1.out.trans (hbx.mono J1.out.size)
      clear hbx J1 Had
      go_wp2_with fail
      refine ⟨⟨⟨_,J2.out⟩,rfl⟩,?_⟩
      refine RP.walkR_move ?_
      simp only [dsc_,dz_,tsc_,tz_]
      go_wp2_with fail
      refine cm_ (Hmx.out _ J2.out) ?_
      rintro e x3 ⟨rfl,hbx⟩
      have J3:Hid (Below w6.heap.size w6 x3):=J2.out.trans (hbx.mono J2.out.size)
      clear hbx J2 Hmx
      go_wp2_with fail
      refine ⟨⟨⟨_,J3.out⟩,rfl⟩,?_⟩
      refine RP.walkR_move ?_
      simp only [dsc_,dz_,tsc_,tz_]
      go_wp2_with fail
      refine cm_ (Had2.out _ J3.out) ?_
      rintro e x4 ⟨rfl,hbx⟩
      have J4:Hid (Below w6.heap.size w6 x4):=J3.out.trans (hbx.mono J3.out.size)
      clear hbx J3 Had2
      go_wp2_with fail
      refine ⟨⟨⟨_,J4.out⟩,rfl⟩,?_⟩
      have HEx:=hd_ (HE6.out.below J4.out)
      have Hzx:=hd_ (Nat.le_trans Hz6.out J4.out.size)
      obtain ⟨k0,k1,f0,f1⟩:=two_cells HEx.out.e0
      obtain ⟨k2,k3,f2,f3⟩:=two_cells HEx.out.e1
      have HEp:=hd_ (HEx.out.put (loE b (ps.take (k + 1)) (l.take (k + 1))) (hiE b (ps.take (k + 1)) (l.take (k + 1))))
      have Hzp:Hid (w.heap.size + 2≤(putEnds x4 w.heap.size (loE b (ps.take (k + 1)) (l.take (k + 1))) (hiE b (ps.take (k + 1)) (l.take (k + 1)))).heap.size):=by
       show _≤_
       unfold putEnds
       rw [World.size_setCell,World.size_setCell,World.size_setCell,World.size_setCell]
       exact Hzx.out
      unfold putEnds at HEp Hzp
      clear HEx J4 Hzx
      refine RP.walkR_move ?_
      simp only [dsc_,dz_,tsc_,tz_]
      go_wp2_with fail
      refine RP.walkR_move ?_
      simp only [dsc_,dz_,tsc_,tz_]
      go_wp2_with fail
      simp only [RP.walkR]
      go_wp2_with fail
      refine ⟨⟨k + 1,by omega,by go_num,HEp,Hzp⟩,by simp [intOf]; omega⟩
     ·have h2b:(pk != 2)=true:=by rw [bne_iff_ne]; exact h2
      have h2c:(pk == 2)=false:=by rw [beq_eq_false_iff_ne]; exact h2
      have Hva:Hid (c * xE pk b=c * xE pk b∧Sm (D + 355) (c * xE pk b)):=⟨rfl,Hcs.out.mul Hxs.out.1⟩
      have Hvb:Hid (c * yE pk b=c * yE pk b∧Sm (D + 355) (c * yE pk b)):=⟨rfl,Hcs.out.mul Hxs.out.2⟩
      have hlk:lgN pk b + 2 < 2 ^ K10∧2 ^ b + 1 < 2 ^ K10:=by
       rw [Hq.out]; exact lg_k10 Hq2.out Hb1000.out
      have Hnx:=hd_ (fun W (hW:Below w.heap.size w W)=>newQ W (lgN pk b) (2 ^ b) (by omega) hlk.2 (Nat.two_pow_pos b) (HL.out.below hW))
      have Hny:=hd_ (fun W (hW:Below w.heap.size w W)=>newQ W (lgN pk b + 1) (2 ^ b) (by omega) hlk.2 (Nat.two_pow_pos b) (HL.out.below hW))
      have Had1:=hd_ (fun W (hW:Below w.heap.size w W)=>addD W (lgN pk b) 1 K10 (by decide) (by omega) (Nat.one_lt_two_pow (by decide)) (HL.out.below hW))
      rw [dec_one] at Had1
      have hxe:mkRat ((lgN pk b:Nat):Int) (2 ^ b)=xE pk b:=by unfold xE; rw [if_neg h2]
      have hye:mkRat ((lgN pk b + 1:Nat):Int) (2 ^ b)=yE pk b:=by unfold yE; rw [if_neg h2]
      rw [hxe] at Hnx
      rw [hye] at Hny
      have Hmx':=hd_ (fun W (hW:Below w.heap.size w W)=>mulR W c (xE pk b) D 355 Hcs.out Hxs.out.1 (by omega) (HL.out.below hW))
      have Hmy':=hd_ (fun W (hW:Below w.heap.size w W)=>mulR W c (yE pk b) D 355 Hcs.out Hxs.out.2 (by omega) (HL.out.below hW))
      clear hlk hxe hye h2
      unfold fr fv at Hnx Hny Hmx' Hmy'
      go_wp2_with fail
      refine cm_ (HAt'.out _ HE6.out.bel) ?_
      rintro e w7 ⟨rfl,hbx⟩
      have HE7:=hd_ (HE6.out.below hbx)
      have FA7:=hd_ (FA6.out.below hbx)
      have FB7:=hd_ (FB6.out.below hbx)
      have F87:=hd_ (F86.out.below hbx)
      have Hz7:=hd_ (Nat.le_trans Hz6.out hbx.size)
      clear hbx HAt' HE6 FA6 FB6 F86 Hz6 k0' cp
      go_wp2_with fail
      refine cm_ (Hnx.out _ HE7.out.bel) ?_
      rintro e w8 ⟨rfl,hbx⟩
      have hbx2:=hd_ (hbx.alloc hbx.size (.cells #[.string (itx (xE pk b).num),.string (dec (xE pk b).den)] 42))
      have HE8:=hd_ (HE7.out.below hbx2.out)
      have FA8:=hd_ (FA7.out.below hbx2.out)
      have FB8:=hd_ (FB7.out.below hbx2.out)
      have F88:=hd_ (F87.out.below hbx2.out)
      have Hz8':=hd_ (Nat.le_trans Hz7.out hbx2.out.size)
      have FX:=hd_ (FrAt.new w8 (xE pk b))
      have hgx:=hd_ (Nat.le_trans Hz7.out hbx.size)
      clear hbx hbx2 HE7 FA7 FB7 F87 Hz7 Hnx
      go_wp2_with fail
      generalize w8.alloc (.cells #[.string (itx (xE pk b).num),.string (dec (xE pk b).den)] 42)=w9 at *
      generalize w8.heap.size=gx at *
      refine cm_ (Had1.out _ HE8.out.bel) ?_
      rintro e w10 ⟨rfl,hbx⟩
      have HE10:=hd_ (HE8.out.below hbx)
      have FA10:=hd_ (FA8.out.below hbx)
      have FB10:=hd_ (FB8.out.below hbx)
      have F810:=hd_ (F88.out.below hbx)
      have FX10:=hd_ (FX.out.below hbx)
      have Hz10:=hd_ (Nat.le_trans Hz8'.out hbx.size)
      clear hbx HE8 FA8 FB8 F88 FX Hz8' Had1
      go_wp2_with fail
      refine cm_ (Hny.out _ HE10.out.bel) ?_
      rintro e w11 ⟨rfl,hbx⟩
      have hbx2:=hd_ (hbx.alloc hbx.size (.cells #[.string (itx (yE pk b).num),.string (dec (yE pk b).den)] 42))
      have HE12:=hd_ (HE10.out.below hbx2.out)
      have FA12:=hd_ (FA10.out.below hbx2.out)
      have FB12:=hd_ (FB10.out.below hbx2.out)
      have F812:=hd_ (F810.out.below hbx2.out)
      have FX12:=hd_ (FX10.out.below hbx2.out)
      have FY12:=hd_ (FrAt.new w11 (yE pk b))
      have Hz12:=hd_ (Nat.le_trans Hz10.out hbx2.out.size)
      obtain ⟨k0,k1,-,-⟩:=two_cells F812.out
      obtain ⟨k2,k3,-,-⟩:=two_cells FX12.out
      obtain ⟨k4,k5,-,-⟩:=two_cells FY12.out
      have q0:=NW.cell k0
      have q1:=NW.cell k1
      have q2:=NW.cell k2
      have q3:=NW.cell k3
      have q4:=NW.cell k4
      have q5:=NW.cell k5
      clear hbx hbx2 HE10 FA10 FB10 F810 FX10 Hz10 Hny k0 k1 k2 k3 k4 k5
      go_wp2_with fail
      generalize w11.alloc (.cells #[.string (itx (yE pk b).num),.string (dec (yE pk b).den)] 42)=w12 at *
      generalize w11.heap.size=gy at *
      have hnon:Nonempty (NW w12):=⟨⟨w12,Below.refl _ _⟩⟩
      have I:Hid (Below w12.heap.size w12 w12.drew):=(Below.refl _ _).drew
      refine RP.wp_region_readers 6 [(1,0),(1,1),(1,3),(1,4),(0,2),(0,5),(0,6),(0,7)] (fun w'=>∃ p:NW w12,w'=p.w) (by kernel_rfl) (by kernel_rfl) ?_ ?_
      ·exact ⟨⟨_,I.out⟩,rfl⟩
      iterate 4 (refine RP.walkR_read ?_; simp only [dsc_,dz_,tsc_,tz_]; go_big_quiet_step (fail); refine wpQuiet_nil ?_)
      clear hnon q0 q1 q2 q3 q4 q5
      refine RP.walkR_move ?_
      simp only [dsc_,dz_,tsc_,tz_]
      go_wp2_with fail
      refine cm_ (Hmx'.out _ (HE12.out.bel.trans (I.out.mono HE12.out.bel.size))) ?_
      rintro e y1 ⟨rfl,hbx⟩
      have J1:Hid (Below w12.heap.size w12 y1):=I.out.trans (hbx.mono I.out.size)
      clear hbx I Hmx'
      go_wp2_with fail
      refine ⟨⟨⟨_,J1.out⟩,rfl⟩,?_⟩
      refine RP.walkR_move ?_
      simp only [dsc_,dz_,tsc_,tz_]
      go_wp2_with fail
      refine cm_ (Hmy'.out _ (HE12.out.bel.trans (J1.out.mono HE12.out.bel.size))) ?_
      rintro e y2 ⟨rfl,hbx⟩
      have J2:Hid (Below w12.heap.size w12 y2):=J1.out.trans (hbx.mono J1.out.size)
      clear hbx J1 Hmy'
      go_wp2_with fail
      refine ⟨⟨⟨_,J2.out⟩,rfl⟩,?_⟩
      have HEy:=hd_ (HE12.out.below J2.out)
      have FAy:=hd_ (FA12.out.below J2.out)
      have FBy:=hd_ (FB12.out.below J2.out)
      have Hzy:=hd_ (Nat.le_trans Hz12.out J2.out.size)
      obtain ⟨k0,k1,f0,f1⟩:=two_cells FAy.out
      have FA1:=hd_ (FAy.out.put (c * xE pk b))
      have FB1:=hd_ (FBy.out.set (Ne.symm Hgab.out) (.string (itx (c * xE pk b).num)) (.string (dec (c * xE pk b).den)))
      have HE1':=hd_ (HEy.out.set hga (.string (itx (c * xE pk b).num)) (.string (dec (c * xE pk b).den)))
      have Hz1:Hid (w.heap.size + 2≤((y2.setCell ⟨ga,0,none⟩ (.string (itx (c * xE pk b).num))).setCell ⟨ga,1,none⟩ (.string (dec (c * xE pk b).den))).heap.size):=by
       show _≤_
       rw [World.size_setCell,World.size_setCell]
       exact Hzy.out
      clear HE12 FA12 FB12 F812 FX12 FY12 Hz12 J2 HEy FAy FBy Hzy
      refine RP.walkR_move ?_
      simp only [dsc_,dz_,tsc_,tz_]
      go_wp2_with fail
      generalize (y2.setCell ⟨ga,0,none⟩ (.string (itx (c * xE pk b).num))).setCell ⟨ga,1,none⟩ (.string (dec (c * xE pk b).den))=y3 at *
      clear k0 k1 f0 f1
      obtain ⟨k0,k1,f0,f1⟩:=two_cells FB1.out
      have FA2:=hd_ (FA1.out.set Hgab.out (.string (itx (c * yE pk b).num)) (.string (dec (c * yE pk b).den)))
      have FB2:=hd_ (FB1.out.put (c * yE pk b))
      have HE2':=hd_ (HE1'.out.set hgb (.string (itx (c * yE pk b).num)) (.string (dec (c * yE pk b).den)))
      have Hz2':Hid (w.heap.size + 2≤((y3.setCell ⟨gb,0,none⟩ (.string (itx (c * yE pk b).num))).setCell ⟨gb,1,none⟩ (.string (dec (c * yE pk b).den))).heap.size):=by
       show _≤_
       rw [World.size_setCell,World.size_setCell]
       exact Hz1.out
      clear FA1 FB1 HE1' Hz1
      refine RP.walkR_move ?_
      simp only [dsc_,dz_,tsc_,tz_]
      go_wp2_with fail
      generalize (y3.setCell ⟨gb,0,none⟩ (.string (itx (c * yE pk b).num))).setCell ⟨gb,1,none⟩ (.string (dec (c * yE pk b).den))=y4 at *
      clear k0 k1 f0 f1
      simp only [RP.walkR]
      generalize hXc:c * xE pk b=vx at *
      generalize hYc:c * yE pk b=vy at *
      have Hva:=hd_ (show c * xE pk b=vx∧Sm (D + 355) vx from ⟨hXc,Hva.out.2⟩)
      have Hvb:=hd_ (show c * yE pk b=vy∧Sm (D + 355) vy from ⟨hYc,Hvb.out.2⟩)
      clear hXc hYc
      obtain ⟨k0,k1,-,-⟩:=two_cells HE2'.out.e0
      obtain ⟨k2,k3,-,-⟩:=two_cells HE2'.out.e1
      obtain ⟨k4,k5,-,-⟩:=two_cells FA2.out
      obtain ⟨k6,k7,-,-⟩:=two_cells FB2.out
      have q0:=NW.cell k0
      have q1:=NW.cell k1
      have q2:=NW.cell k2
      have q3:=NW.cell k3
      have q4:=NW.cell k4
      have q5:=NW.cell k5
      have q6:=NW.cell k6
      have q7:=NW.cell k7
      have hnon:Nonempty (NW y4):=⟨⟨y4,Below.refl _ _⟩⟩
      have I:Hid (Below y4.heap.size y4 y4.drew):=(Below.refl _ _).drew
      have HLa:=hd_ (fun X (hX:Below y4.heap.size y4 X)=>HL.out.below (HE2'.out.bel.trans (hX.mono HE2'.out.bel.size)))
      have Hmn:=hd_ (fun X hX=>minR_ok X vx vy (D + 355) (D + 355) Hva.out.2 Hvb.out.2 (by omega) (HLa.out X hX))
      have Hmx:=hd_ (fun X hX=>maxR_ok X vx vy (D + 355) (D + 355) Hva.out.2 Hvb.out.2 (by omega) (HLa.out X hX))
      have Had:=hd_ (fun X hX=>addR X _ _ _ _ Hsm.out.1 (minR_sm Hva.out.2 Hvb.out.2) (by omega) (HLa.out X hX))
      have Had2:=hd_ (fun X hX=>addR X _ _ _ _ Hsm.out.2 (maxR_sm Hva.out.2 Hvb.out.2) (by omega) (HLa.out X hX))
      have hst1:loE b (ps.take k) (l.take k) + minR vx vy=loE b (ps.take (k + 1)) (l.take (k + 1)):=by first | (rw [Hst.out.1]; done) | (rw [Hst.out.1,← Hva.out.1,← Hvb.out.1]; done)
      have hst2:hiE b (ps.take k) (l.take k) + maxR vx vy=hiE b (ps.take (k + 1)) (l.take (k + 1)):=by first | (rw [Hst.out.2]; done) | (rw [Hst.out.2,← Hva.out.1,← Hvb.out.1]; done)
      rw [hst1] at Had
      rw [hst2] at Had2
      clear hst1 hst2 HLa
      unfold fr fv at Hmn Hmx Had Had2
      go_wp2_with fail
      clear k0 k1 k2 k3 k4 k5 k6 k7
      refine RP.wp_region_readers 10 [(1,0),(1,1),(1,2),(1,5),(1,6),(1,7),(0,3),(0,4),(0,8),(0,9),(0,10),(0,11)] (fun w'=>∃ p:NW y4,w'=p.w) (by kernel_rfl) (by kernel_rfl) ?_ ?_
      ·exact ⟨⟨_,I.out⟩,rfl⟩
      iterate 6 (refine RP.walkR_read ?_; simp only [dsc_,dz_,tsc_,tz_]; go_big_quiet_step (fail); refine wpQuiet_nil ?_)
      clear q0 q1 q2 q3 q4 q5 q6 q7 hnon
      refine RP.walkR_move ?_
      simp only [dsc_,dz_,tsc_,tz_]
      go_wp2_with fail
      refine cm_ (Hmn.out _ I.out) ?_
      rintro e x1 ⟨rfl,hbx⟩
      have J1:Hid (Below y4.heap.size y4 x1):=I.out.trans (hbx.mono I.out.size)
      clear hbx I Hmn
      go_wp2_with fail
      refine ⟨⟨⟨_,J1.out⟩,rfl⟩,?_⟩
      refine RP.walkR_move ?_
      simp only [dsc_,dz_,tsc_,tz_]
      go_wp2_with fail
      refine cm_ (Had.out _ J1.out) ?_
      rintro e x2 ⟨rfl,hbx⟩
      have J2:Hid (Below y4.heap.size y4 x2):=J1.out.trans (hbx.mono J1.out.size)
      clear hbx J1 Had
      go_wp2_with fail
      refine ⟨⟨⟨_,J2.out⟩,rfl⟩,?_⟩
      refine RP.walkR_move ?_
      simp only [dsc_,dz_,tsc_,tz_]
      go_wp2_with fail
      refine cm_ (Hmx.out _ J2.out) ?_
      rintro e x3 ⟨rfl,hbx⟩
      have J3:Hid (Below y4.heap.size y4 x3):=J2.out.trans (hbx.mono J2.out.size)
      clear hbx J2 Hmx
      go_wp2_with fail
      refine ⟨⟨⟨_,J3.out⟩,rfl⟩,?_⟩
      refine RP.walkR_move ?_
      simp only [dsc_,dz_,tsc_,tz_]
      go_wp2_with fail
      refine cm_ (Had2.out _ J3.out) ?_
      rintro e x4 ⟨rfl,hbx⟩
      have J4:Hid (Below y4.heap.size y4 x4):=J3.out.trans (hbx.mono J3.out.size)
      clear hbx J3 Had2
      go_wp2_with fail
      refine ⟨⟨⟨_,J4.out⟩,rfl⟩,?_⟩
      have HEx:=hd_ (HE2'.out.below J4.out)
      have Hzx:=hd_ (Nat.le_trans Hz2'.out J4.out.size)
      obtain ⟨k0,k1,f0,f1⟩:=two_cells HEx.out.e0
      obtain ⟨k2,k3,f2,f3⟩:=two_cells HEx.out.e1
      have HEp:=hd_ (HEx.out.put (loE b (ps.take (k + 1)) (l.take (k + 1))) (hiE b (ps.take (k + 1)) (l.take (k + 1))))
      have Hzp:Hid (w.heap.size + 2≤(putEnds x4 w.heap.size (loE b (ps.take (k + 1)) (l.take (k + 1))) (hiE b (ps.take (k + 1)) (l.take (k + 1)))).heap.size):=by
       show _≤_
       unfold putEnds
       rw [World.size_setCell,World.size_setCell,World.size_setCell,World.size_setCell]
       exact Hzx.out
      unfold putEnds at HEp Hzp
      clear HEx J4 Hzx
      refine RP.walkR_move ?_
      simp only [dsc_,dz_,tsc_,tz_]
      go_wp2_with fail
      refine RP.walkR_move ?_
      simp only [dsc_,dz_,tsc_,tz_]
      go_wp2_with fail
      simp only [RP.walkR]
      go_wp2_with fail
      refine ⟨⟨k + 1,by omega,by go_num,HEp,Hzp⟩,by simp [intOf]; omega⟩
    ·simp only [dsc_,dz_,tsc_,tz_]
     go_wp2_with fail
     obtain ⟨gb,hgb⟩:∃ x,x=w2.heap.size:=⟨_,rfl⟩
     have I3:Hid (Below w2.heap.size w2 (w2.alloc (.cells #[.string ⟨#[]⟩,.string ⟨#[]⟩] 42)).drew):=below_dn ((Below.refl _ _).alloc nr_ _) 1
     have N3:Hid ((w2.alloc (.cells #[.string ⟨#[]⟩,.string ⟨#[]⟩] 42)).drew.heap[gb]?=some (.cells #[.string ⟨#[]⟩,.string ⟨#[]⟩] 42 (0,0))):=by rw [hgb]; exact heap_alloc_new w2 _
     have Z3:Hid ((w2.alloc (.cells #[.string ⟨#[]⟩,.string ⟨#[]⟩] 42)).drew.heap.size=w2.heap.size + 1):=by show _=_; simp
     rw [← hgb]
     have Hgb:=hd_ hgb
     clear hgb
     generalize (w2.alloc (.cells #[.string ⟨#[]⟩,.string ⟨#[]⟩] 42)).drew=w3 at *
     refine ⟨⟨⟨_,I3.out⟩,rfl⟩,?_⟩
     refine RP.walkT_move ?_
     simp only [dsc_,dz_,tsc_,tz_]
     go_wp2_with fail
     obtain ⟨ga,hga⟩:∃ x,x=w3.heap.size:=⟨_,rfl⟩
     have I4:Hid (Below w2.heap.size w2 (w3.alloc (.cells #[.string ⟨#[]⟩,.string ⟨#[]⟩] 42))):=I3.out.alloc I3.out.size _
     have N4:Hid ((w3.alloc (.cells #[.string ⟨#[]⟩,.string ⟨#[]⟩] 42)).heap[gb]?=some (.cells #[.string ⟨#[]⟩,.string ⟨#[]⟩] 42 (0,0))):=by
      show _=_
      rw [((Below.refl _ w3).alloc nr_ _).block gb (Array.getElem?_eq_some_iff.1 N3.out).1]; exact N3.out
     have M4:Hid ((w3.alloc (.cells #[.string ⟨#[]⟩,.string ⟨#[]⟩] 42)).heap[ga]?=some (.cells #[.string ⟨#[]⟩,.string ⟨#[]⟩] 42 (0,0))):=by rw [hga]; exact heap_alloc_new w3 _
     have hab:gb≠ga:=by have:=Z3.out; have:=Hgb.out; omega
     have hx2:w2.heap.size≤gb:=by have:=Hgb.out; omega
     have hy2:w2.heap.size≤ga:=by have:=Z3.out; omega
     rw [← hga]
     clear N3 I3 hga Z3
     generalize w3.alloc (.cells #[.string ⟨#[]⟩,.string ⟨#[]⟩] 42)=w4 at *
     have NA:=M4
     have NB:=N4
     have hga2:=hy2
     have hgb2:=hx2
     have Hgab:=hd_ (Ne.symm hab)
     clear N4 M4 hx2 hy2 hab
     refine ⟨⟨⟨_,I4.out⟩,rfl⟩,?_⟩
     refine RP.walkT_move ?_
     simp only [dsc_,dz_,tsc_,tz_]
     obtain ⟨n0,n1,f0,f1⟩:=two_cells NA.out
     go_wp2_with fail
     have I5:=hd_ ((I4.out.setCell (p:=⟨ga,0,none⟩) hga2 (.string (itx c.num))).setCell (p:=⟨ga,1,none⟩) hga2 (.string (dec c.den)))
     have FA5:Hid (FrAt ((w4.setCell ⟨ga,0,none⟩ (.string (itx c.num))).setCell ⟨ga,1,none⟩ (.string (dec c.den))) ga c):=two_set NA.out
     have NB5:Hid (((w4.setCell ⟨ga,0,none⟩ (.string (itx c.num))).setCell ⟨ga,1,none⟩ (.string (dec c.den))).heap[gb]?=some (.cells #[.string ⟨#[]⟩,.string ⟨#[]⟩] 42 (0,0))):=by
      show _=_
      rw [Below.heap_setCell _ _ _ _ (Ne.symm Hgab.out),Below.heap_setCell _ _ _ _ (Ne.symm Hgab.out)]; exact NB.out
     clear n0 n1 f0 f1 NA NB I4
     generalize (w4.setCell ⟨ga,0,none⟩ (.string (itx c.num))).setCell ⟨ga,1,none⟩ (.string (dec c.den))=w5 at *
     refine ⟨⟨⟨_,I5.out⟩,rfl⟩,?_⟩
     refine RP.walkT_move ?_
     simp only [dsc_,dz_,tsc_,tz_]
     obtain ⟨n0,n1,f0,f1⟩:=two_cells NB5.out
     go_wp2_with fail
     have I6:=hd_ ((I5.out.setCell (p:=⟨gb,0,none⟩) hgb2 (.string (itx c.num))).setCell (p:=⟨gb,1,none⟩) hgb2 (.string (dec c.den)))
     have FB6:Hid (FrAt ((w5.setCell ⟨gb,0,none⟩ (.string (itx c.num))).setCell ⟨gb,1,none⟩ (.string (dec c.den))) gb c):=two_set NB5.out
     have FA6:=hd_ (FA5.out.set Hgab.out (.string (itx c.num)) (.string (dec c.den)))
     clear n0 n1 f0 f1 FA5 NB5 I5
     generalize (w5.setCell ⟨gb,0,none⟩ (.string (itx c.num))).setCell ⟨gb,1,none⟩ (.string (dec c.den))=w6 at *
     have HE6:=hd_ (HE2.out.below I6.out)
     have F86:=hd_ (F82.out.below I6.out)
     have hga:w.heap.size + 2≤ga:=by have:=Hz2.out; omega
     have hgb:w.heap.size + 2≤gb:=by have:=Hz2.out; omega
     have Hg8a:Hid (g8≠ga):=by have:=H82.out; show _≠_; omega
     have Hg8b:Hid (g8≠gb):=by have:=H82.out; show _≠_; omega
     have Hz6:=hd_ (Nat.le_trans Hz2.out I6.out.size)
     clear HE2 F82 I6 hga2 hgb2 Hz2 H82
     simp only [RP.walkT]
     have k0':=Hk0.out w6 HE6.out.bel
     have cp:=Hcp.out w6 HE6.out.bel
     by_cases h2:pk=2
     ·have h2b:(pk != 2)=false:=by rw [h2]; rfl
      have Hva:Hid (c=c * xE pk b∧Sm (D + 355) c):=⟨by rw [h2]; unfold xE; rw [if_pos rfl,Rat.mul_one],Hcs.out.le (by omega)⟩
      have Hvb:Hid (c=c * yE pk b∧Sm (D + 355) c):=⟨by rw [h2]; unfold yE; rw [if_pos rfl,Rat.mul_one],Hcs.out.le (by omega)⟩
      clear HAt'
      obtain ⟨k0,k1,-,-⟩:=two_cells HE6.out.e0
      obtain ⟨k2,k3,-,-⟩:=two_cells HE6.out.e1
      obtain ⟨k4,k5,-,-⟩:=two_cells FA6.out
      obtain ⟨k6,k7,-,-⟩:=two_cells FB6.out
      have q0:=NW.cell k0
      have q1:=NW.cell k1
      have q2:=NW.cell k2
      have q3:=NW.cell k3
      have q4:=NW.cell k4
      have q5:=NW.cell k5
      have q6:=NW.cell k6
      have q7:=NW.cell k7
      have hnon:Nonempty (NW w6):=⟨⟨w6,Below.refl _ _⟩⟩
      have I:Hid (Below w6.heap.size w6 w6.drew):=(Below.refl _ _).drew
      have HLa:=hd_ (fun X (hX:Below w6.heap.size w6 X)=>HL.out.below (HE6.out.bel.trans (hX.mono HE6.out.bel.size)))
      have Hmn:=hd_ (fun X hX=>minR_ok X c c (D + 355) (D + 355) Hva.out.2 Hvb.out.2 (by omega) (HLa.out X hX))
      have Hmx:=hd_ (fun X hX=>maxR_ok X c c (D + 355) (D + 355) Hva.out.2 Hvb.out.2 (by omega) (HLa.out X hX))
      have Had:=hd_ (fun X hX=>addR X _ _ _ _ Hsm.out.1 (minR_sm Hva.out.2 Hvb.out.2) (by omega) (HLa.out X hX))
      have Had2:=hd_ (fun X hX=>addR X _ _ _ _ Hsm.out.2 (maxR_sm Hva.out.2 Hvb.out.2) (by omega) (HLa.out X hX))
      have hst1:loE b (ps.take k) (l.take k) + minR c c=loE b (ps.take (k + 1)) (l.take (k + 1)):=by first | (rw [Hst.out.1]; done) | (rw [Hst.out.1,← Hva.out.1,← Hvb.out.1]; done)
      have hst2:hiE b (ps.take k) (l.take k) + maxR c c=hiE b (ps.take (k + 1)) (l.take (k + 1)):=by first | (rw [Hst.out.2]; done) | (rw [Hst.out.2,← Hva.out.1,← Hvb.out.1]; done)
      rw [hst1] at Had
      rw [hst2] at Had2
      clear hst1 hst2 HLa
      unfold fr fv at Hmn Hmx Had Had2
      go_wp2_with fail
      clear k0 k1 k2 k3 k4 k5 k6 k7
      refine RP.wp_region_readers 10 [(1,0),(1,1),(1,2),(1,5),(1,6),(1,7),(0,3),(0,4),(0,8),(0,9),(0,10),(0,11)] (fun w'=>∃ p:NW w6,w'=p.w) (by kernel_rfl) (by kernel_rfl) ?_ ?_
      ·exact ⟨⟨_,I.out⟩,rfl⟩
      iterate 6 (refine RP.walkR_read ?_; simp only [dsc_,dz_,tsc_,tz_]; go_big_quiet_step (fail); refine wpQuiet_nil ?_)
      clear q0 q1 q2 q3 q4 q5 q6 q7 hnon
      refine RP.walkR_move ?_
      simp only [dsc_,dz_,tsc_,tz_]
      go_wp2_with fail
      refine cm_ (Hmn.out _ I.out) ?_
      rintro e x1 ⟨rfl,hbx⟩
      have J1:Hid (Below w6.heap.size w6 x1):=I.out.trans (hbx.mono I.out.size)
      clear hbx I Hmn
      go_wp2_with fail
      refine ⟨⟨⟨_,J1.out⟩,rfl⟩,?_⟩
      refine RP.walkR_move ?_
      simp only [dsc_,dz_,tsc_,tz_]
      go_wp2_with fail
      refine cm_ (Had.out _ J1.out) ?_
      rintro e x2 ⟨rfl,hbx⟩
      have J2:Hid (Below w6.heap.size w6 x2):=J1.out.trans (hbx.mono J1.out.size)
      clear hbx J1 Had
      go_wp2_with fail
      refine ⟨⟨⟨_,J2.out⟩,rfl⟩,?_⟩
      refine RP.walkR_move ?_
      simp only [dsc_,dz_,tsc_,tz_]
      go_wp2_with fail
      refine cm_ (Hmx.out _ J2.out) ?_
      rintro e x3 ⟨rfl,hbx⟩
      have J3:Hid (Below w6.heap.size w6 x3):=J2.out.trans (hbx.mono J2.out.size)
      clear hbx J2 Hmx
      go_wp2_with fail
      refine ⟨⟨⟨_,J3.out⟩,rfl⟩,?_⟩
      refine RP.walkR_move ?_
      simp only [dsc_,dz_,tsc_,tz_]
      go_wp2_with fail
      refine cm_ (Had2.out _ J3.out) ?_
      rintro e x4 ⟨rfl,hbx⟩
      have J4:Hid (Below w6.heap.size w6 x4):=J3.out.trans (hbx.mono J3.out.size)
      clear hbx J3 Had2
      go_wp2_with fail
      refine ⟨⟨⟨_,J4.out⟩,rfl⟩,?_⟩
      have HEx:=hd_ (HE6.out.below J4.out)
      have Hzx:=hd_ (Nat.le_trans Hz6.out J4.out.size)
      obtain ⟨k0,k1,f0,f1⟩:=two_cells HEx.out.e0
      obtain ⟨k2,k3,f2,f3⟩:=two_cells HEx.out.e1
      have HEp:=hd_ (HEx.out.put (loE b (ps.take (k + 1)) (l.take (k + 1))) (hiE b (ps.take (k + 1)) (l.take (k + 1))))
      have Hzp:Hid (w.heap.size + 2≤(putEnds x4 w.heap.size (loE b (ps.take (k + 1)) (l.take (k + 1))) (hiE b (ps.take (k + 1)) (l.take (k + 1)))).heap.size):=by
       show _≤_
       unfold putEnds
       rw [World.size_setCell,World.size_setCell,World.size_setCell,World.size_setCell]
       exact Hzx.out
      unfold putEnds at HEp Hzp
      clear HEx J4 Hzx
      refine RP.walkR_move ?_
      simp only [dsc_,dz_,tsc_,tz_]
      go_wp2_with fail
      refine RP.walkR_move ?_
      simp only [dsc_,dz_,tsc_,tz_]
      go_wp2_with fail
      simp only [RP.walkR]
      go_wp2_with fail
      refine ⟨⟨k + 1,by omega,by go_num,HEp,Hzp⟩,by simp [intOf]; omega⟩
     ·have h2b:(pk != 2)=true:=by rw [bne_iff_ne]; exact h2
      have h2c:(pk == 2)=false:=by rw [beq_eq_false_iff_ne]; exact h2
      have Hva:Hid (c * xE pk b=c * xE pk b∧Sm (D + 355) (c * xE pk b)):=⟨rfl,Hcs.out.mul Hxs.out.1⟩
      have Hvb:Hid (c * yE pk b=c * yE pk b∧Sm (D + 355) (c * yE pk b)):=⟨rfl,Hcs.out.mul Hxs.out.2⟩
      have hlk:lgN pk b + 2 < 2 ^ K10∧2 ^ b + 1 < 2 ^ K10:=by
       rw [Hq.out]; exact lg_k10 Hq2.out Hb1000.out
      have Hnx:=hd_ (fun W (hW:Below w.heap.size w W)=>newQ W (lgN pk b) (2 ^ b) (by omega) hlk.2 (Nat.two_pow_pos b) (HL.out.below hW))
      have Hny:=hd_ (fun W (hW:Below w.heap.size w W)=>newQ W (lgN pk b + 1) (2 ^ b) (by omega) hlk.2 (Nat.two_pow_pos b) (HL.out.below hW))
      have Had1:=hd_ (fun W (hW:Below w.heap.size w W)=>addD W (lgN pk b) 1 K10 (by decide) (by omega) (Nat.one_lt_two_pow (by decide)) (HL.out.below hW))
      rw [dec_one] at Had1
      have hxe:mkRat ((lgN pk b:Nat):Int) (2 ^ b)=xE pk b:=by unfold xE; rw [if_neg h2]
      have hye:mkRat ((lgN pk b + 1:Nat):Int) (2 ^ b)=yE pk b:=by unfold yE; rw [if_neg h2]
      rw [hxe] at Hnx
      rw [hye] at Hny
      have Hmx':=hd_ (fun W (hW:Below w.heap.size w W)=>mulR W c (xE pk b) D 355 Hcs.out Hxs.out.1 (by omega) (HL.out.below hW))
      have Hmy':=hd_ (fun W (hW:Below w.heap.size w W)=>mulR W c (yE pk b) D 355 Hcs.out Hxs.out.2 (by omega) (HL.out.below hW))
      clear hlk hxe hye h2
      unfold fr fv at Hnx Hny Hmx' Hmy'
      go_wp2_with fail
      refine cm_ (HAt'.out _ HE6.out.bel) ?_
      rintro e w7 ⟨rfl,hbx⟩
      have HE7:=hd_ (HE6.out.below hbx)
      have FA7:=hd_ (FA6.out.below hbx)
      have FB7:=hd_ (FB6.out.below hbx)
      have F87:=hd_ (F86.out.below hbx)
      have Hz7:=hd_ (Nat.le_trans Hz6.out hbx.size)
      clear hbx HAt' HE6 FA6 FB6 F86 Hz6 k0' cp
      go_wp2_with fail
      refine cm_ (Hnx.out _ HE7.out.bel) ?_
      rintro e w8 ⟨rfl,hbx⟩
      have hbx2:=hd_ (hbx.alloc hbx.size (.cells #[.string (itx (xE pk b).num),.string (dec (xE pk b).den)] 42))
      have HE8:=hd_ (HE7.out.below hbx2.out)
      have FA8:=hd_ (FA7.out.below hbx2.out)
      have FB8:=hd_ (FB7.out.below hbx2.out)
      have F88:=hd_ (F87.out.below hbx2.out)
      have Hz8':=hd_ (Nat.le_trans Hz7.out hbx2.out.size)
      have FX:=hd_ (FrAt.new w8 (xE pk b))
      have hgx:=hd_ (Nat.le_trans Hz7.out hbx.size)
      clear hbx hbx2 HE7 FA7 FB7 F87 Hz7 Hnx
      go_wp2_with fail
      generalize w8.alloc (.cells #[.string (itx (xE pk b).num),.string (dec (xE pk b).den)] 42)=w9 at *
      generalize w8.heap.size=gx at *
      refine cm_ (Had1.out _ HE8.out.bel) ?_
      rintro e w10 ⟨rfl,hbx⟩
      have HE10:=hd_ (HE8.out.below hbx)
      have FA10:=hd_ (FA8.out.below hbx)
      have FB10:=hd_ (FB8.out.below hbx)
      have F810:=hd_ (F88.out.below hbx)
      have FX10:=hd_ (FX.out.below hbx)
      have Hz10:=hd_ (Nat.le_trans Hz8'.out hbx.size)
      clear hbx HE8 FA8 FB8 F88 FX Hz8' Had1
      go_wp2_with fail
      refine cm_ (Hny.out _ HE10.out.bel) ?_
      rintro e w11 ⟨rfl,hbx⟩
      have hbx2:=hd_ (hbx.alloc hbx.size (.cells #[.string (itx (yE pk b).num),.string (dec (yE pk b).den)] 42))
      have HE12:=hd_ (HE10.out.below hbx2.out)
      have FA12:=hd_ (FA10.out.below hbx2.out)
      have FB12:=hd_ (FB10.out.below hbx2.out)
      have F812:=hd_ (F810.out.below hbx2.out)
      have FX12:=hd_ (FX10.out.below hbx2.out)
      have FY12:=hd_ (FrAt.new w11 (yE pk b))
      have Hz12:=hd_ (Nat.le_trans Hz10.out hbx2.out.size)
      obtain ⟨k0,k1,-,-⟩:=two_cells F812.out
      obtain ⟨k2,k3,-,-⟩:=two_cells FX12.out
      obtain ⟨k4,k5,-,-⟩:=two_cells FY12.out
      have q0:=NW.cell k0
      have q1:=NW.cell k1
      have q2:=NW.cell k2
      have q3:=NW.cell k3
      have q4:=NW.cell k4
      have q5:=NW.cell k5
      clear hbx hbx2 HE10 FA10 FB10 F810 FX10 Hz10 Hny k0 k1 k2 k3 k4 k5
      go_wp2_with fail
      generalize w11.alloc (.cells #[.string (itx (yE pk b).num),.string (dec (yE pk b).den)] 42)=w12 at *
      generalize w11.heap.size=gy at *
      have hnon:Nonempty (NW w12):=⟨⟨w12,Below.refl _ _⟩⟩
      have I:Hid (Below w12.heap.size w12 w12.drew):=(Below.refl _ _).drew
      refine RP.wp_region_readers 6 [(1,0),(1,1),(1,3),(1,4),(0,2),(0,5),(0,6),(0,7)] (fun w'=>∃ p:NW w12,w'=p.w) (by kernel_rfl) (by kernel_rfl) ?_ ?_
      ·exact ⟨⟨_,I.out⟩,rfl⟩
      iterate 4 (refine RP.walkR_read ?_; simp only [dsc_,dz_,tsc_,tz_]; go_big_quiet_step (fail); refine wpQuiet_nil ?_)
      clear hnon q0 q1 q2 q3 q4 q5
      refine RP.walkR_move ?_
      simp only [dsc_,dz_,tsc_,tz_]
      go_wp2_with fail
      refine cm_ (Hmx'.out _ (HE12.out.bel.trans (I.out.mono HE12.out.bel.size))) ?_
      rintro e y1 ⟨rfl,hbx⟩
      have J1:Hid (Below w12.heap.size w12 y1):=I.out.trans (hbx.mono I.out.size)
      clear hbx I Hmx'
      go_wp2_with fail
      refine ⟨⟨⟨_,J1.out⟩,rfl⟩,?_⟩
      refine RP.walkR_move ?_
      simp only [dsc_,dz_,tsc_,tz_]
      go_wp2_with fail
      refine cm_ (Hmy'.out _ (HE12.out.bel.trans (J1.out.mono HE12.out.bel.size))) ?_
      rintro e y2 ⟨rfl,hbx⟩
      have J2:Hid (Below w12.heap.size w12 y2):=J1.out.trans (hbx.mono J1.out.size)
      clear hbx J1 Hmy'
      go_wp2_with fail
      refine ⟨⟨⟨_,J2.out⟩,rfl⟩,?_⟩
      have HEy:=hd_ (HE12.out.below J2.out)
      have FAy:=hd_ (FA12.out.below J2.out)
      have FBy:=hd_ (FB12.out.below J2.out)
      have Hzy:=hd_ (Nat.le_trans Hz12.out J2.out.size)
      obtain ⟨k0,k1,f0,f1⟩:=two_cells FAy.out
      have FA1:=hd_ (FAy.out.put (c * xE pk b))
      have FB1:=hd_ (FBy.out.set (Ne.symm Hgab.out) (.string (itx (c * xE pk b).num)) (.string (dec (c * xE pk b).den)))
      have HE1':=hd_ (HEy.out.set hga (.string (itx (c * xE pk b).num)) (.string (dec (c * xE pk b).den)))
      have Hz1:Hid (w.heap.size + 2≤((y2.setCell ⟨ga,0,none⟩ (.string (itx (c * xE pk b).num))).setCell ⟨ga,1,none⟩ (.string (dec (c * xE pk b).den))).heap.size):=by
       show _≤_
       rw [World.size_setCell,World.size_setCell]
       exact Hzy.out
      clear HE12 FA12 FB12 F812 FX12 FY12 Hz12 J2 HEy FAy FBy Hzy
      refine RP.walkR_move ?_
      simp only [dsc_,dz_,tsc_,tz_]
      go_wp2_with fail
      generalize (y2.setCell ⟨ga,0,none⟩ (.string (itx (c * xE pk b).num))).setCell ⟨ga,1,none⟩ (.string (dec (c * xE pk b).den))=y3 at *
      clear k0 k1 f0 f1
      obtain ⟨k0,k1,f0,f1⟩:=two_cells FB1.out
      have FA2:=hd_ (FA1.out.set Hgab.out (.string (itx (c * yE pk b).num)) (.string (dec (c * yE pk b).den)))
      have FB2:=hd_ (FB1.out.put (c * yE pk b))
      have HE2':=hd_ (HE1'.out.set hgb (.string (itx (c * yE pk b).num)) (.string (dec (c * yE pk b).den)))
      have Hz2':Hid (w.heap.size + 2≤((y3.setCell ⟨gb,0,none⟩ (.string (itx (c * yE pk b).num))).setCell ⟨gb,1,none⟩ (.string (dec (c * yE pk b).den))).heap.size):=by
       show _≤_
       rw [World.size_setCell,World.size_setCell]
       exact Hz1.out
      clear FA1 FB1 HE1' Hz1
      refine RP.walkR_move ?_
      simp only [dsc_,dz_,tsc_,tz_]
      go_wp2_with fail
      generalize (y3.setCell ⟨gb,0,none⟩ (.string (itx (c * yE pk b).num))).setCell ⟨gb,1,none⟩ (.string (dec (c * yE pk b).den))=y4 at *
      clear k0 k1 f0 f1
      simp only [RP.walkR]
      generalize hXc:c * xE pk b=vx at *
      generalize hYc:c * yE pk b=vy at *
      have Hva:=hd_ (show c * xE pk b=vx∧Sm (D + 355) vx from ⟨hXc,Hva.out.2⟩)
      have Hvb:=hd_ (show c * yE pk b=vy∧Sm (D + 355) vy from ⟨hYc,Hvb.out.2⟩)
      clear hXc hYc
      obtain ⟨k0,k1,-,-⟩:=two_cells HE2'.out.e0
      obtain ⟨k2,k3,-,-⟩:=two_cells HE2'.out.e1
      obtain ⟨k4,k5,-,-⟩:=two_cells FA2.out
      obtain ⟨k6,k7,-,-⟩:=two_cells FB2.out
      have q0:=NW.cell k0
      have q1:=NW.cell k1
      have q2:=NW.cell k2
      have q3:=NW.cell k3
      have q4:=NW.cell k4
      have q5:=NW.cell k5
      have q6:=NW.cell k6
      have q7:=NW.cell k7
      have hnon:Nonempty (NW y4):=⟨⟨y4,Below.refl _ _⟩⟩
      have I:Hid (Below y4.heap.size y4 y4.drew):=(Below.refl _ _).drew
      have HLa:=hd_ (fun X (hX:Below y4.heap.size y4 X)=>HL.out.below (HE2'.out.bel.trans (hX.mono HE2'.out.bel.size)))
      have Hmn:=hd_ (fun X hX=>minR_ok X vx vy (D + 355) (D + 355) Hva.out.2 Hvb.out.2 (by omega) (HLa.out X hX))
      have Hmx:=hd_ (fun X hX=>maxR_ok X vx vy (D + 355) (D + 355) Hva.out.2 Hvb.out.2 (by omega) (HLa.out X hX))
      have Had:=hd_ (fun X hX=>addR X _ _ _ _ Hsm.out.1 (minR_sm Hva.out.2 Hvb.out.2) (by omega) (HLa.out X hX))
      have Had2:=hd_ (fun X hX=>addR X _ _ _ _ Hsm.out.2 (maxR_sm Hva.out.2 Hvb.out.2) (by omega) (HLa.out X hX))
      have hst1:loE b (ps.take k) (l.take k) + minR vx vy=loE b (ps.take (k + 1)) (l.take (k + 1)):=by first | (rw [Hst.out.1]; done) | (rw [Hst.out.1,← Hva.out.1,← Hvb.out.1]; done)
      have hst2:hiE b (ps.take k) (l.take k) + maxR vx vy=hiE b (ps.take (k + 1)) (l.take (k + 1)):=by first | (rw [Hst.out.2]; done) | (rw [Hst.out.2,← Hva.out.1,← Hvb.out.1]; done)
      rw [hst1] at Had
      rw [hst2] at Had2
      clear hst1 hst2 HLa
      unfold fr fv at Hmn Hmx Had Had2
      go_wp2_with fail
      clear k0 k1 k2 k3 k4 k5 k6 k7
      refine RP.wp_region_readers 10 [(1,0),(1,1),(1,2),(1,5),(1,6),(1,7),(0,3),(0,4),(0,8),(0,9),(0,10),(0,11)] (fun w'=>∃ p:NW y4,w'=p.w) (by kernel_rfl) (by kernel_rfl) ?_ ?_
      ·exact ⟨⟨_,I.out⟩,rfl⟩
      iterate 6 (refine RP.walkR_read ?_; simp only [dsc_,dz_,tsc_,tz_]; go_big_quiet_step (fail); refine wpQuiet_nil ?_)
      clear q0 q1 q2 q3 q4 q5 q6 q7 hnon
      refine RP.walkR_move ?_
      simp only [dsc_,dz_,tsc_,tz_]
      go_wp2_with fail
      refine cm_ (Hmn.out _ I.out) ?_
      rintro e x1 ⟨rfl,hbx⟩
      have J1:Hid (Below y4.heap.size y4 x1):=I.out.trans (hbx.mono I.out.size)
      clear hbx I Hmn
      go_wp2_with fail
      refine ⟨⟨⟨_,J1.out⟩,rfl⟩,?_⟩
      refine RP.walkR_move ?_
      simp only [dsc_,dz_,tsc_,tz_]
      go_wp2_with fail
      refine cm_ (Had.out _ J1.out) ?_
      rintro e x2 ⟨rfl,hbx⟩
      have J2:Hid (Below y4.heap.size y4 x2):=J1.out.trans (hbx.mono J1.out.size)
      clear hbx J1 Had
      go_wp2_with fail
      refine ⟨⟨⟨_,J2.out⟩,rfl⟩,?_⟩
      refine RP.walkR_move ?_
      simp only [dsc_,dz_,tsc_,tz_]
      go_wp2_with fail
      refine cm_ (Hmx.out _ J2.out) ?_
      rintro e x3 ⟨rfl,hbx⟩
      have J3:Hid (Below y4.heap.size y4 x3):=J2.out.trans (hbx.mono J2.out.size)
      clear hbx J2 Hmx
      go_wp2_with fail
      refine ⟨⟨⟨_,J3.out⟩,rfl⟩,?_⟩
      refine RP.walkR_move ?_
      simp only [dsc_,dz_,tsc_,tz_]
      go_wp2_with fail
      refine cm_ (Had2.out _ J3.out) ?_
      rintro e x4 ⟨rfl,hbx⟩
      have J4:Hid (Below y4.heap.size y4 x4):=J3.out.trans (hbx.mono J3.out.size)
      clear hbx J3 Had2
      go_wp2_with fail
      refine ⟨⟨⟨_,J4.out⟩,rfl⟩,?_⟩
      have HEx:=hd_ (HE2'.out.below J4.out)
      have Hzx:=hd_ (Nat.le_trans Hz2'.out J4.out.size)
      obtain ⟨k0,k1,f0,f1⟩:=two_cells HEx.out.e0
      obtain ⟨k2,k3,f2,f3⟩:=two_cells HEx.out.e1
      have HEp:=hd_ (HEx.out.put (loE b (ps.take (k + 1)) (l.take (k + 1))) (hiE b (ps.take (k + 1)) (l.take (k + 1))))
      have Hzp:Hid (w.heap.size + 2≤(putEnds x4 w.heap.size (loE b (ps.take (k + 1)) (l.take (k + 1))) (hiE b (ps.take (k + 1)) (l.take (k + 1)))).heap.size):=by
       show _≤_
       unfold putEnds
       rw [World.size_setCell,World.size_setCell,World.size_setCell,World.size_setCell]
       exact Hzx.out
      unfold putEnds at HEp Hzp
      clear HEx J4 Hzx
      refine RP.walkR_move ?_
      simp only [dsc_,dz_,tsc_,tz_]
      go_wp2_with fail
      refine RP.walkR_move ?_
      simp only [dsc_,dz_,tsc_,tz_]
      go_wp2_with fail
      simp only [RP.walkR]
      go_wp2_with fail
      refine ⟨⟨k + 1,by omega,by go_num,HEp,Hzp⟩,by simp [intOf]; omega⟩
  ·obtain rfl:k=n:=by omega
   have hlt':¬ (k:Int) < k:=by omega
   have hvv:=Hv.out trivial
   rw [← hvv.1,← hvv.2] at HE
   have Hvv:=hd_ hvv
   clear hvv Hv
   have hcl:∀ p:EnW w vlo vhi,p.w.cell? ⟨w.heap.size,0,none⟩=some (.string (itx vlo.num)):=fun p=>p.cells.1
   have hcl1:∀ p:EnW w vlo vhi,p.w.cell? ⟨w.heap.size,1,none⟩=some (.string (dec vlo.den)):=fun p=>p.cells.2.1
   have hcl2:∀ p:EnW w vlo vhi,p.w.cell? ⟨w.heap.size + 1,0,none⟩=some (.string (itx vhi.num)):=fun p=>p.cells.2.2.1
   have hcl3:∀ p:EnW w vlo vhi,p.w.cell? ⟨w.heap.size + 1,1,none⟩=some (.string (dec vhi.den)):=fun p=>p.cells.2.2.2
   have hnon:Nonempty (EnW w vlo vhi):=⟨⟨_,HE.out⟩⟩
   have HEd:=hd_ (HE.out.below (below_drawn wr 1))
   go_wp2_with fail
   refine RP.wp_region_readers 3 [(1,0),(1,1),(0,2),(0,3)] (fun w'=>∃ p:EnW w vlo vhi,w'=p.w) (by kernel_rfl) (by kernel_rfl) ?_ ?_
   ·exact ⟨⟨_,HEd.out⟩,rfl⟩
   iterate 2 (refine RP.walkR_read ?_; simp only [dsc_,dz_,tsc_,tz_]; go_big_quiet_step (fail); refine wpQuiet_nil ?_)
   clear hnon hcl hcl1 hcl2 hcl3
   obtain ⟨k0,k1,f0,f1⟩:=two_cells HE.out.e0
   have HE1:=hd_ (HEd.out.put0 vlo)
   refine RP.walkR_move ?_
   simp only [dsc_,dz_,tsc_,tz_]
   go_wp2_with fail
   refine ⟨⟨⟨_,HE1.out⟩,rfl⟩,?_⟩
   have HE2:Hid (EnI w ((wr.setCell ⟨w.heap.size,0,none⟩ (.string (itx vlo.num))).setCell ⟨w.heap.size,1,none⟩ (.string (dec vlo.den))).drew vlo vhi):=HE1.out
   clear k0 k1 f0 f1 HE1 HEd HE
   generalize ((wr.setCell ⟨w.heap.size,0,none⟩ (.string (itx vlo.num))).setCell ⟨w.heap.size,1,none⟩ (.string (dec vlo.den))).drew=wz at *
   obtain ⟨k2,k3,f2,f3⟩:=two_cells HE2.out.e1
   have HE3:=hd_ (HE2.out.put1 vhi)
   refine RP.walkR_move ?_
   simp only [dsc_,dz_,tsc_,tz_]
   go_wp2_with fail
   simp only [RP.walkR]
   generalize (wz.setCell ⟨w.heap.size + 1,0,none⟩ (.string (itx vhi.num))).setCell ⟨w.heap.size + 1,1,none⟩ (.string (dec vhi.den))=w9 at *
   clear k2 k3 f2 f3 HE2
   obtain ⟨c0',c1',-,-⟩:=two_cells HE3.out.e0
   obtain ⟨c2',c3',-,-⟩:=two_cells HE3.out.e1
   go_wp2_with fail
   exact bodyPost_ret (v := .tuple #[.agg #[.string (itx vlo.num),.string (dec vlo.den)],.agg #[.string (itx vhi.num),.string (dec vhi.den)]]) (by simp [results,Tryz.results80,go_sem,c0',c1',c2',c3']) rfl ⟨rfl,HE3.out.bel⟩
end Go.Proofs.YtnjedhgcfeoemaaGreatDoor

namespace Go.Proofs.YtnjedhgcfeoemaaGreatDoor
open Go.RowKit
structure RowV (w:World) (V:List Value) (ls:List (List Int)):Prop where
 len:V.length=ls.length
 at_:∀ i,i < ls.length→∃ a' c',V[i]?=some (.slice a' (ls.getD i []).length c')∧Rd w a' (ints (ls.getD i []))
theorem RowV.below {w w':World} {V:List Value} {ls:List (List Int)} {B:Nat} (h:RowV w V ls) (hb:Below B w w') (hB:w.heap.size≤B):RowV w' V ls :=
 ⟨h.len,fun i hi=>by obtain ⟨a',c',h1,h2⟩:=h.at_ i hi; exact ⟨a',c',h1,h2.below hb hB⟩⟩
theorem RowV.nil (w:World):RowV w [] []:=⟨rfl,fun i hi=>absurd hi (Nat.not_lt_zero i)⟩
theorem RowV.append {w:World} {V V':List Value} {ls ls':List (List Int)} (h:RowV w V ls) (k:RowV w V' ls'):RowV w (V ++ V') (ls ++ ls'):=by
 refine ⟨by simp [h.len,k.len],fun i hi=>?_⟩
 by_cases hi1:i < ls.length
 ·obtain ⟨a',c',h1,h2⟩:=h.at_ i hi1
  have e:(ls ++ ls').getD i []=ls.getD i []:=by rw [List.getD_eq_getElem?_getD,List.getD_eq_getElem?_getD,List.getElem?_append_left hi1]
  rw [e]
  exact ⟨a',c',by rw [List.getElem?_append_left (by rw [h.len]; exact hi1)]; exact h1,h2⟩
 ·rw [List.length_append] at hi
  obtain ⟨a',c',h1,h2⟩:=k.at_ (i - ls.length) (by omega)
  have e:(ls ++ ls').getD i []=ls'.getD (i - ls.length) []:=by rw [List.getD_eq_getElem?_getD,List.getD_eq_getElem?_getD,List.getElem?_append_right (by omega)]
  rw [e]
  exact ⟨a',c',by rw [List.getElem?_append_right (by rw [h.len]; omega),h.len]; exact h1,h2⟩
theorem RowV.one {w:World} {V:List Value} {ls:List (List Int)} (h:RowV w V ls):∀ u∈V,u.oneCell'=true:=fun u hu=>by
 obtain ⟨i,hi,rfl⟩:=List.mem_iff_getElem.1 hu
 obtain ⟨a',c',h1,_⟩:=h.at_ i (by rw [← h.len]; exact hi)
 rw [List.getElem?_eq_getElem hi] at h1
 rw [Option.some.inj h1]; rfl
end Go.Proofs.YtnjedhgcfeoemaaGreatDoor

namespace Go.Proofs.YtnjedhgcfeoemaaGreatDoor
open Go.RowKit
def ResI (w:World) (n:Nat) (l:List Int) (e:Ending):Prop:=(mx l=0∧∃ a c,e = .returned (.tuple #[.slice a n c,.int .i64 0])∧Rd w a (ints l))∨(mx l≠0∧e = .returned (.tuple #[.slice none 0 0,.int .i64 4]))
theorem ResI.form {w:World} {n:Nat} {l:List Int} {e:Ending} (h:ResI w n l e):∃ v1 v2,e = .returned (.tuple #[v1,v2]):=by
 rcases h with ⟨_,a,c,h,_⟩ | ⟨_,h⟩
 ·exact ⟨_,_,h⟩
 ·exact ⟨_,_,h⟩
end Go.Proofs.YtnjedhgcfeoemaaGreatDoor

namespace Go.Proofs.YtnjedhgcfeoemaaGreatDoor
open Go.RowKit
def Ok (c:Nat→Nat→Int) (u v:Nat):Prop:=0≤c v u∧(c v u=0→u < v)
structure Srt (c:Nat→Nat→Int) (n i:Nat) (F:Nat→Nat):Prop where
 lt:∀ k,k < n→F k < n
 inj:∀ k m,k < n→m < n→F k=F m→k=m
 hi:∀ k,i≤k→k < n→F k=k
 lo:∀ k,k < i→F k < i
 adj:∀ k,k + 1 < i→Ok c (F k) (F (k + 1))
structure Ins (c:Nat→Nat→Int) (n i j:Nat) (F:Nat→Nat):Prop where
 lt:∀ k,k < n→F k < n
 inj:∀ k m,k < n→m < n→F k=F m→k=m
 x:F j=i
 hi:∀ k,i < k→k < n→F k=k
 lo:∀ k,k≤i→F k≤i
 a1:∀ k,k + 1 < j→Ok c (F k) (F (k + 1))
 a2:∀ k,j < k→k + 1≤i→Ok c (F k) (F (k + 1))
 a3:∀ k,k + 1=j→j < i→Ok c (F k) (F (j + 1))
 a4:j < i→Ok c i (F (j + 1))
 ji:j≤i
 n:i < n
theorem Srt.first (c:Nat→Nat→Int) (n:Nat):Srt c n 1 fun k=>k :=
 ⟨fun _ h=>h,fun _ _ _ _ h=>h,fun _ _ _=>rfl,fun _ h=>h,fun _ h=>by omega⟩
def swF (F:Nat→Nat) (j:Nat):Nat→Nat:=fun k=>if k=j then F (j + 1) else if k=j + 1 then F j else F k
theorem Ins.swap {c:Nat→Nat→Int} (hc:∀ u v,c v u = - c u v) {n i j:Nat} {F:Nat→Nat} (h:Ins c n i (j + 1) F) (hs:c (F (j + 1)) (F j) < 0):Ins c n i j (swF F j):=by
 have hji:=h.ji
 have hn:=h.n
 have hx:=h.x
 have s1:swF F j j=i:=by unfold swF; rw [if_pos rfl]; exact hx
 have s2:swF F j (j + 1)=F j:=by unfold swF; rw [if_neg (by omega),if_pos rfl]
 have s3:∀ k,k≠j→k≠j + 1→swF F j k=F k:=fun k h1 h2=>by unfold swF; rw [if_neg h1,if_neg h2]
 refine ⟨fun k hk=>?_,fun k m hk hm e=>?_,s1,fun k h1 h2=>?_,fun k hk=>?_,fun k hk=>?_,fun k h1 h2=>?_,fun k h1 h2=>?_,fun h1=>?_,by omega,hn⟩
 ·unfold swF
  split
  ·exact h.lt _ (by omega)
  ·split
   ·exact h.lt _ (by omega)
   ·exact h.lt _ hk
 ·unfold swF at e
  by_cases k1:k=j
  ·by_cases m1:m=j
   ·omega
   ·rw [if_pos k1,if_neg m1] at e
    by_cases m2:m=j + 1
    ·rw [if_pos m2] at e
     have:=h.inj _ _ (by omega) (by omega) e
     omega
    ·rw [if_neg m2] at e
     have:=h.inj _ _ (by omega) hm e
     omega
  ·rw [if_neg k1] at e
   by_cases k2:k=j + 1
   ·rw [if_pos k2] at e
    by_cases m1:m=j
    ·rw [if_pos m1] at e
     have:=h.inj _ _ (by omega) (by omega) e
     omega
    ·rw [if_neg m1] at e
     by_cases m2:m=j + 1
     ·omega
     ·rw [if_neg m2] at e
      have:=h.inj _ _ (by omega) hm e
      omega
   ·rw [if_neg k2] at e
    by_cases m1:m=j
    ·rw [if_pos m1] at e
     have:=h.inj _ _ hk (by omega) e
     omega
    ·rw [if_neg m1] at e
     by_cases m2:m=j + 1
     ·rw [if_pos m2] at e
      have:=h.inj _ _ hk (by omega) e
      omega
     ·rw [if_neg m2] at e
      exact h.inj _ _ hk hm e
 ·rw [s3 k (by omega) (by omega)]; exact h.hi k h1 h2
 ·unfold swF
  split
  ·omega
  ·split
   ·exact h.lo _ (by omega)
   ·exact h.lo _ hk
 ·rw [s3 k (by omega) (by omega),s3 (k + 1) (by omega) (by omega)]
  exact h.a1 k (by omega)
 ·rcases Nat.lt_or_ge (j + 1) k with h3 | h3
  ·rw [s3 k (by omega) (by omega),s3 (k + 1) (by omega) (by omega)]
   exact h.a2 k h3 h2
  ·have e:k=j + 1:=by omega
   subst e
   rw [s2,s3 (j + 1 + 1) (by omega) (by omega)]
   exact h.a3 j rfl (by omega)
 ·subst h1
  rw [s3 k (by omega) (by omega),s2]
  exact h.a1 k (by omega)
 ·rw [s2,← hx]
  have e:=hc (F (j + 1)) (F j)
  exact ⟨by omega,fun h0=>by omega⟩
structure RowF (W:World) (g n:Nat) (F:Nat→Nat):Prop where
 lt:g < W.heap.size
 cell:∀ k,k < n→W.cell? ⟨g,k,none⟩=some (.int .i64 (F k:Nat))
 fr:∀ k,W.frozen? ⟨g,k,none⟩=false
theorem RowF.below {W W':World} {g n D:Nat} {F:Nat→Nat} (h:RowF W g n F) (hb:Below D W W') (hD:W.heap.size≤D):RowF W' g n F:=by
 have hlt:=h.lt
 have e:=hb.block g (by omega)
 have hs:=hb.size
 refine ⟨?_,fun k hk=>?_,fun k=>?_⟩
 ·have h2:=Array.getElem?_eq_some_iff.1 (show W.heap[g]?=some W.heap[g] from Array.getElem?_eq_getElem hlt)
  rw [Array.getElem?_eq_getElem hlt] at e
  exact (Array.getElem?_eq_some_iff.1 e).1
 ·rw [hb.cell (p:=⟨g,k,none⟩) (show g < D by omega)]
  exact h.cell k hk
 ·have:=h.fr k
  unfold World.frozen? at this ⊢
  rw [show W'.heap[(⟨g,k,none⟩:Addr).block]?=W.heap[(⟨g,k,none⟩:Addr).block]? from e]
  exact this
end Go.Proofs.YtnjedhgcfeoemaaGreatDoor

namespace Go.Proofs.YtnjedhgcfeoemaaGreatDoor
open Go.RowKit
theorem RowF.swap {W:World} {g n:Nat} {F:Nat→Nat} (h:RowF W g n F) (j:Nat) (hj:j + 1 < n) :
  RowF ((W.setCell ⟨g,j + 1,none⟩ (.int .i64 (F j:Nat))).setCell ⟨g,j,none⟩ (.int .i64 (F (j + 1):Nat))) g n (swF F j):=by
 have h0:=h.cell j (by omega)
 have h1:=h.cell (j + 1) hj
 have ne:∀ a b:Nat,a≠b→(⟨g,a,none⟩:Addr)≠⟨g,b,none⟩:=fun a b hab e=>by cases e; exact hab rfl
 refine ⟨by simpa using h.lt,fun k hk=>?_,fun k=>?_⟩
 ·unfold swF
  by_cases k1:k=j
  ·subst k1
   rw [if_pos rfl]
   exact World.cell?_setCell_same _ _ _ (u := .int .i64 (F k:Nat)) (by rw [World.cell?_setCell_other _ _ _ _ (ne _ _ (by omega))]; exact h0)
  ·rw [if_neg k1,World.cell?_setCell_other _ _ _ _ (ne _ _ (fun e=>k1 e.symm))]
   by_cases k2:k=j + 1
   ·subst k2
    rw [if_pos rfl]
    exact World.cell?_setCell_same _ _ _ h1
   ·rw [if_neg k2,World.cell?_setCell_other _ _ _ _ (ne _ _ (fun e=>k2 e.symm))]
    exact h.cell k hk
 ·have:=h.fr k
  simpa using this
end Go.Proofs.YtnjedhgcfeoemaaGreatDoor

namespace Go.Proofs.YtnjedhgcfeoemaaGreatDoor
open Go.RowKit
structure SortAt (W:World) (ps:List Int) (g2 g3:Nat) (a0 al:Option Addr) (c0 cl:Nat) (LL:List (List Rat)):Prop where
 h2:W.heap[g2]?=some (.cells #[.slice a0 ps.length c0] 36 (0,0))
 h3:W.heap[g3]?=some (.cells #[.slice al LL.length cl] 68 (0,0))
 rp:Rd W a0 (ints ps)
 rl:RdL W al (LL.map (List.map qs))
theorem SortAt.below {W W':World} {ps:List Int} {g2 g3:Nat} {a0 al:Option Addr} {c0 cl:Nat} {LL:List (List Rat)} (h:SortAt W ps g2 g3 a0 al c0 cl LL) {D:Nat} (hb:Below D W W') (hD:W.heap.size≤D):SortAt W' ps g2 g3 a0 al c0 cl LL :=
 ⟨heap_kept h.h2 hb hD,heap_kept h.h3 hb hD,h.rp.below hb hD,h.rl.below hb hD⟩
end Go.Proofs.YtnjedhgcfeoemaaGreatDoor

namespace Go.Proofs.YtnjedhgcfeoemaaGreatDoor
open Go.RowKit
theorem RowF.rd {W:World} {g n:Nat} {F:Nat→Nat} (h:RowF W g n F):Rd W (some ⟨g,0,none⟩) (ints ((List.range n).map fun (k:Nat)=>((F k:Nat):Int))):=by
 refine .inr ⟨g,0,rfl,h.lt,fun i v hv=>?_⟩
 rw [Nat.zero_add]
 have hi:i < n:=by
  have:=(List.getElem?_eq_some_iff.1 hv).1
  simpa [ints_length] using this
 rw [ints_get _ i (by simpa using hi)] at hv
 cases hv
 rw [h.cell i hi]
 simp
end Go.Proofs.YtnjedhgcfeoemaaGreatDoor

namespace Go.Proofs.YtnjedhgcfeoemaaGreatDoor
open Go.RowKit
end Go.Proofs.YtnjedhgcfeoemaaGreatDoor

namespace Go.Proofs.YtnjedhgcfeoemaaGreatDoor
open Go.RowKit
def RowB (W:World) (g:Nat) (t:TypeId) (D:List UInt8):Prop:=W.rowIs g t D.length (fun i => .int .u8 ((D.getD i 0).toNat:Nat))
theorem RowB.cell {W:World} {g:Nat} {t:TypeId} {D:List UInt8} (h:RowB W g t D) {i:Nat} (hi:i < D.length):W.cell? ⟨g,i,none⟩=some (.int .u8 ((D.getD i 0).toNat:Nat)):=World.rowIs.cell h hi
theorem RowB.frozen {W:World} {g:Nat} {t:TypeId} {D:List UInt8} (h:RowB W g t D) (i:Nat):W.frozen? ⟨g,i,none⟩=false:=World.rowIs.frozen h i
theorem RowB.set {W:World} {g:Nat} {t:TypeId} {D:List UInt8} (h:RowB W g t D) (i x:Nat) (hx:x < 256):RowB (W.setCell ⟨g,i,none⟩ (.int .u8 (x:Nat))) g t (D.set i (UInt8.ofNat x)):=by
 unfold RowB
 rw [List.length_set]
 refine (World.rowIs.set h i _).congr fun j hj=>?_
 by_cases e:j=i
 ·subst e
  rw [if_pos rfl]
  simp only [List.getD_eq_getElem?_getD,List.getElem?_set]
  simp only [if_true,if_pos hj,Option.getD_some]
  simp [Nat.mod_eq_of_lt hx]
 ·rw [if_neg e]
  simp only [List.getD_eq_getElem?_getD,List.getElem?_set]
  rw [if_neg (fun h=>e h.symm)]
theorem RowB.text {W:World} {g:Nat} {t src dst e:TypeId} {D:List UInt8} (h:RowB W g t D) (k n c:Nat) (hn:k + n=D.length)
  (hs:Tryz.prog.underlying src=some (.slice e)) (he:Tryz.prog.underlying e=some (.int .u8)) (hd:Tryz.prog.underlying dst=some .string) :
  (convert src dst (.slice (some ⟨g,k,none⟩) n c)).run Tryz.prog W = .ok (.string ⟨(D.drop k).toArray⟩) W:=by
 have hl:(D.drop k).length=n:=by simp; omega
 rw [← hl]
 refine run_convert_bytes_back W src dst e ⟨g,k,none⟩ c (D.drop k) hs he hd fun j hj=>?_
 rw [Lib.add_plain]
 rw [RowB.cell h (by omega)]
 rw [List.getD_eq_getElem?_getD,List.getElem?_eq_getElem (by omega)]
 simp
end Go.Proofs.YtnjedhgcfeoemaaGreatDoor

namespace Go.Proofs.YtnjedhgcfeoemaaGreatDoor
open Go.RowKit
def jn (L:List ByteArray):ByteArray:=⟨(Lib.join (L.map (·.data.toList)) [32]).toArray⟩
end Go.Proofs.YtnjedhgcfeoemaaGreatDoor

namespace Go.Proofs.YtnjedhgcfeoemaaGreatDoor
open Go.RowKit
end Go.Proofs.YtnjedhgcfeoemaaGreatDoor

namespace Go.Proofs.YtnjedhgcfeoemaaGreatDoor
open Go.RowKit
end Go.Proofs.YtnjedhgcfeoemaaGreatDoor

namespace Go.Proofs.YtnjedhgcfeoemaaGreatDoor
open Go.RowKit
theorem Digs.reverse {l:List UInt8} (h:Digs l):Digs l.reverse:=fun c hc=>h c (List.mem_reverse.1 hc)
structure JAt (w:World) (n:Nat) (T:List UInt8) (wr:World):Prop where
 row:∃ D,RowB wr w.heap.size 5 D∧D.length=9 * n + 1∧(D.getD 0 0).toNat=48∧D.drop (9 * n + 1 - T.length)=T
 bel:Below w.heap.size w wr
theorem JAt.set {w wr:World} {n:Nat} {T:List UInt8} (h:JAt w n T wr) (m x:Nat) (hm:m + T.length=9 * n) (hm0:0 < m) (hx:x < 256):JAt w n (UInt8.ofNat x :: T) (wr.setCell ⟨w.heap.size,m,none⟩ (.int .u8 (x:Nat))):=by
 obtain ⟨D,h1,h2,h3,h4⟩:=h.row
 refine ⟨⟨D.set m (UInt8.ofNat x),h1.set m x hx,by rw [List.length_set]; exact h2,?_,?_⟩,h.bel.setCell nr_ _⟩
 ·rw [List.getD_eq_getElem?_getD,List.getElem?_set_ne (by omega),← List.getD_eq_getElem?_getD]; exact h3
 ·have e:9 * n + 1 - (UInt8.ofNat x :: T).length=m:=by simp; omega
  rw [e,List.drop_eq_getElem_cons (by simp; omega),List.getElem_set_self,List.drop_set,if_pos (by omega)]
  congr 1
  rw [← h4]
  congr 1
  omega
theorem JAt.cell {w wr:World} {n:Nat} {T:List UInt8} (h:JAt w n T wr) (m:Nat) (hm:m≤9 * n):(∃ x:Nat,wr.cell? ⟨w.heap.size,m,none⟩=some (.int .u8 x))∧wr.frozen? ⟨w.heap.size,m,none⟩=false:=by
 obtain ⟨D,h1,h2,_,_⟩:=h.row
 exact ⟨⟨_,h1.cell (by omega)⟩,h1.frozen m⟩
theorem JAt.done {w wr:World} {n:Nat} {T:List UInt8} (h:JAt w n T wr) (hT:T.length=9 * n) (hd:Digs T):∃ D,RowB wr w.heap.size 5 D∧D.length=9 * n + 1∧Digs D∧dval D=dval T:=by
 obtain ⟨D,h1,h2,h3,h4⟩:=h.row
 have e:9 * n + 1 - T.length=1:=by omega
 rw [e] at h4
 match D,h2,h3,h4 with
 | c :: D,h2,h3,h4 =>
  obtain rfl:D=T:=by simpa using h4
  have hc:c.toNat=48:=by simpa using h3
  refine ⟨_,h1,h2,fun y hy=>?_,?_⟩
  ·rcases List.mem_cons.1 hy with rfl | hy
   ·omega
   ·exact hd y hy
  ·rw [dval_cons,hc]; simp
end Go.Proofs.YtnjedhgcfeoemaaGreatDoor

namespace Go.Proofs.YtnjedhgcfeoemaaGreatDoor
open Go.RowKit
end Go.Proofs.YtnjedhgcfeoemaaGreatDoor

namespace Go.Proofs.YtnjedhgcfeoemaaGreatDoor
open Go.RowKit
end Go.Proofs.YtnjedhgcfeoemaaGreatDoor

namespace Go.Proofs.YtnjedhgcfeoemaaGreatDoor
open Go.RowKit
end Go.Proofs.YtnjedhgcfeoemaaGreatDoor

namespace Go.Proofs.YtnjedhgcfeoemaaGreatDoor.LN
def upP:List Int→List Int→Nat
 | p :: ps,k :: ks=>p.toNat ^ k.toNat * upP ps ks
 | _,_=>1
theorem upP_snoc:∀ (ps ks:List Int) (p k:Int),ps.length=ks.length→upP (ps ++ [p]) (ks ++ [k])=upP ps ks * p.toNat ^ k.toNat
 | [],[],p,k,_=>by simp [upP]
 | q :: ps,m :: ks,p,k,h=>by
  have ih:=upP_snoc ps ks p k (by simpa using h)
  simp only [List.cons_append,upP]
  rw [ih,Nat.mul_assoc]
theorem upP_le (K:Nat):∀ (ps ks:List Int),(∀ p∈ps,2≤p∧p≤97)→(∀ k∈ks,k≤(K:Int))→upP ps ks < 10 ^ (2 * K * ps.length + 1)
 | [],_,_,_=>by simp [upP]
 | _ :: _,[],_,_=>by
  simp only [upP]
  exact Nat.one_lt_pow (by omega) (by decide)
 | p :: ps,k :: ks,h,h2=>by
  have ih:=upP_le K ps ks (fun q hq=>h q (List.mem_cons_of_mem _ hq)) fun q hq=>h2 q (List.mem_cons_of_mem _ hq)
  obtain ⟨a,b⟩:=h p List.mem_cons_self
  have hk:=h2 k List.mem_cons_self
  simp only [upP]
  have h3:p.toNat ^ k.toNat≤100 ^ k.toNat:=Nat.pow_le_pow_left (by omega) _
  have h4:100 ^ k.toNat≤100 ^ K:=Nat.pow_le_pow_right (by decide) (by omega)
  have h5:(100:Nat) ^ K=10 ^ (2 * K):=by rw [show (100:Nat)=10 ^ 2 from rfl,← Nat.pow_mul]
  rw [h5] at h4
  have e:10 ^ (2 * K * (p :: ps).length + 1)=10 ^ (2 * K) * 10 ^ (2 * K * ps.length + 1):=by rw [← Nat.pow_add]; congr 1; rw [List.length_cons,Nat.mul_add]; omega
  rw [e]
  exact Nat.mul_lt_mul_of_le_of_lt (Nat.le_trans h3 h4) ih (Nat.pow_pos (by decide))
end Go.Proofs.YtnjedhgcfeoemaaGreatDoor.LN

namespace Go.Proofs.YtnjedhgcfeoemaaGreatDoor
open Go.RowKit
structure UpAt (ps ks:List Int) (k u d:Nat):Prop where
 up:u=LN.upP (ps.take k) (ks.take k)
 dn:d=LN.upP (ps.take k) ((ks.map fun z => -z).take k)
 le:∀ z∈ks.take k,z≤500 ∧ -500≤z
theorem take_next {α:Type} (l:List α) (k:Nat) (h:k < l.length):l.take (k + 1)=l.take k ++ [l[k]]:=List.take_succ_eq_append_getElem h
theorem UpAt.next {ps ks:List Int} {k u d:Nat} (h:UpAt ps ks k u d) (h1:k < ps.length) (hk:k < ks.length) (hz:ks[k]≤500 ∧ -500≤ks[k]) :
  UpAt ps ks (k + 1) (u * ps[k].toNat ^ ks[k].toNat) (d * ps[k].toNat ^ (-ks[k]).toNat):=by
 refine ⟨?_,?_,?_⟩
 ·rw [take_next ps k h1,take_next ks k hk,LN.upP_snoc _ _ _ _ (by simp; omega),← h.up]
 ·have hk2:k < (ks.map fun z => -z).length:=by simpa using hk
  rw [take_next ps k h1,take_next _ k hk2,LN.upP_snoc _ _ _ _ (by simp; omega),← h.dn,List.getElem_map]
 ·intro z hz2
  rw [take_next ks k hk] at hz2
  rcases List.mem_append.1 hz2 with h3 | h3
  ·exact h.le z h3
  ·obtain rfl:=List.mem_singleton.1 h3
   exact hz
theorem UpAt.num {ps ks:List Int} {k u d:Nat} (h:UpAt ps ks k u d) (hp:∀ p∈ps,2≤p∧p≤97) (hn:ps.length≤100):Num u∧Num d:=by
 have hl:(ps.take k).length≤100:=by simp; omega
 have hb:2 * 500 * (ps.take k).length + 1≤1000000:=by omega
 have hp':∀ p∈ps.take k,2≤p∧p≤97:=fun p hp1=>hp p (List.mem_of_mem_take hp1)
 refine ⟨?_,?_⟩
 ·rw [h.up]
  exact num_pow (LN.upP_le 500 _ _ hp' fun z hz=>by have:=h.le z hz; omega) (by omega) hb
 ·rw [h.dn]
  refine num_pow (LN.upP_le 500 _ _ hp' fun z hz=>?_) (by omega) hb
  rw [← List.map_take] at hz
  obtain ⟨y,hy,rfl⟩:=List.mem_map.1 hz
  have:=h.le y hy
  omega
end Go.Proofs.YtnjedhgcfeoemaaGreatDoor

namespace Go.Proofs.YtnjedhgcfeoemaaGreatDoor
open Go.RowKit Go.Proofs.YtnjedhgcfeoemaaGreatDoor.RP
end Go.Proofs.YtnjedhgcfeoemaaGreatDoor

namespace Go.Proofs.YtnjedhgcfeoemaaGreatDoor
open Go.RowKit
end Go.Proofs.YtnjedhgcfeoemaaGreatDoor

namespace Go.Proofs.YtnjedhgcfeoemaaGreatDoor
open Go.ChangeShapes Go.WideShapes Go.ChangeAt Go.RowKit Go.Joins
section
variable {H:Type} {enc:TypeId×Value→H} {W:World}
end
end Go.Proofs.YtnjedhgcfeoemaaGreatDoor

namespace Go.Proofs.YtnjedhgcfeoemaaGreatDoor
open Go.RowKit
theorem own_apart {w:World} {B1 B2 s1 s2 n1 n2:Nat} {e1 e2:TypeId} {v1 v2:Value} {x1 x2:List Value} (h1:w.ownsRow B1 e1 s1 v1 n1 x1) (h2:w.ownsRow B2 e2 s2 v2 n2 x2) (hne:e1≠e2) :
  ∀ k,v1.ownBlock=some k→v2.ownBlock≠some k:=by
 intro k hk hk2
 rcases h1.2 with ⟨rfl,_⟩ | ⟨g,cap,cur,rfl,_,hg,_⟩
 ·simp [Value.ownBlock] at hk
 ·rcases h2.2 with ⟨rfl,_⟩ | ⟨g2,cap2,cur2,rfl,_,hg2,_⟩
  ·simp [Value.ownBlock] at hk2
  ·simp only [Value.ownBlock,Option.some.injEq] at hk hk2
   subst hk
   subst hk2
   rw [hg] at hg2
   simp only [Option.some.injEq,Obj.cells.injEq] at hg2
   exact hne hg2.2.1
end Go.Proofs.YtnjedhgcfeoemaaGreatDoor

namespace Go.Proofs.YtnjedhgcfeoemaaGreatDoor
open Go.RowKit
structure OwnL (w:World) (B:Nat) (b:Option Addr) (d:Nat) (n:Nat) (L:List (Option Addr×Nat)) (ls:List (List Rat)):Prop where
 len:L.length=ls.length
 row:w.ownsRow B 38 1 (.slice b L.length d) L.length (L.map fun x => .slice x.1 n x.2)
 each:∀ i (h1:i < L.length) (h2:i < ls.length),OwnQ w B L[i].1 L[i].2 ls[i]
 lens:∀ l∈ls,l.length=n
theorem OwnL.below {w w':World} {B d n:Nat} {b:Option Addr} {L:List (Option Addr×Nat)} {ls:List (List Rat)} (h:OwnL w B b d n L ls) (hb:Below w.heap.size w w'):OwnL w' B b d n L ls :=
 ⟨h.len,own_below h.row hb nr_,fun i h1 h2=>(h.each i h1 h2).below hb nr_,h.lens⟩
end Go.Proofs.YtnjedhgcfeoemaaGreatDoor

namespace Go.Proofs.YtnjedhgcfeoemaaGreatDoor
open Go.RowKit Go.Proofs.YtnjedhgcfeoemaaGreatDoor.RP
theorem OwnL.put {w1 w3:World} {B d n c:Nat} {b a:Option Addr} {L:List (Option Addr×Nat)} {ls:List (List Rat)} {l:List Rat} {v':Value} (h:OwnL w1 B b d n L ls) (ho:OwnQ w1 B a c l) (hl:l.length=n)
  (hown:w3.ownsRow B 38 1 v' (L.length + 1) ((L.map fun x=>Value.slice x.1 n x.2) ++ [.slice a n c])) (hg:(w1.alloc (.cells #[.slice a n c] 38)).grownBy w3 (Value.slice b L.length d).ownBlock) :
  ∃ b' d',v' = .slice b' (L.length + 1) d'∧OwnL w3 B b' d' n (L ++ [(a,c)]) (ls ++ [l]):=by
 obtain ⟨b',d',rfl⟩:=own_form hown
 have hA:Below w1.heap.size w1 (w1.alloc (.cells #[.slice a n c] 38)):=(Below.refl _ _).alloc nr_ _
 have hrow:=own_below h.row hA nr_
 have keep:∀ (a2:Option Addr) (c2:Nat) (l2:List Rat),OwnQ w1 B a2 c2 l2→OwnQ w3 B a2 c2 l2:=fun a2 c2 l2 h2=>by
  have h3:=ownS_own (h2.below hA nr_)
  refine own_ownQ (World.ownsRow.kept h3 hg ?_)
  have hap:=own_apart hrow h3 (by decide)
  cases hv:(Value.slice b L.length d).ownBlock with
  | none=>cases hv2:(Value.slice a2 l2.length c2).ownBlock <;> simp
  | some k=>exact .inr (hap k hv)
 refine ⟨b',d',rfl,?_,?_,?_,?_⟩
 ·simp [h.len]
 ·rw [List.length_append,List.map_append]
  exact hown
 ·intro i h1 h2
  by_cases hi:i < L.length
  ·have hi2:i < ls.length:=by rw [← h.len]; exact hi
   rw [List.getElem_append_left hi2]
   simp only [List.getElem_append_left hi]
   exact keep _ _ _ (h.each i hi hi2)
  ·have e:i=L.length:=by simp at h1; omega
   subst e
   rw [List.getElem_append_right (by rw [h.len]; exact Nat.le_refl _)]
   simp only [List.getElem_append_right nr_,h.len,Nat.sub_self,List.getElem_cons_zero]
   exact keep _ _ _ ho
 ·intro m hm
  rcases List.mem_append.1 hm with hm | hm
  ·exact h.lens m hm
  ·rw [List.mem_singleton.1 hm]; exact hl
end Go.Proofs.YtnjedhgcfeoemaaGreatDoor

namespace Go.Proofs.YtnjedhgcfeoemaaGreatDoor
open Go.RowKit
end Go.Proofs.YtnjedhgcfeoemaaGreatDoor

namespace Go.Proofs.YtnjedhgcfeoemaaGreatDoor
open Go.RowKit
def idxB {α:Type} (pf : α→Bool):List α→Nat→Int
 | [],_ => -1
 | x :: l,k=>if pf x=true then (k:Int) else idxB pf l (k + 1)
theorem idxB_any {α:Type} (pf : α→Bool):∀ (l:List α) (k:Nat),decide (0≤idxB pf l k)=l.any pf
 | [],_=>by simp [idxB]
 | x :: l,k=>by
  unfold idxB
  rw [List.any_cons]
  by_cases h:pf x=true
  ·rw [if_pos h,h]; simp
  ·rw [if_neg h,idxB_any pf l (k + 1)]
   simp only [Bool.not_eq_true] at h
   rw [h,Bool.false_or]
theorem enter_of {f : FuncId} {fn : Func} {c : Code} (hf : Tryz.prog.funcs[f]? = some fn) (hname : (fn.name == "runtime.NumGoroutine") = false) (hb : fn.body = some c) : ∀ args w, (callFunc f args).run Tryz.prog w = .ok (.enter f args) w := enters_of hf hname hb
end Go.Proofs.YtnjedhgcfeoemaaGreatDoor

namespace Go.Proofs.YtnjedhgcfeoemaaGreatDoor
open Go.RowKit
def sgE (lo hi:Rat):Int:=if 0≤lo.num.sign then 1 else if hi.num.sign≤0 then -1 else 0
theorem sgn_nonneg (q:Rat):0≤q.num.sign↔0≤q:=by
 rw [← Rat.num_nonneg]
 rcases Int.lt_trichotomy q.num 0 with h | h | h
 ·rw [Int.sign_eq_neg_one_of_neg h]; omega
 ·rw [h]; decide
 ·rw [Int.sign_eq_one_of_pos h]; omega
theorem sgn_nonpos (q:Rat):q.num.sign≤0↔q≤0:=by
 have h1:q≤0↔q.num≤0:=by
  have:=sgn_nonneg (-q)
  rw [Rat.neg_num,Int.sign_neg] at this
  constructor
  ·intro h
   have h2:0 ≤ -q:=by grind
   have h3:=Rat.num_nonneg.2 h2
   rw [Rat.neg_num] at h3
   omega
  ·intro h
   have h2:0≤(-q).num:=by rw [Rat.neg_num]; omega
   have h3:=Rat.num_nonneg.1 h2
   grind
 rw [h1]
 rcases Int.lt_trichotomy q.num 0 with h | h | h
 ·rw [Int.sign_eq_neg_one_of_neg h]; omega
 ·rw [h]; decide
 ·rw [Int.sign_eq_one_of_pos h]; omega
theorem sgE_dec (n:Nat) (ps:List Int) (l:List Rat):sgE (loE n ps l) (hiE n ps l)=decE n ps l:=by
 unfold sgE decE
 by_cases h1:0≤loE n ps l
 ·rw [if_pos ((sgn_nonneg _).2 h1),if_pos h1]
 ·rw [if_neg fun h=>h1 ((sgn_nonneg _).1 h),if_neg h1]
  by_cases h2:hiE n ps l≤0
  ·rw [if_pos ((sgn_nonpos _).2 h2),if_pos h2]
  ·rw [if_neg fun h=>h2 ((sgn_nonpos _).1 h),if_neg h2]
theorem esign_ok (w:World) (a b:Rat):Gives Tryz.prog 88 #[fr a,fr b] w (.int .i64 (sgE a b)):=by
 have H3:=hd_ (TwoF.mk' w (itx a.num) (dec a.den) (itx b.num) (dec b.den))
 have Ha:=hd_ (fun W=>signR W a)
 have Hb:=hd_ (fun W=>signR W b)
 have Hv:Hid (sgE a b=if 0≤a.num.sign then 1 else if b.num.sign≤0 then -1 else 0):=rfl
 generalize sgE a b=v at *
 unfold Gives
 unfold fr fv at Ha Hb ⊢
 generalize a.num.sign=sa at *
 generalize b.num.sign=sb at *
 by_cases h1:0≤sa
 ·have Hv2:Hid (v=1):=by show _=_; rw [Hv.out,if_pos h1]
  clear Hv Hb
  go_enter Tryz.func88,Tryz.ntmps88
  obtain ⟨k0,k1,-,-⟩:=two_cells H3.out.fa
  go_wp2_with fail
  generalize (w.alloc (.cells #[.string (itx a.num),.string (dec a.den)] 42)).alloc (.cells #[.string (itx b.num),.string (dec b.den)] 42)=W0 at *
  clear k0 k1
  refine cm_ (Ha.out _) ?_
  rintro e w1 ⟨rfl,hb1⟩
  have B1:=hd_ (H3.out.bel.trans (hb1.mono H3.out.bel.size))
  clear hb1 Ha
  go_wp2_with fail
  go_ret
  exact ⟨by rw [Hv2.out]; rfl,B1.out⟩
 ·by_cases h2:sb≤0
  ·have Hv2:Hid (v = -1):=by show _=_; rw [Hv.out,if_neg h1,if_pos h2]
   clear Hv
   go_enter Tryz.func88,Tryz.ntmps88
   obtain ⟨k0,k1,-,-⟩:=two_cells H3.out.fa
   go_wp2_with fail
   generalize (w.alloc (.cells #[.string (itx a.num),.string (dec a.den)] 42)).alloc (.cells #[.string (itx b.num),.string (dec b.den)] 42)=W0 at *
   clear k0 k1
   refine cm_ (Ha.out _) ?_
   rintro e w1 ⟨rfl,hb1⟩
   have H4:=hd_ (H3.out.next hb1)
   clear hb1 Ha H3
   obtain ⟨k2,k3,-,-⟩:=two_cells H4.out.fb
   go_wp2_with fail
   clear k2 k3
   refine cm_ (Hb.out _) ?_
   rintro e w2 ⟨rfl,hb1⟩
   have B1:=hd_ (H4.out.bel.trans (hb1.mono H4.out.bel.size))
   clear hb1 Hb
   go_wp2_with fail
   go_ret
   exact ⟨by rw [Hv2.out]; rfl,B1.out⟩
  ·have Hv2:Hid (v=0):=by show _=_; rw [Hv.out,if_neg h1,if_neg h2]
   clear Hv
   go_enter Tryz.func88,Tryz.ntmps88
   obtain ⟨k0,k1,-,-⟩:=two_cells H3.out.fa
   go_wp2_with fail
   generalize (w.alloc (.cells #[.string (itx a.num),.string (dec a.den)] 42)).alloc (.cells #[.string (itx b.num),.string (dec b.den)] 42)=W0 at *
   clear k0 k1
   refine cm_ (Ha.out _) ?_
   rintro e w1 ⟨rfl,hb1⟩
   have H4:=hd_ (H3.out.next hb1)
   clear hb1 Ha H3
   obtain ⟨k2,k3,-,-⟩:=two_cells H4.out.fb
   go_wp2_with fail
   clear k2 k3
   refine cm_ (Hb.out _) ?_
   rintro e w2 ⟨rfl,hb1⟩
   have B1:=hd_ (H4.out.bel.trans (hb1.mono H4.out.bel.size))
   clear hb1 Hb
   go_wp2_with fail
   go_ret
   exact ⟨by rw [Hv2.out]; rfl,B1.out⟩
theorem idxQ_any (w:World) (a:Option Addr) (c:Nat) (l:List Rat) (hr:Rd w a (cellsQ l)) (hl:l.length≤1000000) (f:FuncId) (lb:Array Value) (eg:∀ args w,(callFunc f args).run Tryz.prog w = .ok (.enter f args) w) (pf:Rat→Bool)
  (hcl:∀ W,Below w.heap.size w W→∀ x∈l,Gives Tryz.prog f (#[fr x] ++ lb) W (.bool (pf x))) :
  Gives Tryz.prog 207 #[.slice a l.length c,.func (.func f) #[] lb] w (.int .i64 (idxB pf l 0)):=by
 unfold Gives
 have Hr:=hd_ hr
 have Hcl:=hd_ hcl
 clear hr hcl
 generalize hm:l.length=m at *
 have Hm:=hd_ hm
 clear hm
 generalize hv:idxB pf l 0=v at *
 have Hvv:Hid (v=idxB pf l 0):=hv.symm
 clear hv
 go_enter Tryz.func207,Tryz.ntmps207
 go_wp2_with fail
 go_loopw [8] (fun i wr=>∃ k:Nat,k≤m∧i = .int .i64 k∧Hid (v=idxB pf (l.drop k) k)∧Hid (Below w.heap.size w wr)) (fun i _=>m - (intOf i).toNat)
 case atStart=>exact ⟨0,Nat.zero_le _,rfl,Hvv,Below.refl _ _⟩
 case round =>
  clear Hvv
  obtain ⟨k,hk,rfl,Hx,B⟩:=hrel
  by_cases hlt:k < m
  ·have hlt':(k:Int) < m:=by omega
   have hkb:k < l.length:=by rw [Hm.out]; exact hlt
   obtain ⟨b,off,rfl,hb,hcells⟩:=Hr.out.open (by rw [cellsQ_length]; omega)
   obtain ⟨x0,x1⟩:=cellsS_rd hcells k (by rw [List.length_map]; exact hkb)
   rw [qs_getD l k hkb] at x0 x1
   rw [← B.out.cell (p:=⟨b,off + k * 2,none⟩) hb] at x0
   rw [← B.out.cell (p:=⟨b,off + k * 2 + 1,none⟩) hb] at x1
   have Hd:Hid (l.drop k=l[k] :: l.drop (k + 1)):=List.drop_eq_getElem_cons hkb
   have Hc:=hd_ (Hcl.out wr B.out l[k] (List.getElem_mem hkb))
   unfold fr fv at Hc
   unfold qs at x0 x1
   simp only at x0 x1
   clear hcells
   generalize l[k]=x at *
   cases hf:pf x with
   | false =>
    have Hn:Hid (v=idxB pf (l.drop (k + 1)) (k + 1)):=by show _=_; rw [Hx.out,Hd.out,idxB,if_neg (by rw [hf]; decide)]
    rw [hf] at Hc
    go_wp2_with fail
    refine cm_ Hc.out ?_
    rintro e w1 ⟨rfl,hb1⟩
    have B1:=hd_ (B.out.trans (hb1.mono B.out.size))
    clear hb1 Hc B x0 x1
    go_wp2_with fail
    go_roundw
    case rel=>exact ⟨k + 1,by omega,by go_num,Hn,B1⟩
    case measure=>simp [intOf]; omega
   | true =>
    have Hn:Hid (v=k):=by show _=_; rw [Hx.out,Hd.out,idxB,if_pos hf]
    rw [hf] at Hc
    go_wp2_with fail
    refine cm_ Hc.out ?_
    rintro e w1 ⟨rfl,hb1⟩
    have B1:=hd_ (B.out.trans (hb1.mono B.out.size))
    clear hb1 Hc B x0 x1
    go_wp2_with fail
    go_ret
    exact ⟨by rw [Hn.out]; rfl,B1.out⟩
  ·have hlt':¬ (k:Int) < m:=by omega
   have Hn:Hid (v = -1):=by show _=_; rw [Hx.out,List.drop_of_length_le (by rw [Hm.out]; omega)]; rfl
   go_wp2_with fail
   go_ret
   exact ⟨by rw [Hn.out]; rfl,B.out⟩
theorem conQ_any (w:World) (a:Option Addr) (c:Nat) (l:List Rat) (hr:Rd w a (cellsQ l)) (hl:l.length≤1000000) (f:FuncId) (lb:Array Value) (eg:∀ args w,(callFunc f args).run Tryz.prog w = .ok (.enter f args) w) (pf:Rat→Bool)
  (hcl:∀ W,Below w.heap.size w W→∀ x∈l,Gives Tryz.prog f (#[fr x] ++ lb) W (.bool (pf x))) :
  Gives Tryz.prog 161 #[.slice a l.length c,.func (.func f) #[] lb] w (.bool (l.any pf)):=by
 unfold Gives
 have Hc:=hd_ (idxQ_any w a c l hr hl f lb eg pf hcl)
 have Hv:=hd_ (idxB_any pf l 0)
 unfold Gives at Hc
 clear hr hcl
 generalize l.length=m at *
 generalize idxB pf l 0=v at *
 generalize l.any pf=z at *
 go_enter Tryz.func161,Tryz.ntmps161
 go_wp2_with fail
 refine cm_ Hc.out ?_
 rintro e w1 ⟨rfl,hb1⟩
 have B1:=hd_ hb1
 clear hb1 Hc
 go_wp2_with fail
 go_ret
 exact ⟨by rw [← Hv.out]; rfl,B1.out⟩
def nzQ (q:Rat):Bool:=q.num.sign != 0
theorem zero1_ok (w:World) (q:Rat):Gives Tryz.prog 162 #[fr q] w (.bool (nzQ q)):=by
 unfold Gives
 have Hb0:=hd_ ((Below.refl w.heap.size w).alloc nr_ (.cells #[.string (itx q.num),.string (dec q.den)] 42))
 have Hs:=hd_ (fun W=>signR W q)
 have Hv:Hid (nzQ q=(q.num.sign != 0)):=rfl
 have F:=FrAt.new w q
 generalize nzQ q=v at *
 unfold fr fv at Hs ⊢
 generalize q.num.sign=s at *
 go_enter Tryz.func162,Tryz.ntmps162
 obtain ⟨k0,k1,-,-⟩:=two_cells F
 clear F
 go_wp2_with fail
 generalize w.alloc (.cells #[.string (itx q.num),.string (dec q.den)] 42)=W0 at *
 clear k0 k1
 refine cm_ (Hs.out _) ?_
 rintro e w1 ⟨rfl,hb1⟩
 have B1:=hd_ (Hb0.out.trans (hb1.mono Hb0.out.size))
 clear hb1 Hs
 go_wp2_with fail
 go_ret
 exact ⟨by rw [Hv.out]; rfl,B1.out⟩
theorem ezero_ok (w:World) (a:Option Addr) (c:Nat) (l:List Rat) (hr:Rd w a (cellsQ l)) (hl:l.length≤1000000) :
  Gives Tryz.prog 85 #[.slice a l.length c] w (.bool (!l.any nzQ)):=by
 unfold Gives
 have Hc:=hd_ (conQ_any w a c l hr hl 162 #[] (enter_of Tryz.func162 (by kernel_rfl) rfl) nzQ fun W _ x _=>zero1_ok W x)
 unfold Gives at Hc
 clear hr hl
 generalize l.length=m at *
 generalize l.any nzQ=z at *
 go_enter Tryz.func85,Tryz.ntmps85
 go_wp2_with fail
 refine cm_ Hc.out ?_
 rintro e w1 ⟨rfl,hb1⟩
 have B1:=hd_ hb1
 clear hb1 Hc
 go_wp2_with fail
 go_ret
 exact ⟨rfl,B1.out⟩
end Go.Proofs.YtnjedhgcfeoemaaGreatDoor

namespace Go.Proofs.YtnjedhgcfeoemaaGreatDoor
open Go.RowKit
def LeastP (w w':World) (ps:List Int) (l:List Rat) (T:Nat→Bool) (e:Ending):Prop :=
 ∃ R B n,e = .returned (.tuple #[.pointer (some ⟨R,0,none⟩),.int .i64 (n:Nat),.bool true])∧LgAt w' R ps l B∧n≤B∧B≤1000∧LeastN T n∧Below w.heap.size w w'
theorem least_any (w:World) (ps:List Int) (l:List Rat) (a0 a1:Option Addr) (c0 c1 D:Nat) (rp:Rd w a0 (ints ps)) (rl:Rd w a1 (cellsQ l)) (hl:l.length=ps.length) (hn:ps.length≤100) (hp:∀ p∈ps,∃ q:Nat,p=q∧(q=2∨q∈oddP)) (hs:∀ q∈l,Sm D q) (hD:D≤300)
  (f:FuncId) (lb:Array Value) (eg:∀ args w,(callFunc f args).run Tryz.prog w = .ok (.enter f args) w) (T:Nat→Bool)
  (hT:∀ W,Below w.heap.size w W→∀ b,b≤1000→Gives Tryz.prog f (#[fr (loE b ps l),fr (hiE b ps l)] ++ lb) W (.bool (T b))) (hend:T 1000=true) (L:Laid w) :
  Calls Tryz.prog 86 #[.slice a0 ps.length c0,.slice a1 ps.length c1,.func (.func f) #[] lb] w fun e w'=>LeastP w w' ps l T e:=by
 have HOp:=hd_ (fun W (hW:Below w.heap.size w W) B hB=>open_any14 W ps l B a0 a1 c0 c1 (rp.below hW nr_) (rl.below hW nr_) hl hn hp hB (L.below hW))
 have HEn:=hd_ (fun W (hW:Below w.heap.size w W) R B b (H:LgAt W R ps l B) (hb:b≤B) (hB:B≤1000)=>ends_any14 W R ps l B b D H hl hn hp hs hD hb hB (L.below hW))
 have HT:=hd_ hT
 have Hend:=hd_ hend
 clear rp rl hs hp hT hend L
 unfold fr fv at HEn HT
 generalize hnn:ps.length=n at *
 have Hn:=hd_ hnn
 clear hnn
 go_enter Tryz.func86,Tryz.ntmps86
 go_wp2_with fail
 refine cm_ (HOp.out _ (Below.refl _ _) 32 (by decide)) ?_
 rintro e w1 ⟨R0,rfl,hg,hR,hb⟩
 have HG0:=hd_ hg
 have B1:=hd_ hb
 clear hg hR hb
 go_wp2_with fail
 go_loopw [9,10] (fun m p wr=>∃ (B R:Nat),32≤B∧B≤1000∧m = .int .i64 B∧p = .pointer (some ⟨R,0,none⟩)∧Hid (LgAt wr R ps l B)∧Hid (Below w.heap.size w wr)) (fun m _ _=>1000 - (intOf m).toNat)
 case atStart=>exact ⟨32,R0,Nat.le_refl _,by decide,rfl,rfl,HG0,B1⟩
 case round =>
  obtain ⟨B,R,hB1,hB2,rfl,rfl,HG,HB⟩:=hrel
  clear HG0 B1
  go_wp2_with fail
  refine cm_ (HEn.out _ HB.out R B B HG.out nr_ hB2) ?_
  rintro e w2 ⟨rfl,hb⟩
  have HB2:=hd_ (HB.out.trans (hb.mono HB.out.size))
  have HG2:=hd_ (HG.out.below hb)
  clear hb HG HB
  have Hc:=hd_ (HT.out w2 HB2.out B hB2)
  cases hf:T B with
  | false =>
   rw [hf] at Hc
   have hB3:B < 1000:=by
    rcases Nat.lt_or_ge B 1000 with h | h
    ·exact h
    ·obtain rfl:B=1000:=by omega
     rw [Hend.out] at hf; cases hf
   obtain ⟨B',hB'⟩:∃ B',min (2 * B) 1000=B':=⟨_,rfl⟩
   have hm:min (2 * (B:Int)) 1000=(B':Nat):=by omega
   have hw:IntKind.i64.wrap (2 * (B:Int))=2 * (B:Int):=iw_ _ (by omega)
   have hne:((B:Int) == 1000)=false:=by rw [beq_eq_false_iff_ne]; omega
   have HOp':=hd_ (fun W hW=>HOp.out W hW B' (by omega))
   have hlow:32≤B':=by omega
   have hhigh:B'≤1000:=by omega
   have hgrow:B < B':=by omega
   clear hf hB'
   go_wp2_with fail
   refine cm_ Hc.out ?_
   rintro e w3 ⟨rfl,hb⟩
   have HB3:=hd_ (HB2.out.trans (hb.mono HB2.out.size))
   clear hb Hc HB2 HG2
   go_wp2_with fail
   refine cm_ (HOp'.out _ HB3.out) ?_
   rintro e w4 ⟨R',rfl,hg,hR,hb⟩
   have HG4:=hd_ hg
   have HB4:=hd_ (HB3.out.trans (hb.mono HB3.out.size))
   clear hg hR hb HB3 HOp'
   go_wp2_with fail
   refine ⟨⟨B',R',hlow,hhigh,rfl,rfl,HG4,HB4⟩,by simp [intOf]; omega⟩
  | true =>
   rw [hf] at Hc
   have Htop:=hd_ hf
   clear hf
   go_wp2_with fail
   refine cm_ Hc.out ?_
   rintro e w3 ⟨rfl,hb⟩
   have HB3:=hd_ (HB2.out.trans (hb.mono HB2.out.size))
   have HG3:=hd_ (HG2.out.below hb)
   clear hb Hc HB2 HG2
   go_wp2_with fail
   go_loopw [11,12] (fun u v wr=>∃ (fI:Int) (t:Nat),-1≤fI∧fI < t∧t≤B∧u = .int .i64 fI∧v = .int .i64 t∧Hid (T t=true∧(fI = -1∨T fI.toNat=false))∧Hid (LgAt wr R ps l B)∧Hid (Below w.heap.size w wr)) (fun u v _=>(intOf v - intOf u).toNat)
   case atStart=>exact ⟨-1,B,Int.le_refl _,by omega,Nat.le_refl _,rfl,rfl,⟨Htop.out,.inl rfl⟩,HG3,HB3⟩
   case round =>
    obtain ⟨fI,t,hf1,hf2,ht,rfl,rfl,HX,HG,HB⟩:=hrel
    clear HG3 HB3
    have hw1:IntKind.i64.wrap ((t:Int) - fI)=(t:Int) - fI:=iw_ _ (by omega)
    by_cases hc:1 < (t:Int) - fI
    ·obtain ⟨m,hm⟩:∃ m:Nat,((m:Nat):Int)=(fI + t) / 2:=⟨((fI + t) / 2).toNat,by omega⟩
     have hw2:IntKind.i64.wrap (fI + (t:Int))=fI + t:=iw_ _ (by omega)
     have hq:Int.tdiv (fI + (t:Int)) 2=(m:Nat):=by rw [Int.tdiv_eq_ediv_of_nonneg (by omega)]; omega
     have hq':(fI + (t:Int)) / 2=(m:Nat):=hm.symm
     have hm1:fI < m:=by omega
     have hm2:m < t:=by omega
     clear hm
     go_wp2_with fail
     refine cm_ (HEn.out _ HB.out R B m HG.out (by omega) hB2) ?_
     rintro e w4 ⟨rfl,hb⟩
     have HB4:=hd_ (HB.out.trans (hb.mono HB.out.size))
     have HG4:=hd_ (HG.out.below hb)
     clear hb HG HB
     have Hc:=hd_ (HT.out w4 HB4.out m (by omega))
     cases hf:T m with
     | true =>
      rw [hf] at Hc
      have HX2:Hid (T m=true∧(fI = -1∨T fI.toNat=false)):=⟨hf,HX.out.2⟩
      clear hf HX
      go_wp2_with fail
      refine cm_ Hc.out ?_
      rintro e w5 ⟨rfl,hb⟩
      have HB5:=hd_ (HB4.out.trans (hb.mono HB4.out.size))
      have HG5:=hd_ (HG4.out.below hb)
      clear hb Hc HB4 HG4
      go_wp2_with fail
      refine ⟨⟨fI,m,hf1,hm1,by omega,rfl,rfl,HX2,HG5,HB5⟩,by simp [intOf]; omega⟩
     | false =>
      rw [hf] at Hc
      have HX2:Hid (T t=true∧((m:Int) = -1∨T ((m:Int)).toNat=false)):=⟨HX.out.1,.inr (by rw [Int.toNat_natCast]; exact hf)⟩
      clear hf HX
      go_wp2_with fail
      refine cm_ Hc.out ?_
      rintro e w5 ⟨rfl,hb⟩
      have HB5:=hd_ (HB4.out.trans (hb.mono HB4.out.size))
      have HG5:=hd_ (HG4.out.below hb)
      clear hb Hc HB4 HG4
      go_wp2_with fail
      refine ⟨⟨(m:Int),t,by omega,by omega,ht,rfl,rfl,HX2,HG5,HB5⟩,by simp [intOf]; omega⟩
    ·have hc':fI=(t:Int) - 1:=by omega
     have HL:Hid (LeastN T t):=by
      refine ⟨HX.out.1,?_,by omega⟩
      rcases HX.out.2 with h | h
      ·left; omega
      ·by_cases h0:t=0
       ·left; exact h0
       ·right; rw [show t - 1=fI.toNat by omega]; exact h
     clear hc' HX
     go_wp2_with fail
     go_ret3
     exact ⟨R,B,t,rfl,HG.out,ht,hB2,HL.out,HB.out⟩
end Go.Proofs.YtnjedhgcfeoemaaGreatDoor

namespace Go.Proofs.YtnjedhgcfeoemaaGreatDoor
open Go.RowKit
def cellsB (l:List (Int×Int×ByteArray)):List Value:=l.flatMap fun x=>[.int .i64 x.1,.int .i64 x.2.1,.string x.2.2]
theorem cellsB_append (l m:List (Int×Int×ByteArray)):cellsB (l ++ m)=cellsB l ++ cellsB m:=by simp [cellsB]
def bndL (n:Nat) (ps:List Int) (l:List Rat):List (Int×Int×ByteArray):=(ps.zip l).filterMap fun x=>if x.2.num=0 then none else some (x.1,(n:Int),dec (lgN x.1 n))
theorem bndL_take (n:Nat) (ps:List Int) (l:List Rat) (k:Nat) (h1:k < ps.length) (h2:k < l.length) :
  bndL n (ps.take (k + 1)) (l.take (k + 1))=bndL n (ps.take k) (l.take k) ++ (if l[k].num=0 then [] else [(ps[k],(n:Int),dec (lgN ps[k] n))]):=by
 unfold bndL
 have e:∀ n,(ps.take n).zip (l.take n)=(ps.zip l).take n:=fun n=>(List.take_zipWith ..).symm
 rw [e,e,List.take_add_one,List.getElem?_eq_getElem (by rw [List.length_zip]; omega),List.filterMap_append]
 congr 1
 rw [List.getElem_zip]
 by_cases h:l[k].num=0
 ·rw [if_pos h]
  show List.filterMap _ [(ps[k],l[k])]=[]
  rw [List.filterMap_cons,if_pos h]; rfl
 ·rw [if_neg h]
  show List.filterMap _ [(ps[k],l[k])]=_
  rw [List.filterMap_cons,if_neg h]; rfl
theorem infoBd:(Tryz.prog.info? 27).map (fun i=>(i.zero,i.size,i.bytes))=some (some (.agg #[.int .i64 0,.int .i64 0,.string ⟨#[]⟩]),3,32):=by kernel_rfl
theorem elBd:ElemOf Tryz.prog 49 27 (.agg #[.int .i64 0,.int .i64 0,.string ⟨#[]⟩]) 3 32:=⟨Tryz.underlying49,info_parts infoBd,rfl,by decide⟩
theorem decide1_ok (w:World) (a b:Rat):Gives Tryz.prog 87 #[fr a,fr b] w (.bool (sgE a b != 0)):=by
 have H3:=hd_ (TwoF.mk' w (itx a.num) (dec a.den) (itx b.num) (dec b.den))
 have Hs:=hd_ (fun W=>esign_ok W a b)
 unfold Gives
 unfold fr fv at Hs ⊢
 generalize sgE a b=v at *
 go_enter Tryz.func87,Tryz.ntmps87
 obtain ⟨k0,k1,-,-⟩:=two_cells H3.out.fa
 obtain ⟨k2,k3,-,-⟩:=two_cells H3.out.fb
 go_wp2_with fail
 generalize (w.alloc (.cells #[.string (itx a.num),.string (dec a.den)] 42)).alloc (.cells #[.string (itx b.num),.string (dec b.den)] 42)=W0 at *
 clear k0 k1 k2 k3
 refine cm_ (Hs.out _) ?_
 rintro e w1 ⟨rfl,hb1⟩
 have B1:=hd_ (H3.out.bel.trans (hb1.mono H3.out.bel.size))
 clear hb1 Hs
 go_wp2_with fail
 go_ret
 exact ⟨rfl,B1.out⟩
def cmpV (sg n:Int) (a:Option Addr) (m c:Nat):Value := .agg #[.int .i64 sg,.int .i64 n,.slice a m c]
def DecP (w w':World) (ps:List Int) (l:List Rat) (e:Ending):Prop :=
 ∃ (n:Nat) (a:Option Addr) (c:Nat),e = .returned (.tuple #[cmpV (decE n ps l) n a (bndL n ps l).length c,.int .i64 0])∧LeastN (fun b=>decE b ps l != 0) n∧Rd w' a (cellsB (bndL n ps l))∧Below w.heap.size w w'
structure DcI (w w3 wr:World) (sg:Int) (n m:Nat) (a:Option Addr) (c:Nat) (bl:List (Int×Int×ByteArray)):Prop where
 res:wr.heap[w.heap.size]?=some (.cells #[.int .i64 0,.int .i64 0,.slice none 0 0] 51 (0,0))
 ob:wr.heap[w3.heap.size]?=some (.cells #[.int .i64 sg,.int .i64 n,.slice a m c] 51 (0,0))
 own:wr.ownsRow (w3.heap.size + 1) 27 3 (.slice a m c) m (cellsB bl)
 bel:Below w3.heap.size w3 wr
 sz:w3.heap.size + 1≤wr.heap.size
theorem DcI.below {w w3 wr w':World} {sg:Int} {n m:Nat} {a:Option Addr} {c:Nat} {bl:List (Int×Int×ByteArray)} (h:DcI w w3 wr sg n m a c bl) (hb:Below wr.heap.size wr w'):DcI w w3 w' sg n m a c bl :=
 ⟨by rw [hb.block _ (Array.getElem?_eq_some_iff.1 h.res).1]; exact h.res,by rw [hb.block _ (Array.getElem?_eq_some_iff.1 h.ob).1]; exact h.ob,own_below h.own hb nr_,h.bel.trans (hb.mono h.bel.size),Nat.le_trans h.sz hb.size⟩
theorem check_sm (w:World) (a0 a1:Option Addr) (c0 c1:Nat) (ps:List Int) (l:List Rat) (rp:Rd w a0 (ints ps)) (rl:Rd w a1 (cellsQ l)) (hi:I64s ps) (hl:l.length=ps.length) (hn:ps.length≤100) (hs:∀ q∈l,Sm 30 q) (hp0:pcode ps=0) (L:Laid w) :
  Gives Tryz.prog 22 #[.slice a0 ps.length c0,.slice a1 ps.length c1] w (.int .i64 0):=by
 have hss:Ssz (l.map qs):=fun x hx=>by
  obtain ⟨q,hq,rfl⟩:=List.mem_map.1 hx
  have h1:=itx_size q.num 30 (by decide) (hs q hq).1
  have h2:=(size_lt q.den 30 (by decide)).2 (hs q hq).2
  refine ⟨Nat.le_trans h1 (by decide),Nat.le_trans h2 (by decide)⟩
 have h:=sizeCheck_any w a0 a1 c0 c1 ps (l.map qs) rp hi (by omega) rl (by rw [List.length_map]; omega) hss L
 rw [List.length_map,hl] at h
 have h0:ccode ps (l.map qs)=0:=by unfold ccode; rw [if_pos hp0,scode_ok hs hl]
 rw [h0] at h
 exact h
theorem set_third {w:World} {R:Nat} {x y z z':Value} {t:TypeId} (h:w.heap[R]?=some (.cells #[x,y,z] t (0,0))) :
  (w.setCell ⟨R,2,none⟩ z').heap[R]?=some (.cells #[x,y,z'] t (0,0)):=by
 have hlt:=lt_of_block h
 have h':w.heap[R] = .cells #[x,y,z] t (0,0):=by simpa [Array.getElem?_eq_getElem hlt] using h
 show (w.heap.modify R _)[R]?=_
 rw [Array.getElem?_eq_getElem (by simpa using hlt),Array.getElem_modify_self,h']
 rfl
theorem own_rd3 {w:World} {B e:Nat} {a:Option Addr} {c m:Nat} {vs:List Value} {sz:Nat} (h:w.ownsRow B e sz (.slice a m c) m vs):Rd w a vs:=by
 by_cases hn:0 < m
 ·obtain ⟨g,cap,hv,h1,h2,h3,h4,h5⟩:=own_open h hn
  simp only [Value.slice.injEq] at hv
  obtain ⟨rfl,-,-⟩:=hv
  refine .inr ⟨g,0,rfl,h2,fun i v hi=>?_⟩
  have hlt:=(List.getElem?_eq_some_iff.1 hi).1
  have hlen:=h.1
  rw [Nat.zero_add,h4 i (by omega)]; exact hi
 ·obtain rfl:m=0:=by omega
  have hlen:=h.1
  exact .inl (List.length_eq_zero_iff.1 (by omega))
theorem DcI.push {w w3 W w5:World} {sg:Int} {n mm c d:Nat} {a a3:Option Addr} {bl:List (Int×Int×ByteArray)} {x:Int×Int×ByteArray} {news:List Value} (h:DcI w w3 W sg n mm a c bl) (hw:w.heap.size < w3.heap.size)
  (hnews:news=[.int .i64 x.1,.int .i64 x.2.1,.string x.2.2])
  (hg:(W.alloc (.cells news.toArray 27)).grownBy w5 (Value.slice a mm c).ownBlock) (ho:w5.ownsRow (w3.heap.size + 1) 27 3 (.slice a3 (mm + 1) d) (mm + 1) (cellsB bl ++ news)) :
  (∃ v,w5.cell? ⟨w3.heap.size,2,none⟩=some v)∧w5.frozen? ⟨w3.heap.size,2,none⟩=false∧DcI w w3 (w5.setCell ⟨w3.heap.size,2,none⟩ (.slice a3 (mm + 1) d)) sg n (mm + 1) a3 d (bl ++ [x]):=by
 have hown:∀ k,(Value.slice a mm c).ownBlock=some k→w3.heap.size + 1≤k:=fun k hk=>(World.ownsRow.lt h.own k hk).1
 have keep:∀ k o,k < w3.heap.size + 1→W.heap[k]?=some o→w5.heap[k]?=some o:=fun k o hk ho=>by
  rw [hg.block k (by simp; have:=h.sz; omega) (fun e=>by have:=hown k e.symm; omega)]
  rw [((Below.refl W.heap.size W).alloc nr_ _).block k (by have:=h.sz; omega)]
  exact ho
 have ob5:=keep _ _ (Nat.lt_succ_self _) h.ob
 obtain ⟨-,-,k2,kf⟩:=three_cells ob5
 refine ⟨⟨_,k2⟩,kf 2,?_,set_third ob5,?_,?_,?_⟩
 ·rw [Below.heap_setCell _ _ _ _ (by show w.heap.size≠w3.heap.size; omega)]
  exact keep _ _ (by omega) h.res
 ·have:=ownsRow_setCell_below (a:=⟨w3.heap.size,2,none⟩) ho (Nat.lt_succ_self _) (.slice a3 (mm + 1) d)
  rw [cellsB_append]
  subst hnews
  exact this
 ·refine Below.setCell (p:=⟨w3.heap.size,2,none⟩) ?_ nr_ _
  exact (h.bel.alloc h.bel.size _).grown hg (by simp; have:=h.sz; omega) (fun k hk=>by have:=hown k hk; omega)
 ·rw [World.size_setCell]
  have:=hg.size
  simp at this
  have:=h.sz
  omega
theorem decide_ok (w:World) (a0 a1:Option Addr) (c0 c1 D:Nat) (ps:List Int) (l:List Rat) (rp:Rd w a0 (ints ps)) (rl:Rd w a1 (cellsQ l)) (hi:I64s ps) (hl:l.length=ps.length) (hn:ps.length≤100) (hp:∀ p∈ps,∃ q:Nat,p=q∧(q=2∨q∈oddP)) (hs:∀ q∈l,Sm D q) (hD:D≤30)
  (hp0:pcode ps=0) (hnz:l.any nzQ=true) (hend:decE 1000 ps l≠0) (L:Laid w) :
  Calls Tryz.prog 26 #[.slice a0 ps.length c0,.slice a1 ps.length c1] w fun e w'=>DecP w w' ps l e:=by
 have Hck:=hd_ (fun W (hW:Below w.heap.size w W)=>check_sm W a0 a1 c0 c1 ps l (rp.below hW nr_) (rl.below hW nr_) hi hl hn (fun q hq=>(hs q hq).le hD) hp0 (L.below hW))
 have Hze:=hd_ (fun W (hW:Below w.heap.size w W)=>ezero_ok W a1 c1 l (rl.below hW nr_) (by omega))
 rw [hnz,hl] at Hze
 have Hle:=hd_ (fun W (hW:Below w.heap.size w W)=>least_any W ps l a0 a1 c0 c1 D (rp.below hW nr_) (rl.below hW nr_) hl hn hp hs (by omega) 87 #[] (enter_of Tryz.func87 (by kernel_rfl) rfl) (fun b=>decE b ps l != 0) (fun W' _ b _=>by
  have:=decide1_ok W' (loE b ps l) (hiE b ps l)
  rw [sgE_dec] at this
  exact this) (by rw [bne_iff_ne]; exact hend) (L.below hW))
 have HEn:=hd_ (fun W (hW:Below w.heap.size w W) R B b (H:LgAt W R ps l B) (hb:b≤B) (hB:B≤1000)=>ends_any14 W R ps l B b D H hl hn hp hs (by omega) hb hB (L.below hW))
 have HSg:=hd_ (fun W b=>esign_ok W (loE b ps l) (hiE b ps l))
 have HAt:=hd_ (fun W (hW:Below w.heap.size w W) R B b k (H:LgAt W R ps l B) (hk:k < ps.length) (hkl:k < l.length) (hz:l[k].num≠0) (hb:b≤B) (hB:B≤1000)=>at_any W R ps l B b k H hl hn hk hkl (hp _ (List.getElem_mem hk)) hz hb hB (L.below hW))
 have HRp:=hd_ rp
 have HRl:=hd_ rl
 have Hl:=hd_ hl
 have Hnew:Hid ((w.alloc (.cells #[.int .i64 0,.int .i64 0,.slice none 0 0] 51)).heap[w.heap.size]?=some (.cells #[.int .i64 0,.int .i64 0,.slice none 0 0] 51 (0,0))):=heap_alloc_new w _
 have Hb0:=hd_ ((Below.refl w.heap.size w).alloc nr_ (.cells #[.int .i64 0,.int .i64 0,.slice none 0 0] 51))
 clear rp rl hs hp hp0 hnz hend L hi
 unfold fr fv at HEn HSg
 obtain ⟨n,hnn⟩:∃ n,ps.length=n:=⟨_,rfl⟩
 have Hn:=hd_ hnn
 rw [hnn] at hn Hck Hze Hle ⊢
 clear hnn hl
 go_enter Tryz.func26,Tryz.ntmps26
 go_wp2_with fail
 generalize w.alloc (.cells #[.int .i64 0,.int .i64 0,.slice none 0 0] 51)=W0 at *
 refine cm_ (Hck.out _ Hb0.out) ?_
 rintro e w1 ⟨rfl,hb⟩
 have B1:=hd_ (Hb0.out.trans (hb.mono Hb0.out.size))
 have C1:=hd_ hb
 clear hb Hck Hb0
 go_wp2_with fail
 refine cm_ (Hze.out _ B1.out) ?_
 rintro e w2 ⟨rfl,hb⟩
 have B2:=hd_ (B1.out.trans (hb.mono B1.out.size))
 have C2:=hd_ (C1.out.trans (hb.mono C1.out.size))
 clear hb Hze B1 C1
 go_wp2_with fail
 refine cm_ (Hle.out _ B2.out) ?_
 rintro e w3a ⟨R,B,m,rfl,hg,hm,hB,hN,hb⟩
 have B3:=hd_ (B2.out.trans (hb.mono B2.out.size))
 have C3:=hd_ (C2.out.trans (hb.mono C2.out.size))
 have HG:=hd_ hg
 have HN:=hd_ hN
 clear hb Hle B2 C2 hg hN
 go_wp2_with fail
 refine cm_ (HEn.out _ B3.out R B m HG.out hm hB) ?_
 rintro e w3b ⟨rfl,hb⟩
 have B4:=hd_ (B3.out.trans (hb.mono B3.out.size))
 have C4:=hd_ (C3.out.trans (hb.mono C3.out.size))
 have HG4:=hd_ (HG.out.below hb)
 clear hb HEn B3 C3 HG
 go_wp2_with fail
 refine cm_ (HSg.out _ m) ?_
 rintro e w3 ⟨rfl,hb⟩
 have B5:=hd_ (B4.out.trans (hb.mono B4.out.size))
 have C5:=hd_ (C4.out.trans (hb.mono C4.out.size))
 have HG5:=hd_ (HG4.out.below hb)
 clear hb HSg B4 C4 HG4
 have hsg:sgE (loE m ps l) (hiE m ps l)=decE m ps l:=sgE_dec m ps l
 have Hsg:=hd_ hsg
 rw [hsg]
 clear hsg
 obtain ⟨sg,hsgd⟩:∃ sg,decE m ps l=sg:=⟨_,rfl⟩
 have Hdc:Hid (sg=decE m ps l):=hsgd.symm
 rw [hsgd]
 clear hsgd
 have HI0:Hid (DcI w w3 (w3.alloc (.cells #[.int .i64 sg,.int .i64 m,.slice none 0 0] 51)) sg m 0 none 0 (bndL m (ps.take 0) (l.take 0))):=by
  have hr0:w3.heap[w.heap.size]?=some (.cells #[.int .i64 0,.int .i64 0,.slice none 0 0] 51 (0,0)):=by
   rw [C5.out.block _ (Array.getElem?_eq_some_iff.1 Hnew.out).1]; exact Hnew.out
  refine ⟨?_,heap_alloc_new w3 _,World.ownsRow_nil ..,(Below.refl _ _).alloc nr_ _,by simp⟩
  rw [((Below.refl w3.heap.size w3).alloc nr_ _).block _ (Array.getElem?_eq_some_iff.1 hr0).1]; exact hr0
 have Hww:Hid (w.heap.size < w3.heap.size):=by
  have:=(Array.getElem?_eq_some_iff.1 Hnew.out).1
  have:=C5.out.size
  show _ < _
  omega
 clear Hnew C5
 go_wp2_with fail
 go_loopw [43] (fun i wr=>∃ (k:Nat) (a:Option Addr) (c mm:Nat),k≤n∧i = .int .i64 k∧mm≤k∧Hid (mm=(bndL m (ps.take k) (l.take k)).length)∧Hid (DcI w w3 wr sg m mm a c (bndL m (ps.take k) (l.take k)))) (fun i _=>n - (intOf i).toNat)
 case atStart=>exact ⟨0,none,0,0,Nat.zero_le _,rfl,Nat.le_refl _,rfl,HI0⟩
 case round =>
  obtain ⟨k,a,c,mm,hk,rfl,hmm,Hmm,HI⟩:=hrel
  clear HI0
  by_cases hlt:k < n
  ·have hlt':(k:Int) < n:=by omega
   have hkp:k < ps.length:=by rw [Hn.out]; exact hlt
   have hkl:k < l.length:=by rw [Hl.out,Hn.out]; exact hlt
   have Bw:=hd_ (B5.out.trans (HI.out.bel.mono B5.out.size))
   obtain ⟨b0,o0,rfl,hb0,hc0⟩:=HRp.out.open (by rw [ints_length]; omega)
   have Hcp:Hid (∀ W,Below w.heap.size w W→W.cell? ⟨b0,o0 + k,none⟩=some (.int .i64 ps[k])):=fun W hW=>by
    rw [hW.cell (p:=⟨b0,o0 + k,none⟩) hb0]; exact hc0 k _ (ints_get ps k hkp)
   obtain ⟨b1,o1,rfl,hb1,hc1⟩:=HRl.out.open (by rw [cellsQ_length]; omega)
   obtain ⟨x0,x1⟩:=cellsS_rd hc1 k (by rw [List.length_map]; exact hkl)
   rw [qs_getD l k hkl] at x0 x1
   rw [← Bw.out.cell (p:=⟨b1,o1 + k * 2,none⟩) hb1] at x0
   rw [← Bw.out.cell (p:=⟨b1,o1 + k * 2 + 1,none⟩) hb1] at x1
   have hkw:IntKind.i64.wrap ((k:Int) + 1)=((k + 1:Nat):Int):=by rw [← Int.natCast_succ]; exact iw_ _ (by omega)
   have Hsg':=hd_ (fun W=>signR W l[k])
   have Hbt:=hd_ (bndL_take m ps l k hkp hkl)
   have HAt':=hd_ (fun W (hW:Below w3.heap.size w3 W) (hz:l[k].num≠0)=>HAt.out W (B5.out.trans (hW.mono B5.out.size)) R B m k (HG5.out.below hW) hkp hkl hz hm hB)
   clear hc0 hc1
   unfold fr fv at Hsg'
   unfold qs at x0 x1
   simp only at x0 x1
   generalize l[k]=q at *
   generalize ps[k]=pk at *
   have HIa:=hd_ (HI.out.below ((Below.refl _ _).alloc nr_ (.cells #[.string (itx q.num),.string (dec q.den)] 42)))
   have k8:=two_cells (heap_alloc_new wr (.cells #[.string (itx q.num),.string (dec q.den)] 42))
   by_cases hz:q.num=0
   ·have hbt:=Hbt.out
    rw [if_pos hz,List.append_nil] at hbt
    have Hbt2:=hd_ hbt
    rw [hz] at Hsg' x0 k8 HIa
    clear HAt' hbt Hbt hz
    go_wp2_with fail
    refine cm_ (Hsg'.out _) ?_
    rintro e w4 ⟨rfl,hb⟩
    have HI2:=hd_ (HIa.out.below hb)
    clear hb Hsg' k8 HIa HI
    go_wp2_with fail
    refine ⟨⟨k + 1,a,c,mm,by omega,by go_num,by omega,by rw [Hbt2.out]; exact Hmm,by rw [Hbt2.out]; exact HI2⟩,by simp [intOf]; omega⟩
   ·have hsn:(q.num.sign != 0)=true:=by
     rw [bne_iff_ne]
     intro h
     exact hz (Int.sign_eq_zero_iff_zero.1 h)
    have hbt:=Hbt.out
    rw [if_neg hz] at hbt
    have Hbt2:=hd_ hbt
    have HAt2:=hd_ (fun W hW=>HAt'.out W hW hz)
    clear HAt' hbt Hbt hz
    go_wp2_with fail
    refine cm_ (Hsg'.out _) ?_
    rintro e w4 ⟨rfl,hb⟩
    have HI2:=hd_ (HIa.out.below hb)
    clear hb Hsg' k8 HIa HI x0 x1
    obtain ⟨k0,k1,k2,-⟩:=three_cells HI2.out.ob
    have cp:=Hcp.out w4 (B5.out.trans (HI2.out.bel.mono B5.out.size))
    have q0:=NW.cell k2
    have q1:=NW.cell cp
    have hnon:Nonempty (NW w4):=⟨⟨w4,Below.refl _ _⟩⟩
    have I:Hid (Below w4.heap.size w4 w4.drew):=(Below.refl _ _).drew
    clear k0 k1 k2 cp
    go_wp2_with fail
    refine RP.wp_region_readers 13 [(2,0),(1,1),(2,2),(2,3),(2,4),(1,5),(2,6),(2,7),(2,8),(2,9),(0,10),(0,11),(0,12),(0,13),(2,14),(0,15)] (fun w'=>∃ p:NW w4,w'=p.w) (by kernel_rfl) (by kernel_rfl) ?_ ?_
    ·exact ⟨⟨_,I.out⟩,rfl⟩
    iterate 1 (refine RP.walkR_any ?_; simp only [dz_,tsc_,tz_]; go_big_quiet_step (fail); refine wpQuiet_nil ?_)
    iterate 1 (refine RP.walkR_read ?_; simp only [dsc_,dz_,tsc_,tz_]; go_big_quiet_step (fail); refine wpQuiet_nil ?_)
    iterate 3 (refine RP.walkR_any ?_; simp only [dsc_,dz_,tsc_,tz_]; go_big_quiet_step (fail); refine wpQuiet_nil ?_)
    iterate 1 (refine RP.walkR_read ?_; simp only [dsc_,dz_,tsc_,tz_]; go_big_quiet_step (fail); refine wpQuiet_nil ?_)
    iterate 4 (refine RP.walkR_any ?_; simp only [dsc_,dz_,tsc_,tz_]; go_big_quiet_step (fail); refine wpQuiet_nil ?_)
    clear hnon q0 q1
    refine RP.walkR_move ?_
    simp only [dsc_,dz_,tsc_,tz_]
    go_wp2_with fail
    refine cm_ (HAt2.out _ (HI2.out.bel.trans (I.out.mono HI2.out.bel.size))) ?_
    rintro e x1 ⟨rfl,hb⟩
    have I1:Hid (Below w4.heap.size w4 x1):=I.out.trans (hb.mono I.out.size)
    clear hb I HAt2
    go_wp2_with fail
    refine ⟨⟨⟨_,I1.out⟩,rfl⟩,?_⟩
    refine RP.walkR_move ?_
    simp only [dsc_,dz_,tsc_,tz_]
    go_wp2_with fail
    refine ⟨⟨⟨_,I1.out⟩,rfl⟩,?_⟩
    refine RP.walkR_move ?_
    simp only [dsc_,dz_,tsc_,tz_]
    go_wp2_with fail
    refine ⟨⟨⟨_,I1.out.alloc I1.out.size _⟩,rfl⟩,?_⟩
    have HI3:=hd_ (HI2.out.below I1.out)
    have Hsz:=hd_ HI3.out.sz
    refine RP.walkR_move ?_
    simp only [dsc_,dz_,tsc_,tz_]
    go_wp2_with (at_builtin; refine wpList_append_new rfl (.tmp 52) (.tmp 63) 49 rfl elBd _ 1 [.int .i64 pk,.int .i64 m,.string (dec (lgN pk m))] rfl rfl HI3.out.own Hsz.out rfl (by simp [Value.oneCell']) (by omega) (by omega) ?_)
    intro v' w5 hown hgrow hnil
    obtain ⟨a3,d3,rfl⟩:=own_form hown
    obtain ⟨⟨v2,hv2⟩,hf2,hI5⟩:=HI3.out.push (x:=(pk,(m:Int),dec (lgN pk m))) Hww.out rfl hgrow hown
    rw [← Hbt2.out] at hI5
    have HI5:=hd_ hI5
    have Hmm5:Hid (mm + 1=(bndL m (ps.take (k + 1)) (l.take (k + 1))).length):=by
     show _=_
     rw [Hbt2.out,List.length_append,← Hmm.out]; rfl
    clear hown hgrow hnil hI5 HI3 I1
    go_wp2_with fail
    iterate 1 (refine RP.walkR_any ?_; simp only [dsc_,dz_,tsc_,tz_]; go_big_quiet_step (fail); refine wpQuiet_nil ?_)
    refine RP.walkR_move ?_
    simp only [dsc_,dz_,tsc_,tz_]
    go_wp2_with fail
    simp only [RP.walkR]
    go_wp2_with fail
    refine ⟨⟨k + 1,a3,d3,mm + 1,by omega,by go_num,by omega,Hmm5,HI5⟩,by simp [intOf]; omega⟩
  ·obtain rfl:k=n:=by omega
   have hlt':¬ (k:Int) < k:=by omega
   have htk:bndL m (ps.take k) (l.take k)=bndL m ps l:=by
    rw [← Hn.out,List.take_length,List.take_of_length_le (by rw [Hl.out,Hn.out]; omega)]
   have Htk:=hd_ htk
   obtain ⟨k0,k1,k2,-⟩:=three_cells HI.out.ob
   obtain ⟨r0,r1,r2,rf⟩:=three_cells HI.out.res
   have f0:=rf 0
   have f1:=rf 1
   have f2:=rf 2
   have Bw:=hd_ (B5.out.trans (HI.out.bel.mono B5.out.size))
   have HRd:Hid (Rd (((wr.setCell ⟨w.heap.size,0,none⟩ (.int .i64 sg)).setCell ⟨w.heap.size,1,none⟩ (.int .i64 m)).setCell ⟨w.heap.size,2,none⟩ (.slice a mm c)) a (cellsB (bndL m ps l))):=by
    have:=HI.out.own
    rw [htk] at this
    have hlt3:w.heap.size < w3.heap.size + 1:=Nat.lt_succ_of_lt Hww.out
    exact own_rd3 (ownsRow_setCell_below (ownsRow_setCell_below (ownsRow_setCell_below this (a:=⟨w.heap.size,0,none⟩) hlt3 _) (a:=⟨w.heap.size,1,none⟩) hlt3 _) (a:=⟨w.heap.size,2,none⟩) hlt3 _)
   rw [htk] at Hmm
   clear htk rf HAt
   go_wp2
   obtain ⟨z0,z1,z2,hb3⟩:=three_stored (.int .i64 sg) (.int .i64 m) (.slice a mm c) r0 r1 r2 nr_ Bw.out
   generalize ((wr.setCell ⟨w.heap.size,0,none⟩ (.int .i64 sg)).setCell ⟨w.heap.size,1,none⟩ (.int .i64 m)).setCell ⟨w.heap.size,2,none⟩ (.slice a mm c)=w9 at *
   exact bodyPost_ret (v := .tuple #[.agg #[.int .i64 sg,.int .i64 m,.slice a mm c],.int .i64 0]) (by simp [results,Tryz.results26,go_sem,z0,z1,z2]) rfl ⟨m,a,c,by rw [← Hmm.out,← (show sg=decE m ps l from Hdc.out)]; rfl,HN.out,HRd.out,hb3⟩
end Go.Proofs.YtnjedhgcfeoemaaGreatDoor

namespace Go.Proofs.YtnjedhgcfeoemaaGreatDoor
open Go.RowKit
structure TwoE (w W:World):Prop where
 e0:W.heap[w.heap.size]?=some (.cells #[.string ⟨#[]⟩,.string ⟨#[]⟩] 42 (0,0))
 e1:W.heap[w.heap.size + 1]?=some (.cells #[.string ⟨#[]⟩,.string ⟨#[]⟩] 42 (0,0))
 bel:Below w.heap.size w W
theorem TwoE.mk' (w:World):TwoE w ((w.alloc (.cells #[.string ⟨#[]⟩,.string ⟨#[]⟩] 42)).alloc (.cells #[.string ⟨#[]⟩,.string ⟨#[]⟩] 42)):=by
 have h1:=heap_alloc_new w (.cells #[.string ⟨#[]⟩,.string ⟨#[]⟩] 42)
 have h2:=heap_alloc_new (w.alloc (.cells #[.string ⟨#[]⟩,.string ⟨#[]⟩] 42)) (.cells #[.string ⟨#[]⟩,.string ⟨#[]⟩] 42)
 refine ⟨?_,?_,((Below.refl _ _).alloc nr_ _).alloc (by simp) _⟩
 ·rw [((Below.refl (w.alloc (.cells #[.string ⟨#[]⟩,.string ⟨#[]⟩] 42)).heap.size _).alloc nr_ _).block _ (Array.getElem?_eq_some_iff.1 h1).1]; exact h1
 ·have e:(w.alloc (.cells #[.string ⟨#[]⟩,.string ⟨#[]⟩] 42)).heap.size=w.heap.size + 1:=by simp
  rw [e] at h2; exact h2
theorem TwoE.below {w W W':World} (h:TwoE w W) (hb:Below W.heap.size W W'):TwoE w W' :=
 ⟨by rw [hb.block _ (Array.getElem?_eq_some_iff.1 h.e0).1]; exact h.e0,by rw [hb.block _ (Array.getElem?_eq_some_iff.1 h.e1).1]; exact h.e1,h.bel.trans (hb.mono h.bel.size)⟩
theorem four_stored {w W:World} (h:TwoE w W) (x y z u:Value):∃ w9,(((W.setCell ⟨w.heap.size,0,none⟩ x).setCell ⟨w.heap.size,1,none⟩ y).setCell ⟨w.heap.size + 1,0,none⟩ z).setCell ⟨w.heap.size + 1,1,none⟩ u=w9 ∧
  w9.heap[w.heap.size]?=some (.cells #[x,y] 42 (0,0))∧w9.heap[w.heap.size + 1]?=some (.cells #[z,u] 42 (0,0))∧Below w.heap.size w w9:=by
 have h1:=two_set (x':=x) (y':=y) h.e0
 have e1:((W.setCell ⟨w.heap.size,0,none⟩ x).setCell ⟨w.heap.size,1,none⟩ y).heap[w.heap.size + 1]?=some (.cells #[.string ⟨#[]⟩,.string ⟨#[]⟩] 42 (0,0)):=by
  rw [Below.heap_setCell _ _ _ _ (by show w.heap.size + 1≠w.heap.size; omega),Below.heap_setCell _ _ _ _ (by show w.heap.size + 1≠w.heap.size; omega)]
  exact h.e1
 refine ⟨_,rfl,?_,two_set e1,(((h.bel.setCell (p:=⟨w.heap.size,0,none⟩) nr_ _).setCell (p:=⟨w.heap.size,1,none⟩) nr_ _).setCell (p:=⟨w.heap.size + 1,0,none⟩) (Nat.le_succ _) _).setCell (p:=⟨w.heap.size + 1,1,none⟩) (Nat.le_succ _) _⟩
 rw [Below.heap_setCell _ _ _ _ (by show w.heap.size≠w.heap.size + 1; omega),Below.heap_setCell _ _ _ _ (by show w.heap.size≠w.heap.size + 1; omega)]
 exact h1
theorem enclose_ok (w:World) (a0 a1:Option Addr) (c0 c1 D b:Nat) (ps:List Int) (l:List Rat) (rp:Rd w a0 (ints ps)) (rl:Rd w a1 (cellsQ l)) (hi:I64s ps) (hl:l.length=ps.length) (hn:ps.length≤100) (hp:∀ p∈ps,∃ q:Nat,p=q∧(q=2∨q∈oddP)) (hs:∀ q∈l,Sm D q) (hD:D≤30)
  (hp0:pcode ps=0) (hb:b≤1000) (L:Laid w) :
  Gives Tryz.prog 23 #[.slice a0 ps.length c0,.slice a1 ps.length c1,.int .i64 b] w (.tuple #[fr (loE b ps l),fr (hiE b ps l),.int .i64 0]):=by
 unfold Gives
 have HE:=hd_ (TwoE.mk' w)
 have Hck:=hd_ (check_sm _ a0 a1 c0 c1 ps l (rp.below HE.out.bel nr_) (rl.below HE.out.bel nr_) hi hl hn (fun q hq=>(hs q hq).le hD) hp0 (L.below HE.out.bel))
 have HOp:=hd_ (fun W (hW:Below w.heap.size w W)=>open_any14 W ps l b a0 a1 c0 c1 (rp.below hW nr_) (rl.below hW nr_) hl hn hp hb (L.below hW))
 have HEn:=hd_ (fun W (hW:Below w.heap.size w W) R (H:LgAt W R ps l b)=>ends_any14 W R ps l b b D H hl hn hp hs (by omega) nr_ hb (L.below hW))
 clear rp rl hs hp hp0 L hi hl
 generalize loE b ps l=lo at *
 generalize hiE b ps l=hi at *
 unfold fr fv at HEn ⊢
 generalize ps.length=n at *
 go_enter Tryz.func23,Tryz.ntmps23
 go_wp2_with fail
 generalize (w.alloc (.cells #[.string ⟨#[]⟩,.string ⟨#[]⟩] 42)).alloc (.cells #[.string ⟨#[]⟩,.string ⟨#[]⟩] 42)=W0 at *
 refine cm_ Hck.out ?_
 rintro e w1 ⟨rfl,hbx⟩
 have HE1:=hd_ (HE.out.below hbx)
 clear hbx Hck HE
 go_wp2_with fail
 refine cm_ (HOp.out _ HE1.out.bel) ?_
 rintro e w2 ⟨R,rfl,hg,hR,hbx⟩
 have HE2:=hd_ (HE1.out.below hbx)
 have HG:=hd_ hg
 clear hbx hg hR HOp HE1
 go_wp2_with fail
 refine cm_ (HEn.out _ HE2.out.bel R HG.out) ?_
 rintro e w3 ⟨rfl,hbx⟩
 have HE3:=hd_ (HE2.out.below hbx)
 clear hbx HG HEn HE2
 obtain ⟨k0,k1,f0,f1⟩:=two_cells HE3.out.e0
 obtain ⟨k2,k3,f2,f3⟩:=two_cells HE3.out.e1
 go_wp2_with fail
 obtain ⟨w9,hw9,h0,h1,hb9⟩:=four_stored HE3.out (.string (itx lo.num)) (.string (dec lo.den)) (.string (itx hi.num)) (.string (dec hi.den))
 rw [hw9]
 have HI:Hid (EnI w w9 lo hi):=⟨h0,h1,hb9⟩
 clear hw9 h0 h1 hb9 k0 k1 k2 k3 f0 f1 f2 f3 HE3
 have hcl:∀ p:EnW w lo hi,p.w.cell? ⟨w.heap.size,0,none⟩=some (.string (itx lo.num)):=fun p=>p.cells.1
 have hcl1:∀ p:EnW w lo hi,p.w.cell? ⟨w.heap.size,1,none⟩=some (.string (dec lo.den)):=fun p=>p.cells.2.1
 have hcl2:∀ p:EnW w lo hi,p.w.cell? ⟨w.heap.size + 1,0,none⟩=some (.string (itx hi.num)):=fun p=>p.cells.2.2.1
 have hcl3:∀ p:EnW w lo hi,p.w.cell? ⟨w.heap.size + 1,1,none⟩=some (.string (dec hi.den)):=fun p=>p.cells.2.2.2
 have hnon:Nonempty (EnW w lo hi):=⟨⟨_,HI.out⟩⟩
 have HEd:=hd_ (HI.out.below (below_drawn w9 1))
 refine RP.wp_region_readers 3 [(1,0),(1,1),(0,2),(0,3),(2,4)] (fun w'=>∃ p:EnW w lo hi,w'=p.w) (by kernel_rfl) (by kernel_rfl) ?_ ?_
 ·exact ⟨⟨_,HEd.out⟩,rfl⟩
 iterate 2 (refine RP.walkR_read ?_; simp only [dsc_,dz_,tsc_,tz_]; go_big_quiet_step (fail); refine wpQuiet_nil ?_)
 clear hnon hcl hcl1 hcl2 hcl3
 obtain ⟨k0,k1,f0,f1⟩:=two_cells HI.out.e0
 have HE1:=hd_ (HEd.out.put0 lo)
 refine RP.walkR_move ?_
 simp only [dsc_,dz_,tsc_,tz_]
 go_wp2_with fail
 refine ⟨⟨⟨_,HE1.out⟩,rfl⟩,?_⟩
 have HE2:Hid (EnI w ((w9.setCell ⟨w.heap.size,0,none⟩ (.string (itx lo.num))).setCell ⟨w.heap.size,1,none⟩ (.string (dec lo.den))).drew lo hi):=HE1.out
 clear k0 k1 f0 f1 HE1 HEd HI
 generalize ((w9.setCell ⟨w.heap.size,0,none⟩ (.string (itx lo.num))).setCell ⟨w.heap.size,1,none⟩ (.string (dec lo.den))).drew=wz at *
 obtain ⟨k2,k3,f2,f3⟩:=two_cells HE2.out.e1
 have HE3:=hd_ (HE2.out.put1 hi)
 refine RP.walkR_move ?_
 simp only [dsc_,dz_,tsc_,tz_]
 go_wp2_with fail
 iterate 1 (refine RP.walkR_any ?_; simp only [dsc_,dz_,tsc_,tz_]; go_big_quiet_step (fail); refine wpQuiet_nil ?_)
 simp only [RP.walkR]
 generalize (wz.setCell ⟨w.heap.size + 1,0,none⟩ (.string (itx hi.num))).setCell ⟨w.heap.size + 1,1,none⟩ (.string (dec hi.den))=wy at *
 clear k2 k3 f2 f3 HE2
 obtain ⟨z0,z1,-,-⟩:=two_cells HE3.out.e0
 obtain ⟨z2,z3,-,-⟩:=two_cells HE3.out.e1
 go_wp2_with fail
 exact bodyPost_ret (v := .tuple #[.agg #[.string (itx lo.num),.string (dec lo.den)],.agg #[.string (itx hi.num),.string (dec hi.den)],.int .i64 0]) (by simp [results,Tryz.results23,go_sem,z0,z1,z2,z3]) rfl ⟨rfl,HE3.out.bel⟩
end Go.Proofs.YtnjedhgcfeoemaaGreatDoor

namespace Go.Proofs.YtnjedhgcfeoemaaGreatDoor
open Go.RowKit
def scE (k:Nat) (x:Rat):Int:=nearR (x * ((1200 * 10 ^ k:Nat):Rat))
theorem sc_nat (N:Nat):((N:Nat):Rat).num=N∧((N:Nat):Rat).den=1:=⟨Rat.num_natCast N,Rat.den_natCast N⟩
theorem scaled_ok (w:World) (x:Rat) (D k:Nat) (hx:Sm D x) (hD:D≤900000) (hk:k≤9) (L:Laid w) :
  Gives Tryz.prog 154 #[fr x,.int .i64 k] w (.string (itx (scE k x))):=by
 unfold Gives
 obtain ⟨N,hN⟩:∃ N,1200 * 10 ^ k=N:=⟨_,rfl⟩
 have hNb:N≤1200000000000:=by
  rw [← hN]
  exact Nat.le_trans (Nat.mul_le_mul_left 1200 (Nat.pow_le_pow_right (show 0 < 10 by decide) hk)) (by decide)
 have hNs:Sm 13 ((N:Nat):Rat):=by
  obtain ⟨h1,h2⟩:=sc_nat N
  refine ⟨by rw [h1,Int.natAbs_natCast]; exact Nat.lt_of_le_of_lt hNb (by decide),by rw [h2]; decide⟩
 have Hb0:=hd_ ((Below.refl w.heap.size w).alloc nr_ (.cells #[.string (itx x.num),.string (dec x.den)] 42))
 have F:=hd_ (FrAt.new w x)
 have Hof:=hd_ (fun W (hW:Below w.heap.size w W)=>show Gives Tryz.prog 73 #[.int .i64 N] W (.string (dec N)) from by
  have:=ofz_any W N (by omega) (by omega) (L.below hW)
  rw [itx_nat] at this; exact this)
 have Hmu:=hd_ (fun W (hW:Below w.heap.size w W)=>mulR W x ((N:Nat):Rat) D 13 hx hNs (by omega) (L.below hW))
 have Hne:=hd_ (fun W (hW:Below w.heap.size w W)=>nearR_ok W (x * ((N:Nat):Rat)) (D + 13) (hx.mul hNs) (by omega) (L.below hW))
 have hv:scE k x=nearR (x * ((N:Nat):Rat)):=by unfold scE; rw [hN]
 rw [hv]
 have hfr:fr ((N:Nat):Rat) = .agg #[.string (dec N),.string ⟨#[49]⟩]:=by
  obtain ⟨h1,h2⟩:=sc_nat N
  unfold fr fv
  rw [h1,h2,itx_nat,dec_one]
 rw [hfr] at Hmu
 have HN:Hid (∀ j,j≤k→1200 * 10 ^ j≤N):=fun j hj=>by rw [← hN]; exact Nat.mul_le_mul_left _ (Nat.pow_le_pow_right (by decide) hj)
 have HNk:=hd_ hN
 clear L hx hN hv hfr hNs
 generalize nearR (x * ((N:Nat):Rat))=res at *
 generalize x * ((N:Nat):Rat)=y at *
 unfold fr fv at Hmu Hne ⊢
 go_enter Tryz.func154,Tryz.ntmps154
 go_wp2_with fail
 generalize hW0:w.alloc (.cells #[.string (itx x.num),.string (dec x.den)] 42)=W0 at *
 go_loopw [5,7] (fun b i wr=>∃ (j M:Nat),j≤k∧M≤1200000000000∧b = .int .i64 M∧i = .int .i64 j∧Hid (M=1200 * 10 ^ j)∧Hid (wr=W0)) (fun _ i _=>k - (intOf i).toNat)
 case atStart=>exact ⟨0,1200,Nat.zero_le _,by decide,rfl,rfl,rfl,rfl⟩
 case round =>
  obtain ⟨j,M,hj,hM,rfl,rfl,HM,hwr⟩:=hrel
  have hwr':=hwr.out
  subst hwr'
  clear hwr
  by_cases hlt:j < k
  ·have hlt':(j:Int) < k:=by omega
   have hp10:1200 * 10 ^ (j + 1)=M * 10:=by rw [HM.out,Nat.pow_succ,Nat.mul_assoc]
   have hM2:M * 10≤1200000000000:=by rw [← hp10]; exact Nat.le_trans (HN.out (j + 1) hlt) hNb
   have hw:IntKind.i64.wrap ((M:Int) * 10)=((M * 10:Nat):Int):=by rw [show (M:Int) * 10=((M * 10:Nat):Int) by omega]; exact iw_ _ (by omega)
   have hjw:IntKind.i64.wrap ((j:Int) + 1)=((j + 1:Nat):Int):=by rw [← Int.natCast_succ]; exact iw_ _ (by omega)
   have HM2:Hid (M * 10=1200 * 10 ^ (j + 1)):=hp10.symm
   clear hp10
   go_wp2_with fail
   refine ⟨⟨j + 1,M * 10,by omega,hM2,by go_num,by go_num,HM2,trivial⟩,by simp [intOf]; omega⟩
  ·obtain rfl:j=k:=by omega
   have hlt':¬ (j:Int) < j:=by omega
   have hMN:M=N:=by rw [HM.out]; exact HNk.out
   subst hMN
   obtain ⟨k0,k1,-,-⟩:=two_cells F.out
   have q0:=NW.cell k0
   have q1:=NW.cell k1
   have hnon:Nonempty (NW wr):=⟨⟨wr,Below.refl _ _⟩⟩
   have I:Hid (Below wr.heap.size wr wr.drew):=(Below.refl _ _).drew
   clear HM HN HNk k0 k1
   go_wp2_with fail
   refine RP.wp_region_readers 5 [(1,0),(2,1),(0,2),(0,3),(0,4),(0,5),(2,6)] (fun w'=>∃ p:NW wr,w'=p.w) (by kernel_rfl) (by kernel_rfl) ?_ ?_
   ·exact ⟨⟨_,I.out⟩,rfl⟩
   iterate 1 (refine RP.walkR_read ?_; simp only [dz_,tsc_,tz_]; go_big_quiet_step (fail); refine wpQuiet_nil ?_)
   iterate 1 (refine RP.walkR_any ?_; simp only [dsc_,dz_,tsc_,tz_]; go_big_quiet_step (fail); refine wpQuiet_nil ?_)
   clear hnon q0 q1
   refine RP.walkR_move ?_
   simp only [dsc_,dz_,tsc_,tz_]
   go_wp2_with fail
   refine cm_ (Hof.out _ (Hb0.out.trans (I.out.mono Hb0.out.size))) ?_
   rintro e w1 ⟨rfl,hb⟩
   have I1:Hid (Below wr.heap.size wr w1):=I.out.trans (hb.mono I.out.size)
   clear hb I Hof
   go_wp2_with fail
   refine ⟨⟨⟨_,I1.out⟩,rfl⟩,?_⟩
   refine RP.walkR_move ?_
   simp only [dsc_,dz_,tsc_,tz_]
   go_wp2_with fail
   refine ⟨⟨⟨_,I1.out⟩,rfl⟩,?_⟩
   refine RP.walkR_move ?_
   simp only [dsc_,dz_,tsc_,tz_]
   go_wp2_with fail
   refine cm_ (Hmu.out _ (Hb0.out.trans (I1.out.mono Hb0.out.size))) ?_
   rintro e w2 ⟨rfl,hb⟩
   have I2:Hid (Below wr.heap.size wr w2):=I1.out.trans (hb.mono I1.out.size)
   clear hb I1 Hmu
   go_wp2_with fail
   refine ⟨⟨⟨_,I2.out⟩,rfl⟩,?_⟩
   refine RP.walkR_move ?_
   simp only [dsc_,dz_,tsc_,tz_]
   go_wp2_with fail
   refine cm_ (Hne.out _ (Hb0.out.trans (I2.out.mono Hb0.out.size))) ?_
   rintro e w3 ⟨rfl,hb⟩
   have I3:Hid (Below w.heap.size w w3):=Hb0.out.trans ((I2.out.trans (hb.mono I2.out.size)).mono Hb0.out.size)
   clear hb I2 Hne
   go_wp2_with fail
   iterate 1 (refine RP.walkR_any ?_; simp only [dsc_,dz_,tsc_,tz_]; go_big_quiet_step (fail); refine wpQuiet_nil ?_)
   simp only [RP.walkR]
   go_wp2_with fail
   go_ret
   exact ⟨rfl,I3.out⟩
end Go.Proofs.YtnjedhgcfeoemaaGreatDoor

namespace Go.Proofs.YtnjedhgcfeoemaaGreatDoor
open Go.RowKit
def sameC (k:Nat) (a b:Rat):Bool:=(itx (scE k a)).toList == (itx (scE k b)).toList
theorem certain1_ok (w:World) (a b:Rat) (D k g:Nat) (ha:Sm D a) (hb:Sm D b) (hD:D≤900000) (hk:k≤9) (hg:w.cell? ⟨g,0,none⟩=some (.int .i64 k)) (L:Laid w) :
  Gives Tryz.prog 153 #[fr a,fr b,.pointer (some ⟨g,0,none⟩)] w (.bool (sameC k a b)):=by
 have H3:=hd_ (TwoF.mk' w (itx a.num) (dec a.den) (itx b.num) (dec b.den))
 have Ha:=hd_ (fun W (hW:Below w.heap.size w W)=>scaled_ok W a D k ha hD hk (L.below hW))
 have Hb:=hd_ (fun W (hW:Below w.heap.size w W)=>scaled_ok W b D k hb hD hk (L.below hW))
 have Hv:Hid (sameC k a b=((itx (scE k a)).toList == (itx (scE k b)).toList)):=rfl
 have hgs:=block_lt_of_cell hg
 have Hg:=hd_ hg
 clear ha hb hD L hg
 generalize sameC k a b=v at *
 generalize itx (scE k a)=sa at *
 generalize itx (scE k b)=sb at *
 unfold Gives
 unfold fr fv at Ha Hb ⊢
 go_enter Tryz.func153,Tryz.ntmps153
 go_wp2_with fail
 generalize (w.alloc (.cells #[.string (itx a.num),.string (dec a.den)] 42)).alloc (.cells #[.string (itx b.num),.string (dec b.den)] 42)=W0 at *
 have hg0:W0.cell? ⟨g,0,none⟩=some (.int .i64 k):=(H3.out.bel.cell (p:=⟨g,0,none⟩) hgs).trans Hg.out
 obtain ⟨k0,k1,-,-⟩:=two_cells H3.out.fa
 obtain ⟨k2,k3,-,-⟩:=two_cells H3.out.fb
 have q0:=NW.cell k0
 have q1:=NW.cell k1
 have q2:=NW.cell k2
 have q3:=NW.cell k3
 have q4:=NW.cell hg0
 have hnon:Nonempty (NW W0):=⟨⟨W0,Below.refl _ _⟩⟩
 have I:Hid (Below W0.heap.size W0 W0.drew):=(Below.refl _ _).drew
 clear k0 k1 k2 k3 hg0
 refine RP.wp_region_readers 5 [(1,0),(1,1),(1,3),(1,4),(0,2),(0,5),(2,6),(2,7)] (fun w'=>∃ p:NW W0,w'=p.w) (by kernel_rfl) (by kernel_rfl) ?_ ?_
 ·exact ⟨⟨_,I.out⟩,rfl⟩
 iterate 4 (refine RP.walkR_read ?_; simp only [dsc_,dz_,tsc_,tz_]; go_big_quiet_step (fail); refine wpQuiet_nil ?_)
 clear hnon q0 q1 q2 q3 q4
 refine RP.walkR_move ?_
 simp only [dsc_,dz_,tsc_,tz_]
 go_wp2_with fail
 refine cm_ (Ha.out _ (H3.out.bel.trans (I.out.mono H3.out.bel.size))) ?_
 rintro e w1 ⟨rfl,hbx⟩
 have I1:Hid (Below W0.heap.size W0 w1):=I.out.trans (hbx.mono I.out.size)
 clear hbx I Ha
 go_wp2_with fail
 refine ⟨⟨⟨_,I1.out⟩,rfl⟩,?_⟩
 refine RP.walkR_move ?_
 simp only [dsc_,dz_,tsc_,tz_]
 go_wp2_with fail
 refine cm_ (Hb.out _ (H3.out.bel.trans (I1.out.mono H3.out.bel.size))) ?_
 rintro e w2 ⟨rfl,hbx⟩
 have I2:Hid (Below w.heap.size w w2):=H3.out.bel.trans ((I1.out.trans (hbx.mono I1.out.size)).mono H3.out.bel.size)
 clear hbx I1 Hb
 go_wp2_with fail
 iterate 2 (refine RP.walkR_any ?_; simp only [dsc_,dz_,tsc_,tz_]; go_big_quiet_step (fail); refine wpQuiet_nil ?_)
 simp only [RP.walkR]
 go_wp2_with fail
 go_ret
 exact ⟨by rw [Hv.out]; rfl,I2.out⟩
def CerP (w w':World) (ps:List Int) (l:List Rat) (k:Nat) (e:Ending):Prop :=
 ∃ n:Nat,e = .returned (.tuple #[.int .i64 n,.string (itx (scE k (loE n ps l))),.int .i64 0])∧LeastN (fun b=>sameC k (loE b ps l) (hiE b ps l)) n∧Below w.heap.size w w'
theorem certain_ok (w:World) (a0 a1:Option Addr) (c0 c1 D k:Nat) (ps:List Int) (l:List Rat) (rp:Rd w a0 (ints ps)) (rl:Rd w a1 (cellsQ l)) (hi:I64s ps) (hl:l.length=ps.length) (hn:ps.length≤100) (hp:∀ p∈ps,∃ q:Nat,p=q∧(q=2∨q∈oddP)) (hs:∀ q∈l,Sm D q) (hD:D≤30)
  (hp0:pcode ps=0) (hk:k≤9) (hend:sameC k (loE 1000 ps l) (hiE 1000 ps l)=true) (L:Laid w) :
  Calls Tryz.prog 81 #[.slice a0 ps.length c0,.slice a1 ps.length c1,.int .i64 k] w fun e w'=>CerP w w' ps l k e:=by
 have B0:=hd_ ((Below.refl w.heap.size w).alloc nr_ (.cells #[.int .i64 k] 3))
 have N0:Hid ((w.alloc (.cells #[.int .i64 k] 3)).cell? ⟨w.heap.size,0,none⟩=some (.int .i64 k)):=cell_of_row _ _ 0 _ 3 (0,0) (heap_alloc_new w _)
 have Hck:=hd_ (check_sm _ a0 a1 c0 c1 ps l (rp.below B0.out nr_) (rl.below B0.out nr_) hi hl hn (fun q hq=>(hs q hq).le hD) hp0 (L.below B0.out))
 have hsm:∀ b,b≤1000→Sm 100000 (loE b ps l)∧Sm 100000 (hiE b ps l):=fun b hb=>by
  have h:=ends_sm (show b≤1056 by omega) hp hl hs ps.length nr_
  rw [List.take_length,List.take_of_length_le (by omega)] at h
  have hb2:1 + ps.length * (D + 356)≤100000:=by
   have:ps.length * (D + 356)≤100 * 386:=Nat.mul_le_mul hn (by omega)
   omega
  exact ⟨h.1.le hb2,h.2.le hb2⟩
 have Hle:=hd_ (fun W (hW:Below w.heap.size w W) (hc:W.cell? ⟨w.heap.size,0,none⟩=some (.int .i64 k))=>least_any W ps l a0 a1 c0 c1 D (rp.below hW nr_) (rl.below hW nr_) hl hn hp hs (by omega) 153 #[.pointer (some ⟨w.heap.size,0,none⟩)] (enter_of Tryz.func153 (by kernel_rfl) rfl) (fun b=>sameC k (loE b ps l) (hiE b ps l)) (fun W' hW' b hb =>
  certain1_ok W' (loE b ps l) (hiE b ps l) 100000 k w.heap.size (hsm b hb).1 (hsm b hb).2 (by decide) hk ((hW'.cell (block_lt_of_cell hc)).trans hc) (L.below (hW.trans (hW'.mono hW.size)))) hend (L.below hW))
 have HEn:=hd_ (fun W (hW:Below w.heap.size w W) R B b (H:LgAt W R ps l B) (hb:b≤B) (hB:B≤1000)=>ends_any14 W R ps l B b D H hl hn hp hs (by omega) hb hB (L.below hW))
 have HSc:=hd_ (fun W (hW:Below w.heap.size w W) b (hb:b≤1000)=>scaled_ok W (loE b ps l) 100000 k (hsm b hb).1 (by decide) hk (L.below hW))
 clear rp rl hs hp hp0 L hi hend hsm
 unfold fr fv at HEn HSc
 obtain ⟨n,hnn⟩:∃ n,ps.length=n:=⟨_,rfl⟩
 rw [hnn] at hn Hck Hle ⊢
 clear hnn hl
 go_enter Tryz.func81,Tryz.ntmps81
 go_wp2_with fail
 generalize w.alloc (.cells #[.int .i64 k] 3)=W0 at *
 refine cm_ Hck.out ?_
 rintro e w1 ⟨rfl,hb⟩
 have B1:=hd_ (B0.out.trans (hb.mono B0.out.size))
 have cc1:=(hb.cell (block_lt_of_cell N0.out)).trans N0.out
 have N1:=hd_ cc1
 have hk0:¬ ((k:Int) < 0):=by omega
 have hk9:¬ (9 < (k:Int)):=by omega
 clear hb Hck N0 B0
 go_wp2_with fail
 refine cm_ (Hle.out _ B1.out N1.out) ?_
 rintro e w2 ⟨R,B,m,rfl,hg,hm,hB,hN,hb⟩
 have B2:=hd_ (B1.out.trans (hb.mono B1.out.size))
 have cc2:=(hb.cell (block_lt_of_cell N1.out)).trans N1.out
 have N2:=hd_ cc2
 have HG:=hd_ hg
 have HN:=hd_ hN
 clear hb Hle B1 hg hN cc1 N1 cc2
 go_wp2_with fail
 refine cm_ (HEn.out _ B2.out R B m HG.out hm hB) ?_
 rintro e w3 ⟨rfl,hb⟩
 have B3:=hd_ (B2.out.trans (hb.mono B2.out.size))
 have cc3:=(hb.cell (block_lt_of_cell N2.out)).trans N2.out
 have N3:=hd_ cc3
 have cz:=Lib.cell?_alloc_some (.cells #[.string (itx (hiE m ps l).num),.string (dec (hiE m ps l).den)] 42) (Lib.cell?_alloc_some (.cells #[.string (itx (loE m ps l).num),.string (dec (loE m ps l).den)] 42) cc3)
 have B4:=hd_ ((B3.out.alloc B3.out.size (.cells #[.string (itx (loE m ps l).num),.string (dec (loE m ps l).den)] 42)).alloc (Nat.le_trans B3.out.size (by simp)) (.cells #[.string (itx (hiE m ps l).num),.string (dec (hiE m ps l).den)] 42))
 clear hb HEn B2 HG N2 cc3
 go_wp2_with fail
 refine cm_ (HSc.out _ B4.out m (by omega)) ?_
 rintro e w4 ⟨rfl,hb⟩
 have B5:=hd_ (B4.out.trans (hb.mono B4.out.size))
 clear hb HSc B4 B3 N3 cz
 go_wp2_with fail
 go_ret3
 exact ⟨m,rfl,HN.out,B5.out⟩
end Go.Proofs.YtnjedhgcfeoemaaGreatDoor

namespace Go.Proofs.YtnjedhgcfeoemaaGreatDoor
open Go.RowKit
theorem cents_big (w:World) (a1 a2:Option Addr) (c1 c2 n1 n2 k N:Nat) (hN:0 < N) (hk:0 < k) (hk9:k≤9) (hs:k < (dec N).size) (hs2:(dec N).size≤1000000) (hc:Calls Tryz.prog 81 #[.slice a1 n1 c1,.slice a2 n2 c2,.int .i64 k] w fun e w'=>(∃ m:Int,e = .returned (.tuple #[.int .i64 m,.string (dec N),.int .i64 0]))∧Below w.heap.size w w') :
  Gives Tryz.prog 24 #[.slice a1 n1 c1,.slice a2 n2 c2,.int .i64 k] w (.tuple #[.string ((dec N).extract 0 ((dec N).size - k) ++ ⟨#[46]⟩ ++ (dec N).extract ((dec N).size - k) (dec N).size),.int .i64 0]):=by
 unfold Gives
 have HC:=hd_ hc
 have HA:=hd_ (fun W=>show Gives Tryz.prog 82 #[.string (dec N)] W (.string (dec N)) from by
  have:=abs_any W (N:Int)
  rw [itx_nat,Int.natAbs_natCast] at this; exact this)
 have HS:=hd_ (fun W=>show Gives Tryz.prog 84 #[.string (dec N)] W (.int .i64 1) from by
  have:=sign_any W (N:Int)
  rw [itx_nat,sign_nat hN] at this; exact this)
 clear hc hN
 generalize dec N=s at *
 obtain ⟨z,hz⟩:∃ z,s.size=z:=⟨_,rfl⟩
 have Hz:=hd_ hz
 rw [hz] at hs hs2
 clear hz
 go_enter Tryz.func24,Tryz.ntmps24
 go_wp2_with fail
 refine cm_ HC.out ?_
 rintro e w1 ⟨⟨m,rfl⟩,hb⟩
 have B1:=hd_ hb
 clear hb HC
 go_wp2_with fail
 refine cm_ (HA.out _) ?_
 rintro e w2 ⟨rfl,hb⟩
 have B2:=hd_ (B1.out.trans (hb.mono B1.out.size))
 clear hb HA B1
 have hz:=Hz.out
 have hsz:¬ ((s.size:Int)≤k):=by rw [hz]; omega
 have hk0:(0:Int) < k:=by omega
 have hw:IntKind.i64.wrap ((s.size:Int) - k)=((s.size - k:Nat):Int):=by rw [hz,show (z:Int) - k=((z - k:Nat):Int) by omega]; exact iw_ _ (by omega)
 clear hz
 have hex1:((s.size - k:Nat):Int)≤s.size:=by omega
 have hcat1:¬ (9223372036854775807 < s.size - k + 1):=by rw [Hz.out]; omega
 have hcat2:¬ (9223372036854775807 < s.size - k + 1 + (s.size - (s.size - k))):=by rw [Hz.out]; omega
 go_wp2_with fail
 refine RP.wp_region_readers 14 [(2,0),(2,1),(2,2),(2,3),(2,4),(2,5),(2,6),(2,7),(2,8),(2,9),(2,10),(2,11),(2,12),(2,13),(0,14)] (fun _=>True) (by kernel_rfl) (by kernel_rfl) ?_ ?_
 ·trivial
 iterate 14 (refine RP.walkR_any ?_; simp only [dsc_,dz_,tsc_,tz_]; go_big_quiet_step (fail); refine wpQuiet_nil ?_)
 refine RP.walkR_move ?_
 simp only [dsc_,dz_,tsc_,tz_]
 go_wp2_with fail
 simp only [RP.walkR]
 go_wp2_with fail
 refine cm_ (HS.out _) ?_
 rintro e w3 ⟨rfl,hb⟩
 have B3:=hd_ ((below_dn B2.out 1).trans (hb.mono (below_dn B2.out 1).size))
 clear hb HS B2
 go_wp2_with fail
 go_ret2
 exact ⟨rfl,B3.out⟩
end Go.Proofs.YtnjedhgcfeoemaaGreatDoor

namespace Go.Proofs.YtnjedhgcfeoemaaGreatDoor
open Go.RowKit
end Go.Proofs.YtnjedhgcfeoemaaGreatDoor

namespace Go.Proofs.YtnjedhgcfeoemaaGreatDoor
open Go.RowKit
theorem scE_mono {k:Nat} {x y:Rat} (h:x≤y):scE k x≤scE k y:=by
 unfold scE nearR
 have h1:x * ((1200 * 10 ^ k:Nat):Rat)≤y * ((1200 * 10 ^ k:Nat):Rat):=Rat.mul_le_mul_of_nonneg_right h (by exact_mod_cast Nat.zero_le _)
 exact Rat.floor_monotone (Rat.add_le_add_right.2 h1)
theorem sameC_iff {k:Nat} {x y:Rat}:sameC k x y=true↔scE k x=scE k y:=by
 unfold sameC
 constructor
 ·intro h
  have h1:=eq_of_beq h
  refine itx_inj ?_
  exact ByteArray.ext (Array.ext' (by simpa [ByteArray.toList_eq] using h1))
 ·intro h
  rw [h]; exact beq_self_eq_true _
theorem sc_one {k n m:Nat} {ps:List Int} {l:List Rat} (h:∀ p∈ps,∃ q:Nat,p=q∧(q=2∨q∈oddP)) (_hn:n≤1000) (hm:m≤1000) (h1:sameC k (loE n ps l) (hiE n ps l)=true) (hnm:n≤m) :
  scE k (loE m ps l)=scE k (loE n ps l)∧sameC k (loE m ps l) (hiE m ps l)=true:=by
 obtain ⟨u1,u2⟩:=ends_ups (n:=n) (l:=l) h (m - n) (by omega)
 rw [show n + (m - n)=m by omega] at u1 u2
 have h2:=sameC_iff.1 h1
 have h3:=ends_le m ps l
 have a1:=scE_mono (k:=k) u1
 have a2:=scE_mono (k:=k) h3
 have a3:=scE_mono (k:=k) u2
 refine ⟨by omega,sameC_iff.2 (by omega)⟩
theorem sc_any {k n m:Nat} {ps:List Int} {l:List Rat} (h:∀ p∈ps,∃ q:Nat,p=q∧(q=2∨q∈oddP)) (hn:n≤1000) (hm:m≤1000) (h1:sameC k (loE n ps l) (hiE n ps l)=true) (h2:sameC k (loE m ps l) (hiE m ps l)=true) :
  scE k (loE m ps l)=scE k (loE n ps l):=by
 rcases Nat.le_total n m with h3 | h3
 ·exact (sc_one h hn hm h1 h3).1
 ·exact (sc_one h hm hn h2 h3).1.symm
/-! The numbers. -/
def kP:List Int:=[2,3]
def kA:List Rat:=[-19,12]
def kB:List Rat:=[-1,1]
theorem kP_pr:∀ p∈kP,∃ q:Nat,p=q∧(q=2∨q∈oddP):=by
 intro p hp
 simp only [kP,List.mem_cons,List.not_mem_nil,or_false] at hp
 rcases hp with rfl | rfl
 ·exact ⟨2,rfl,.inl rfl⟩
 ·exact ⟨3,rfl,.inr (by decide)⟩
theorem kP_all:∀ p∈kP,p∈allP:=by decide
theorem k_lg3:lgN 3 3=12:=by decide +kernel
theorem k_dec9:decE 9 kP kA=1:=by decide +kernel
theorem k_dec8:decE 8 kP kA=0:=by decide +kernel
theorem k_lo7:loE 7 kP kA = -1 / 16:=by decide +kernel
theorem k_hi7:hiE 7 kP kA=1 / 32:=by decide +kernel
theorem k_same:sameC 3 (loE 30 kP kB) (hiE 30 kP kB)=true:=by decide +kernel
theorem k_cents:scE 3 (loE 30 kP kB)=701955:=by decide +kernel
theorem k_bnd:bndL 9 kP kA=[(2,9,dec 512),(3,9,dec 811)]:=by
 have h1:lgN 2 9=512:=by decide +kernel
 have h2:lgN 3 9=811:=by decide +kernel
 show List.filterMap _ [((2:Int),(-19:Rat)),(3,12)]=_
 rw [List.filterMap_cons,List.filterMap_cons]
 rw [if_neg (by decide +kernel),if_neg (by decide +kernel),h1,h2]
 rfl
theorem k_least {n:Nat} (h:LeastN (fun b=>decE b kP kA != 0) n):n=9:=by
 refine LeastN.uniq (T:=fun b=>decE b kP kA != 0) (fun b hb hx=>?_) h ⟨?_,.inr ?_,by decide⟩
 ·show (decE (b + 1) kP kA != 0)=true
  rw [bne_iff_ne]
  refine decE_up (d:=1) kP_all (by omega) ?_
  have hx':(decE b kP kA != 0)=true:=hx
  rwa [bne_iff_ne] at hx'
 ·show (decE 9 kP kA != 0)=true
  rw [k_dec9]; rfl
 ·show (decE 8 kP kA != 0)=false
  rw [k_dec8]; rfl
theorem k_cent {n:Nat} (h:LeastN (fun b=>sameC 3 (loE b kP kB) (hiE b kP kB)) n):scE 3 (loE n kP kB)=701955:=by
 rw [sc_any kP_pr (show 30≤1000 by decide) h.le k_same h.at_,k_cents]
theorem k_end:sameC 3 (loE 1000 kP kB) (hiE 1000 kP kB)=true:=(sc_one kP_pr (by decide) (by decide) k_same (by decide)).2
theorem k_endd:decE 1000 kP kA≠0:=decE_up (n:=9) (d:=991) kP_all (by decide) (by rw [k_dec9]; decide)
end Go.Proofs.YtnjedhgcfeoemaaGreatDoor

namespace Go.Proofs.YtnjedhgcfeoemaaGreatDoor
open Go.RowKit
theorem number14_ok (w:World) (n:Int) (d:Nat) (hn : -1000≤n) (hn2:n≤1000) (hd:0 < d) (hd2:d≤1000) (L:Laid w) :
  Gives Tryz.prog 65 #[.int .i64 n,.int .i64 d] w (fr (mkRat n d)):=by
 have hz:∀ x:Nat,x≤2000→Num x:=fun x hx=>num_k10 (Nat.lt_of_le_of_lt hx (Nat.lt_of_lt_of_le (show 2000 < 2 ^ 11 by decide) (Nat.pow_le_pow_right (by decide) (by rw [k10]; decide))))
 have Hb0:=hd_ ((Below.refl w.heap.size w).alloc nr_ (.cells #[.string ⟨#[]⟩,.string ⟨#[]⟩] 42))
 have Hnew:Hid ((w.alloc (.cells #[.string ⟨#[]⟩,.string ⟨#[]⟩] 42)).heap[w.heap.size]?=some (.cells #[.string ⟨#[]⟩,.string ⟨#[]⟩] 42 (0,0))):=heap_alloc_new w _
 have HO:=hd_ (ofi_frac _ n d (by omega) (by omega) (by omega) (hz _ (by omega)) (hz _ (by omega)) hd (hz _ (by omega)) (hz _ (by omega)) (L.below Hb0.out))
 rw [redV_rat n d (by omega)] at HO
 clear L hz
 generalize mkRat n d=q at *
 unfold Gives
 unfold fr fv at HO ⊢
 go_enter Tryz.func65,Tryz.ntmps65
 go_wp2_with fail
 generalize w.alloc (.cells #[.string ⟨#[]⟩,.string ⟨#[]⟩] 42)=W0 at *
 refine cm_ HO.out ?_
 rintro e w1 ⟨rfl,hb⟩
 have hcell:=stored_cell Hnew.out hb
 have hcell2:=heap_old hcell (.cells #[.string (itx q.num),.string (dec q.den)] 42)
 have B2:=hd_ ((Hb0.out.trans (hb.mono Hb0.out.size)).alloc (Nat.le_trans Hb0.out.size hb.size) (.cells #[.string (itx q.num),.string (dec q.den)] 42))
 obtain ⟨k0,k1,f0,f1⟩:=two_cells hcell2
 clear hb HO Hnew Hb0 hcell hcell2
 go_wp2
 obtain ⟨c0,c1,hb3⟩:=two_stored (B:=w.heap.size) (.string (itx q.num)) (.string (dec q.den)) k0 k1 nr_ B2.out
 generalize ((w1.alloc (.cells #[.string (itx q.num),.string (dec q.den)] 42)).setCell ⟨w.heap.size,0,none⟩ (.string (itx q.num))).setCell ⟨w.heap.size,1,none⟩ (.string (dec q.den))=w9 at *
 exact bodyPost_ret (v := .agg #[.string (itx q.num),.string (dec q.den)]) (by simp [results,Tryz.results65,go_sem,c0,c1]) rfl ⟨rfl,hb3⟩
end Go.Proofs.YtnjedhgcfeoemaaGreatDoor

namespace Go.Proofs.YtnjedhgcfeoemaaGreatDoor
open Go.RowKit
theorem fieldsBd : (Tryz.prog.fieldsOf 27).toList.map (fun f => (f.name, f.type, f.offset)) = [("Prime", 3, 0), ("Bits", 3, 1), ("Low", 25, 2)] := by kernel_rfl
theorem stoodBd:Tryz.prog.stoodInHeld 27=false:=by kernel_rfl
theorem guardBd:Tryz.prog.eqGuardType Tryz.prog.depth 27=false:=by kernel_rfl
theorem eqFields_bd (W : World) (d : Nat) (p n p' n' : Int) (s s' : ByteArray) (fs : List Field) (h : fs.map (fun f => (f.name, f.type, f.offset)) = [("Prime", 3, 0), ("Bits", 3, 1), ("Low", 25, 2)]) :
  (Op.eqFields (d + 1) #[.int .i64 p,.int .i64 n,.string s] #[.int .i64 p',.int .i64 n',.string s'] fs).run Tryz.prog W = .ok (p == p' && n == n' && s.toList == s'.toList) W:=by
 obtain ⟨f,g,k,rfl⟩:∃ f g k,fs=[f,g,k]:=by
  have hl:=congrArg List.length h
  rw [List.length_map] at hl
  cases fs with
  | nil=>simp at hl
  | cons f fs =>
   cases fs with
   | nil=>simp at hl
   | cons g fs =>
    cases fs with
    | nil=>simp at hl
    | cons k fs =>
     cases fs with
     | nil=>exact ⟨f,g,k,rfl⟩
     | cons x fs=>simp at hl
 simp only [List.map_cons,List.map_nil,List.cons.injEq,Prod.mk.injEq,and_true] at h
 obtain ⟨⟨h1,h2,h3⟩,⟨h4,h5,h6⟩,h7,h8,h9⟩:=h
 have hu:=Tryz.underlying25
 have hv:=Tryz.underlying3
 simp [Op.eqFields,h1,h2,h3,h4,h5,h6,h7,h8,h9,go_sem,hu,hv]
 by_cases q1:p=p' <;> by_cases q2:n=n' <;> by_cases q3:s.toList=s'.toList <;> simp [q1,q2,q3]
theorem structBd:Tryz.prog.underlying 27=some (.struct (Tryz.prog.fieldsOf 27)):=by
 have h:=Tryz.underlying27
 unfold Program.fieldsOf
 rw [h]
theorem eqlBd_run (W:World) (p n p' n':Int) (s s':ByteArray) :
  (binOp .eql 27 (.agg #[.int .i64 p,.int .i64 n,.string s]) (.agg #[.int .i64 p',.int .i64 n',.string s'])).run Tryz.prog W = .ok (.bool (p == p' && n == n' && s.toList == s'.toList)) W:=by
 rw [run_eql_struct,show (10000:Nat)=9998 + 1 + 1 from rfl,run_equalIn_agg (ht:=structBd) (hp:=stoodBd),eqFields_bd W _ p n p' n' s s' _ fieldsBd]
 rfl
theorem guardBd_run (W:World) (op:BinOp) (x y:Operand) (xs ys:Array Value):(eqGuard op 27 x y (.agg xs) (.agg ys)).run Tryz.prog W = .ok () W:=run_eqGuard_agg W op _ x y xs ys guardBd
theorem quiet_eqlBd {C:World→Prop} {K:Act→Prop} {a:Act} {o:Oper} (x y:Operand) (r:TypeId) (p n p' n':Int) (s s':ByteArray) (h:o.op = .binOp .eql 27 x y r) (hx:a.eval x = .agg #[.int .i64 p,.int .i64 n,.string s]) (hy:a.eval y = .agg #[.int .i64 p',.int .i64 n',.string s'])
  (hk:K (a.put o.dst (.bool (p == p' && n == n' && s.toList == s'.toList)))):o.quiet Tryz.prog a C K :=
 ⟨_,fun w _=>by
  unfold Oper.quietAt execOp
  rw [h]
  simp only [Sem.run_bind,hx,hy,guardBd_run,eqlBd_run,Result.andThen_ok,Sem.run_pure]
  exact ⟨rfl,rfl⟩,hk⟩
end Go.Proofs.YtnjedhgcfeoemaaGreatDoor

namespace Go.Proofs.YtnjedhgcfeoemaaGreatDoor
open Go.RowKit
theorem k_num (W:World) (n:Int) (d:Nat) (q:Rat) (hq:mkRat n d=q) (hn : -1000≤n) (hn2:n≤1000) (hd:0 < d) (hd2:d≤1000) (L:Laid W) :
  Gives Tryz.prog 65 #[.int .i64 n,.int .i64 d] W (fr q):=by rw [← hq]; exact number14_ok W n d hn hn2 hd hd2 L
theorem kP_i64:I64s kP:=by
 intro x hx
 simp only [kP,List.mem_cons,List.not_mem_nil,or_false] at hx
 rcases hx with rfl | rfl <;> decide
theorem kA_sm:∀ q∈kA,Sm 30 q:=by
 intro q hq
 simp only [kA,List.mem_cons,List.not_mem_nil,or_false] at hq
 rcases hq with rfl | rfl <;> exact ⟨by decide +kernel,by decide +kernel⟩
theorem kB_sm:∀ q∈kB,Sm 30 q:=by
 intro q hq
 simp only [kB,List.mem_cons,List.not_mem_nil,or_false] at hq
 rcases hq with rfl | rfl <;> exact ⟨by decide +kernel,by decide +kernel⟩
theorem kP_code:pcode kP=0:=by decide +kernel
theorem kA_any:kA.any nzQ=true:=by decide +kernel
theorem known14_ok (w:World) (L:Laid w):Gives Tryz.prog 15 #[] w (.bool true):=by
 unfold Gives
 have HL:=hd_ L
 have HO:=hd_ (eOf_ok w 3 3 (.inr (by decide)) (by decide +kernel) (by decide) L)
 rw [show ((3:Nat):Int)=3 from rfl,k_lg3] at HO
 unfold bndV at HO
 clear L
 generalize hb12:dec 12=b12 at *
 have Hb12:=hd_ hb12
 clear hb12
 obtain ⟨q1,hq1⟩:∃ q:Rat,q = -19:=⟨_,rfl⟩
 obtain ⟨q2,hq2⟩:∃ q:Rat,q=12:=⟨_,rfl⟩
 obtain ⟨q3,hq3⟩:∃ q:Rat,q = -1:=⟨_,rfl⟩
 obtain ⟨q4,hq4⟩:∃ q:Rat,q=1:=⟨_,rfl⟩
 obtain ⟨q5,hq5⟩:∃ q:Rat,q = -1 / 16:=⟨_,rfl⟩
 obtain ⟨q6,hq6⟩:∃ q:Rat,q=1 / 32:=⟨_,rfl⟩
 have N1:=hd_ (fun W (hW:Below w.heap.size w W)=>k_num W (-19) 1 q1 (by rw [hq1]; decide +kernel) (by decide) (by decide) (by decide) (by decide) (HL.out.below hW))
 have N2:=hd_ (fun W (hW:Below w.heap.size w W)=>k_num W 12 1 q2 (by rw [hq2]; decide +kernel) (by decide) (by decide) (by decide) (by decide) (HL.out.below hW))
 have N3:=hd_ (fun W (hW:Below w.heap.size w W)=>k_num W (-1) 1 q3 (by rw [hq3]; decide +kernel) (by decide) (by decide) (by decide) (by decide) (HL.out.below hW))
 have N4:=hd_ (fun W (hW:Below w.heap.size w W)=>k_num W 1 1 q4 (by rw [hq4]; decide +kernel) (by decide) (by decide) (by decide) (by decide) (HL.out.below hW))
 have N5:=hd_ (fun W (hW:Below w.heap.size w W)=>k_num W (-1) 16 q5 (by rw [hq5]; decide +kernel) (by decide) (by decide) (by decide) (by decide) (HL.out.below hW))
 have N6:=hd_ (fun W (hW:Below w.heap.size w W)=>k_num W 1 32 q6 (by rw [hq6]; decide +kernel) (by decide) (by decide) (by decide) (by decide) (HL.out.below hW))
 have hA:kA=[q1,q2]:=by rw [hq1,hq2]; rfl
 have hB:kB=[q3,q4]:=by rw [hq3,hq4]; rfl
 have HD:=hd_ (fun W (hW:Below w.heap.size w W) a0 a1 (rp:Rd W a0 (ints kP)) (rl:Rd W a1 (cellsQ [q1,q2]))=>decide_ok W a0 a1 2 2 30 kP kA rp (by rw [hA]; exact rl) kP_i64 rfl (by decide) kP_pr kA_sm (by decide) kP_code kA_any k_endd (HL.out.below hW))
 have HE:=hd_ (fun W (hW:Below w.heap.size w W) a0 a1 (rp:Rd W a0 (ints kP)) (rl:Rd W a1 (cellsQ [q1,q2]))=>enclose_ok W a0 a1 2 2 30 7 kP kA rp (by rw [hA]; exact rl) kP_i64 rfl (by decide) kP_pr kA_sm (by decide) kP_code (by decide) (HL.out.below hW))
 rw [k_lo7,k_hi7,← hq5,← hq6] at HE
 have hbig:3 < (dec 701955).size:=by rw [dec_size]; decide +kernel
 have HC:=hd_ (fun W (hW:Below w.heap.size w W) a0 a1 (rp:Rd W a0 (ints kP)) (rl:Rd W a1 (cellsQ [q3,q4]))=>cents_big W a0 a1 2 2 2 2 3 701955 (by decide) (by decide) (by decide) hbig (by rw [dec_size]; decide +kernel) ((certain_ok W a0 a1 2 2 30 3 kP kB rp (by rw [hB]; exact rl) kP_i64 rfl (by decide) kP_pr kB_sm (by decide) kP_code (by decide) k_end (HL.out.below hW)).mono fun e w' h=>by
  obtain ⟨n,he,hl,hb⟩:=h
  refine ⟨⟨n,?_⟩,hb⟩
  rw [k_cent hl,show itx (701955:Int)=dec 701955 from itx_nat 701955] at he
  exact he))
 have hct:(dec 701955).extract 0 ((dec 701955).size - 3) ++ ⟨#[46]⟩ ++ (dec 701955).extract ((dec 701955).size - 3) (dec 701955).size=⟨#[55,48,49,46,57,53,53]⟩:=by
  have:((dec 701955).extract 0 ((dec 701955).size - 3) ++ ⟨#[46]⟩ ++ (dec 701955).extract ((dec 701955).size - 3) (dec 701955).size).data = #[55,48,49,46,57,53,53]:=by decide +kernel
  exact ByteArray.ext this
 rw [hct] at HC
 have Hq5:=hd_ hq5
 have Hq6:=hd_ hq6
 clear hq1 hq2 hq3 hq4 hq5 hq6 hA hB hbig hct
 unfold fr fv at N1 N2 N3 N4 N5 N6 HE
 go_enter Tryz.func15,Tryz.ntmps15
 go_wp2_with fail
 refine cm_ HO.out ?_
 rintro e w1 ⟨rfl,hb⟩
 have B1:=hd_ (hb.alloc hb.size (.cells #[.int .i64 3,.int .i64 3,.string b12] 27))
 have F1:=hd_ (heap_at w1 #[.int .i64 3,.int .i64 3,.string b12] 27 _ rfl)
 clear hb HO
 go_wp2_with fail
 have hsz1:(w1.alloc (.cells #[.int .i64 3,.int .i64 3,.string b12] 27)).heap.size=w1.heap.size + 1:=by simp
 rw [← hsz1]
 generalize w1.heap.size=gb at *
 generalize w1.alloc (.cells #[.int .i64 3,.int .i64 3,.string b12] 27)=w1b at *
 clear hsz1
 have B2:=hd_ (B1.out.alloc B1.out.size (.cells #[.int .i64 2,.int .i64 3] 3))
 have FP:Hid ((w1b.alloc (.cells #[.int .i64 2,.int .i64 3] 3)).heap[w1b.heap.size]?=some (.cells #[.int .i64 2,.int .i64 3] 3 (0,0))):=heap_alloc_new w1b _
 replace F1:=hd_ (heap_old F1.out (.cells #[.int .i64 2,.int .i64 3] 3))
 clear B1
 generalize hg_:w1b.heap.size=gp at *
 generalize hw_:w1b.alloc (.cells #[.int .i64 2,.int .i64 3] 3)=w2 at *
 clear hg_ hw_
 refine cm_ (N1.out _ B2.out) ?_
 rintro e_ w3 ⟨rfl,hb_⟩
 have B3:=hd_ (B2.out.trans (hb_.mono B2.out.size))
 replace F1:=hd_ (heap_kept F1.out hb_ nr_)
 replace FP:=hd_ (heap_kept FP.out hb_ nr_)
 clear B2
 clear hb_
 go_wp2_with fail
 refine cm_ (N2.out _ B3.out) ?_
 rintro e_ w4 ⟨rfl,hb_⟩
 have B4:=hd_ (B3.out.trans (hb_.mono B3.out.size))
 replace F1:=hd_ (heap_kept F1.out hb_ nr_)
 replace FP:=hd_ (heap_kept FP.out hb_ nr_)
 clear B3
 clear hb_
 go_wp2_with fail
 have B5:=hd_ (B4.out.alloc B4.out.size (.cells #[.string (itx q1.num),.string (dec q1.den),.string (itx q2.num),.string (dec q2.den)] 42))
 have FA:Hid ((w4.alloc (.cells #[.string (itx q1.num),.string (dec q1.den),.string (itx q2.num),.string (dec q2.den)] 42)).heap[w4.heap.size]?=some (.cells #[.string (itx q1.num),.string (dec q1.den),.string (itx q2.num),.string (dec q2.den)] 42 (0,0))):=heap_alloc_new w4 _
 replace F1:=hd_ (heap_old F1.out (.cells #[.string (itx q1.num),.string (dec q1.den),.string (itx q2.num),.string (dec q2.den)] 42))
 replace FP:=hd_ (heap_old FP.out (.cells #[.string (itx q1.num),.string (dec q1.den),.string (itx q2.num),.string (dec q2.den)] 42))
 clear B4
 generalize hg_:w4.heap.size=ga at *
 generalize hw_:w4.alloc (.cells #[.string (itx q1.num),.string (dec q1.den),.string (itx q2.num),.string (dec q2.den)] 42)=w5 at *
 clear hg_ hw_
 refine cm_ (HD.out _ B5.out _ _ (rd_obj FP.out) (rd_obj FA.out)) ?_
 rintro e_ w6 ⟨n_,a_,c_,he_,hl_,hr_,hb_⟩
 have B6:=hd_ (B5.out.trans (hb_.mono B5.out.size))
 replace F1:=hd_ (heap_kept F1.out hb_ nr_)
 replace FP:=hd_ (heap_kept FP.out hb_ nr_)
 replace FA:=hd_ (heap_kept FA.out hb_ nr_)
 clear B5
 clear HD
 obtain rfl:=k_least hl_
 rw [k_dec9,k_bnd] at he_
 rw [k_bnd] at hr_
 have he2:e_ = .returned (.tuple #[.agg #[.int .i64 1,.int .i64 9,.slice a_ 2 c_],.int .i64 0]):=he_
 subst he2
 have HR:=hd_ hr_
 clear he_ hl_ hr_ hb_
 go_wp2_with fail
 have B7:=hd_ (B6.out.alloc B6.out.size (.cells #[.int .i64 1,.int .i64 9,.slice a_ 2 c_] 51))
 have FC:Hid ((w6.alloc (.cells #[.int .i64 1,.int .i64 9,.slice a_ 2 c_] 51)).heap[w6.heap.size]?=some (.cells #[.int .i64 1,.int .i64 9,.slice a_ 2 c_] 51 (0,0))):=heap_alloc_new w6 _
 replace F1:=hd_ (heap_old F1.out (.cells #[.int .i64 1,.int .i64 9,.slice a_ 2 c_] 51))
 replace FP:=hd_ (heap_old FP.out (.cells #[.int .i64 1,.int .i64 9,.slice a_ 2 c_] 51))
 replace FA:=hd_ (heap_old FA.out (.cells #[.int .i64 1,.int .i64 9,.slice a_ 2 c_] 51))
 replace HR:=hd_ (HR.out.below ((Below.refl w6.heap.size w6).alloc nr_ (.cells #[.int .i64 1,.int .i64 9,.slice a_ 2 c_] 51)) nr_)
 clear B6
 generalize hg_:w6.heap.size=gc at *
 generalize hw_:w6.alloc (.cells #[.int .i64 1,.int .i64 9,.slice a_ 2 c_] 51)=w7 at *
 clear hg_ hw_
 clear FA
 refine cm_ (N1.out _ B7.out) ?_
 rintro e_ w8 ⟨rfl,hb_⟩
 have B8:=hd_ (B7.out.trans (hb_.mono B7.out.size))
 replace F1:=hd_ (heap_kept F1.out hb_ nr_)
 replace FP:=hd_ (heap_kept FP.out hb_ nr_)
 replace FC:=hd_ (heap_kept FC.out hb_ nr_)
 replace HR:=hd_ (HR.out.below hb_ nr_)
 clear B7
 clear hb_
 go_wp2_with fail
 refine cm_ (N2.out _ B8.out) ?_
 rintro e_ w9 ⟨rfl,hb_⟩
 have B9:=hd_ (B8.out.trans (hb_.mono B8.out.size))
 replace F1:=hd_ (heap_kept F1.out hb_ nr_)
 replace FP:=hd_ (heap_kept FP.out hb_ nr_)
 replace FC:=hd_ (heap_kept FC.out hb_ nr_)
 replace HR:=hd_ (HR.out.below hb_ nr_)
 clear B8
 clear hb_
 go_wp2_with fail
 have B10:=hd_ (B9.out.alloc B9.out.size (.cells #[.string (itx q1.num),.string (dec q1.den),.string (itx q2.num),.string (dec q2.den)] 42))
 have FA:Hid ((w9.alloc (.cells #[.string (itx q1.num),.string (dec q1.den),.string (itx q2.num),.string (dec q2.den)] 42)).heap[w9.heap.size]?=some (.cells #[.string (itx q1.num),.string (dec q1.den),.string (itx q2.num),.string (dec q2.den)] 42 (0,0))):=heap_alloc_new w9 _
 replace F1:=hd_ (heap_old F1.out (.cells #[.string (itx q1.num),.string (dec q1.den),.string (itx q2.num),.string (dec q2.den)] 42))
 replace FP:=hd_ (heap_old FP.out (.cells #[.string (itx q1.num),.string (dec q1.den),.string (itx q2.num),.string (dec q2.den)] 42))
 replace FC:=hd_ (heap_old FC.out (.cells #[.string (itx q1.num),.string (dec q1.den),.string (itx q2.num),.string (dec q2.den)] 42))
 replace HR:=hd_ (HR.out.below ((Below.refl w9.heap.size w9).alloc nr_ (.cells #[.string (itx q1.num),.string (dec q1.den),.string (itx q2.num),.string (dec q2.den)] 42)) nr_)
 clear B9
 generalize hg_:w9.heap.size=ga2 at *
 generalize hw_:w9.alloc (.cells #[.string (itx q1.num),.string (dec q1.den),.string (itx q2.num),.string (dec q2.den)] 42)=w10 at *
 clear hg_ hw_
 refine cm_ (HE.out _ B10.out _ _ (rd_obj FP.out) (rd_obj FA.out)) ?_
 rintro e_ w11 ⟨rfl,hb_⟩
 have B11:=hd_ (B10.out.trans (hb_.mono B10.out.size))
 replace F1:=hd_ (heap_kept F1.out hb_ nr_)
 replace FP:=hd_ (heap_kept FP.out hb_ nr_)
 replace FC:=hd_ (heap_kept FC.out hb_ nr_)
 replace FA:=hd_ (heap_kept FA.out hb_ nr_)
 replace HR:=hd_ (HR.out.below hb_ nr_)
 clear B10
 clear hb_ HE FA N1 N2
 go_wp2_with fail
 have hz_:Hid ((w11.alloc (.cells #[.string (itx q5.num),.string (dec q5.den)] 42)).heap.size=w11.heap.size + 1):=by show _=_; simp
 have B12:=hd_ (B11.out.alloc B11.out.size (.cells #[.string (itx q5.num),.string (dec q5.den)] 42))
 have F5:Hid ((w11.alloc (.cells #[.string (itx q5.num),.string (dec q5.den)] 42)).heap[w11.heap.size]?=some (.cells #[.string (itx q5.num),.string (dec q5.den)] 42 (0,0))):=heap_alloc_new w11 _
 replace F1:=hd_ (heap_old F1.out (.cells #[.string (itx q5.num),.string (dec q5.den)] 42))
 replace FP:=hd_ (heap_old FP.out (.cells #[.string (itx q5.num),.string (dec q5.den)] 42))
 replace FC:=hd_ (heap_old FC.out (.cells #[.string (itx q5.num),.string (dec q5.den)] 42))
 replace HR:=hd_ (HR.out.below ((Below.refl w11.heap.size w11).alloc nr_ (.cells #[.string (itx q5.num),.string (dec q5.den)] 42)) nr_)
 clear B11
 generalize hg_:w11.heap.size=g5 at *
 generalize hw_:w11.alloc (.cells #[.string (itx q5.num),.string (dec q5.den)] 42)=w12 at *
 clear hg_ hw_
 have B13:=hd_ (B12.out.alloc B12.out.size (.cells #[.string (itx q6.num),.string (dec q6.den)] 42))
 have F6:Hid ((w12.alloc (.cells #[.string (itx q6.num),.string (dec q6.den)] 42)).heap[g5 + 1]?=some (.cells #[.string (itx q6.num),.string (dec q6.den)] 42 (0,0))):=by
  have h_:=heap_alloc_new w12 (.cells #[.string (itx q6.num),.string (dec q6.den)] 42)
  rw [hz_.out] at h_; exact h_
 replace F1:=hd_ (heap_old F1.out (.cells #[.string (itx q6.num),.string (dec q6.den)] 42))
 replace FP:=hd_ (heap_old FP.out (.cells #[.string (itx q6.num),.string (dec q6.den)] 42))
 replace FC:=hd_ (heap_old FC.out (.cells #[.string (itx q6.num),.string (dec q6.den)] 42))
 replace F5:=hd_ (heap_old F5.out (.cells #[.string (itx q6.num),.string (dec q6.den)] 42))
 replace HR:=hd_ (HR.out.below ((Below.refl w12.heap.size w12).alloc nr_ (.cells #[.string (itx q6.num),.string (dec q6.den)] 42)) nr_)
 clear B12 hz_
 generalize hw_:w12.alloc (.cells #[.string (itx q6.num),.string (dec q6.den)] 42)=w13 at *
 clear hw_
 refine cm_ (N3.out _ B13.out) ?_
 rintro e_ w14 ⟨rfl,hb_⟩
 have B14:=hd_ (B13.out.trans (hb_.mono B13.out.size))
 replace F1:=hd_ (heap_kept F1.out hb_ nr_)
 replace FP:=hd_ (heap_kept FP.out hb_ nr_)
 replace FC:=hd_ (heap_kept FC.out hb_ nr_)
 replace F5:=hd_ (heap_kept F5.out hb_ nr_)
 replace F6:=hd_ (heap_kept F6.out hb_ nr_)
 replace HR:=hd_ (HR.out.below hb_ nr_)
 clear B13
 clear hb_
 go_wp2_with fail
 refine cm_ (N4.out _ B14.out) ?_
 rintro e_ w15 ⟨rfl,hb_⟩
 have B15:=hd_ (B14.out.trans (hb_.mono B14.out.size))
 replace F1:=hd_ (heap_kept F1.out hb_ nr_)
 replace FP:=hd_ (heap_kept FP.out hb_ nr_)
 replace FC:=hd_ (heap_kept FC.out hb_ nr_)
 replace F5:=hd_ (heap_kept F5.out hb_ nr_)
 replace F6:=hd_ (heap_kept F6.out hb_ nr_)
 replace HR:=hd_ (HR.out.below hb_ nr_)
 clear B14
 clear hb_
 go_wp2_with fail
 have B16:=hd_ (B15.out.alloc B15.out.size (.cells #[.string (itx q3.num),.string (dec q3.den),.string (itx q4.num),.string (dec q4.den)] 42))
 have FA:Hid ((w15.alloc (.cells #[.string (itx q3.num),.string (dec q3.den),.string (itx q4.num),.string (dec q4.den)] 42)).heap[w15.heap.size]?=some (.cells #[.string (itx q3.num),.string (dec q3.den),.string (itx q4.num),.string (dec q4.den)] 42 (0,0))):=heap_alloc_new w15 _
 replace F1:=hd_ (heap_old F1.out (.cells #[.string (itx q3.num),.string (dec q3.den),.string (itx q4.num),.string (dec q4.den)] 42))
 replace FP:=hd_ (heap_old FP.out (.cells #[.string (itx q3.num),.string (dec q3.den),.string (itx q4.num),.string (dec q4.den)] 42))
 replace FC:=hd_ (heap_old FC.out (.cells #[.string (itx q3.num),.string (dec q3.den),.string (itx q4.num),.string (dec q4.den)] 42))
 replace F5:=hd_ (heap_old F5.out (.cells #[.string (itx q3.num),.string (dec q3.den),.string (itx q4.num),.string (dec q4.den)] 42))
 replace F6:=hd_ (heap_old F6.out (.cells #[.string (itx q3.num),.string (dec q3.den),.string (itx q4.num),.string (dec q4.den)] 42))
 replace HR:=hd_ (HR.out.below ((Below.refl w15.heap.size w15).alloc nr_ (.cells #[.string (itx q3.num),.string (dec q3.den),.string (itx q4.num),.string (dec q4.den)] 42)) nr_)
 clear B15
 generalize hg_:w15.heap.size=ga3 at *
 generalize hw_:w15.alloc (.cells #[.string (itx q3.num),.string (dec q3.den),.string (itx q4.num),.string (dec q4.den)] 42)=w16 at *
 clear hg_ hw_
 refine cm_ (HC.out _ B16.out _ _ (rd_obj FP.out) (rd_obj FA.out)) ?_
 rintro e_ w17 ⟨rfl,hb_⟩
 have B17:=hd_ (B16.out.trans (hb_.mono B16.out.size))
 replace F1:=hd_ (heap_kept F1.out hb_ nr_)
 replace FP:=hd_ (heap_kept FP.out hb_ nr_)
 replace FC:=hd_ (heap_kept FC.out hb_ nr_)
 replace F5:=hd_ (heap_kept F5.out hb_ nr_)
 replace F6:=hd_ (heap_kept F6.out hb_ nr_)
 replace FA:=hd_ (heap_kept FA.out hb_ nr_)
 replace HR:=hd_ (HR.out.below hb_ nr_)
 clear B16
 clear hb_ HC FA N3 N4 FP
 go_wp2_with fail
 obtain ⟨k0,k1,k2,-⟩:=three_cells F1.out
 obtain ⟨k3,k4,k5,-⟩:=three_cells FC.out
 obtain ⟨k6,k7,-,-⟩:=two_cells F5.out
 obtain ⟨k8,k9,-,-⟩:=two_cells F6.out
 obtain ⟨br,orr,rfl,hbr,hrow⟩:=HR.out.open (by decide)
 have kr:w17.cell? ⟨br,orr + 5,none⟩=some (.string (dec 811)):=hrow 5 _ rfl
 have q0:=NW.cell k0
 have q1:=NW.cell k1
 have q2:=NW.cell k2
 have q3:=NW.cell k3
 have q4:=NW.cell k4
 have q5':=NW.cell k5
 have q6':=NW.cell k6
 have q7:=NW.cell k7
 have q8:=NW.cell k8
 have q9:=NW.cell k9
 have qr:=NW.cell kr
 have e811:(dec 811)=⟨#[56,49,49]⟩:=by
  have:(dec 811).data = #[56,49,49]:=by decide +kernel
  exact ByteArray.ext this
 have e12:b12=⟨#[49,50]⟩:=by
  rw [← Hb12.out]
  have:(dec 12).data = #[49,50]:=by decide +kernel
  exact ByteArray.ext this
 rw [e811] at qr
 rw [e12] at q2
 have hnon:Nonempty (NW w17):=⟨⟨w17,Below.refl _ _⟩⟩
 have I:Hid (Below w17.heap.size w17 w17.drew):=(Below.refl _ _).drew
 clear k0 k1 k2 k3 k4 k5 k6 k7 k8 k9 kr hrow e811 e12 hbr HR F1 FC F5 F6
 refine RP.wp_region_readers 57 [(2,0),(2,1),(2,2),(1,3),(2,4),(2,5),(2,6),(2,7),(2,8),(2,9),(2,10),(2,11),(2,12),(1,13),(2,14),(2,15),(2,16),(2,17),(1,18),(2,19),(2,20),(2,21),(2,22),(1,23),(2,24),(2,25),(2,26),(2,27),(2,28),(1,29),(2,30),(2,31),(1,32),(2,33),(2,34),(2,35),(2,36),(2,37),(2,38),(2,39),(1,40),(0,41),(2,42),(2,43),(2,44),(1,45),(0,46),(2,47),(2,48),(2,49),(2,50),(2,51),(2,52),(2,53),(2,54),(2,55),(2,56),(0,57)] (fun w'=>∃ p:NW w17,w'=p.w) (by kernel_rfl) (by kernel_rfl) ?_ ?_
 ·exact ⟨⟨_,I.out⟩,rfl⟩
 refine RP.walkR_any ?_
 simp only [dz_,tsc_,tz_]
 first | go_big_quiet_step (fail) | quiet_step (fail)
 refine wpQuiet_nil ?_
 refine RP.walkR_any ?_
 simp only [dsc_,dz_,tsc_,tz_]
 first | go_big_quiet_step (fail) | quiet_step (fail)
 refine wpQuiet_nil ?_
 refine RP.walkR_any ?_
 simp only [dsc_,dz_,tsc_,tz_]
 first | go_big_quiet_step (fail) | quiet_step (fail)
 refine wpQuiet_nil ?_
 refine RP.walkR_read ?_
 simp only [dsc_,dz_,tsc_,tz_]
 first | go_big_quiet_step (fail) | quiet_step (fail)
 refine wpQuiet_nil ?_
 refine RP.walkR_any ?_
 simp only [dsc_,dz_,tsc_,tz_]
 first | go_big_quiet_step (fail) | quiet_step (fail)
 refine wpQuiet_nil ?_
 refine RP.walkR_any ?_
 simp only [dsc_,dz_,tsc_,tz_]
 refine BigFrame.wpQuiet_want rfl fun K hK=>quiet_eqlBd _ _ _ 3 3 3 3 _ _ rfl rfl rfl (hK _ ?_)
 refine wpQuiet_nil ?_
 refine RP.walkR_any ?_
 simp only [dsc_,dz_,tsc_,tz_]
 first | go_big_quiet_step (fail) | quiet_step (fail)
 refine wpQuiet_nil ?_
 refine RP.walkR_any ?_
 simp only [dsc_,dz_,tsc_,tz_]
 first | go_big_quiet_step (fail) | quiet_step (fail)
 refine wpQuiet_nil ?_
 refine RP.walkR_any ?_
 simp only [dsc_,dz_,tsc_,tz_]
 first | go_big_quiet_step (fail) | quiet_step (fail)
 refine wpQuiet_nil ?_
 refine RP.walkR_any ?_
 simp only [dsc_,dz_,tsc_,tz_]
 first | go_big_quiet_step (fail) | quiet_step (fail)
 refine wpQuiet_nil ?_
 refine RP.walkR_any ?_
 simp only [dsc_,dz_,tsc_,tz_]
 first | go_big_quiet_step (fail) | quiet_step (fail)
 refine wpQuiet_nil ?_
 refine RP.walkR_any ?_
 simp only [dsc_,dz_,tsc_,tz_]
 first | go_big_quiet_step (fail) | quiet_step (fail)
 refine wpQuiet_nil ?_
 refine RP.walkR_any ?_
 simp only [dsc_,dz_,tsc_,tz_]
 first | go_big_quiet_step (fail) | quiet_step (fail)
 refine wpQuiet_nil ?_
 refine RP.walkR_read ?_
 simp only [dsc_,dz_,tsc_,tz_]
 first | go_big_quiet_step (fail) | quiet_step (fail)
 refine wpQuiet_nil ?_
 refine RP.walkR_any ?_
 simp only [dsc_,dz_,tsc_,tz_]
 first | go_big_quiet_step (fail) | quiet_step (fail)
 refine wpQuiet_nil ?_
 refine RP.walkR_any ?_
 simp only [dsc_,dz_,tsc_,tz_]
 first | go_big_quiet_step (fail) | quiet_step (fail)
 refine wpQuiet_nil ?_
 refine RP.walkR_any ?_
 simp only [dsc_,dz_,tsc_,tz_]
 first | go_big_quiet_step (fail) | quiet_step (fail)
 refine wpQuiet_nil ?_
 refine RP.walkR_any ?_
 simp only [dsc_,dz_,tsc_,tz_]
 first | go_big_quiet_step (fail) | quiet_step (fail)
 refine wpQuiet_nil ?_
 refine RP.walkR_read ?_
 simp only [dsc_,dz_,tsc_,tz_]
 first | go_big_quiet_step (fail) | quiet_step (fail)
 refine wpQuiet_nil ?_
 refine RP.walkR_any ?_
 simp only [dsc_,dz_,tsc_,tz_]
 first | go_big_quiet_step (fail) | quiet_step (fail)
 refine wpQuiet_nil ?_
 refine RP.walkR_any ?_
 simp only [dsc_,dz_,tsc_,tz_]
 first | go_big_quiet_step (fail) | quiet_step (fail)
 refine wpQuiet_nil ?_
 refine RP.walkR_any ?_
 simp only [dsc_,dz_,tsc_,tz_]
 first | go_big_quiet_step (fail) | quiet_step (fail)
 refine wpQuiet_nil ?_
 refine RP.walkR_any ?_
 simp only [dsc_,dz_,tsc_,tz_]
 first | go_big_quiet_step (fail) | quiet_step (fail)
 refine wpQuiet_nil ?_
 refine RP.walkR_read ?_
 simp only [dsc_,dz_,tsc_,tz_]
 first | go_big_quiet_step (fail) | quiet_step (fail)
 refine wpQuiet_nil ?_
 refine RP.walkR_any ?_
 simp only [dsc_,dz_,tsc_,tz_]
 first | go_big_quiet_step (fail) | quiet_step (fail)
 refine wpQuiet_nil ?_
 refine RP.walkR_any ?_
 simp only [dsc_,dz_,tsc_,tz_]
 first | go_big_quiet_step (fail) | quiet_step (fail)
 refine wpQuiet_nil ?_
 refine RP.walkR_any ?_
 simp only [dsc_,dz_,tsc_,tz_]
 first | go_big_quiet_step (fail) | quiet_step (fail)
 refine wpQuiet_nil ?_
 refine RP.walkR_any ?_
 simp only [dsc_,dz_,tsc_,tz_]
 first | go_big_quiet_step (fail) | quiet_step (fail)
 refine wpQuiet_nil ?_
 refine RP.walkR_any ?_
 simp only [dsc_,dz_,tsc_,tz_]
 first | go_big_quiet_step (fail) | quiet_step (fail)
 refine wpQuiet_nil ?_
 refine RP.walkR_read ?_
 simp only [dsc_,dz_,tsc_,tz_]
 first | go_big_quiet_step (fail) | quiet_step (fail)
 refine wpQuiet_nil ?_
 refine RP.walkR_any ?_
 simp only [dsc_,dz_,tsc_,tz_]
 first | go_big_quiet_step (fail) | quiet_step (fail)
 refine wpQuiet_nil ?_
 refine RP.walkR_any ?_
 simp only [dsc_,dz_,tsc_,tz_]
 first | go_big_quiet_step (fail) | quiet_step (fail)
 refine wpQuiet_nil ?_
 refine RP.walkR_read ?_
 simp only [dsc_,dz_,tsc_,tz_]
 first | go_big_quiet_step (fail) | quiet_step (fail)
 refine wpQuiet_nil ?_
 refine RP.walkR_any ?_
 simp only [dsc_,dz_,tsc_,tz_]
 first | go_big_quiet_step (fail) | quiet_step (fail)
 refine wpQuiet_nil ?_
 refine RP.walkR_any ?_
 simp only [dsc_,dz_,tsc_,tz_]
 first | go_big_quiet_step (fail) | quiet_step (fail)
 refine wpQuiet_nil ?_
 refine RP.walkR_any ?_
 simp only [dsc_,dz_,tsc_,tz_]
 first | go_big_quiet_step (fail) | quiet_step (fail)
 refine wpQuiet_nil ?_
 refine RP.walkR_any ?_
 simp only [dsc_,dz_,tsc_,tz_]
 first | go_big_quiet_step (fail) | quiet_step (fail)
 refine wpQuiet_nil ?_
 refine RP.walkR_any ?_
 simp only [dsc_,dz_,tsc_,tz_]
 first | go_big_quiet_step (fail) | quiet_step (fail)
 refine wpQuiet_nil ?_
 refine RP.walkR_any ?_
 simp only [dsc_,dz_,tsc_,tz_]
 first | go_big_quiet_step (fail) | quiet_step (fail)
 refine wpQuiet_nil ?_
 refine RP.walkR_any ?_
 simp only [dsc_,dz_,tsc_,tz_]
 first | go_big_quiet_step (fail) | quiet_step (fail)
 refine wpQuiet_nil ?_
 refine RP.walkR_read ?_
 simp only [dsc_,dz_,tsc_,tz_]
 first | go_big_quiet_step (fail) | quiet_step (fail)
 refine wpQuiet_nil ?_
 refine RP.walkR_move ?_
 simp only [dsc_,dz_,tsc_,tz_]
 go_wp2_with fail
 refine cm_ (N5.out _ (B17.out.trans (I.out.mono B17.out.size))) ?_
 rintro e_ y1 ⟨rfl,hb_⟩
 have J1:Hid (Below w17.heap.size w17 y1):=I.out.trans (hb_.mono I.out.size)
 clear hb_ I
 go_wp2_with fail
 refine ⟨⟨⟨_,J1.out⟩,rfl⟩,?_⟩
 refine RP.walkR_any ?_
 simp only [dsc_,dz_,tsc_,tz_]
 refine BigFrame.wpQuiet_want rfl fun K hK=>quiet_eqlQ _ _ _ q5 q5 rfl rfl rfl (hK _ ?_)
 refine wpQuiet_nil ?_
 refine RP.walkR_any ?_
 simp only [dsc_,dz_,tsc_,tz_]
 first | go_big_quiet_step (fail) | quiet_step (fail)
 refine wpQuiet_nil ?_
 refine RP.walkR_any ?_
 simp only [dsc_,dz_,tsc_,tz_]
 first | go_big_quiet_step (fail) | quiet_step (fail)
 refine wpQuiet_nil ?_
 refine RP.walkR_read ?_
 simp only [dsc_,dz_,tsc_,tz_]
 first | go_big_quiet_step (fail) | quiet_step (fail)
 refine wpQuiet_nil ?_
 clear hnon q0 q1 q2 q3 q4 q5' q6' q7 q8 q9 qr
 refine RP.walkR_move ?_
 simp only [dsc_,dz_,tsc_,tz_]
 go_wp2_with fail
 refine cm_ (N6.out _ (B17.out.trans (J1.out.mono B17.out.size))) ?_
 rintro e_ y2 ⟨rfl,hb_⟩
 have J2:Hid (Below w17.heap.size w17 y2):=J1.out.trans (hb_.mono J1.out.size)
 clear hb_ J1
 go_wp2_with fail
 refine ⟨⟨⟨_,J2.out⟩,rfl⟩,?_⟩
 refine RP.walkR_any ?_
 simp only [dsc_,dz_,tsc_,tz_]
 refine BigFrame.wpQuiet_want rfl fun K hK=>quiet_eqlQ _ _ _ q6 q6 rfl rfl rfl (hK _ ?_)
 refine wpQuiet_nil ?_
 refine RP.walkR_any ?_
 simp only [dsc_,dz_,tsc_,tz_]
 first | go_big_quiet_step (fail) | quiet_step (fail)
 refine wpQuiet_nil ?_
 refine RP.walkR_any ?_
 simp only [dsc_,dz_,tsc_,tz_]
 first | go_big_quiet_step (fail) | quiet_step (fail)
 refine wpQuiet_nil ?_
 refine RP.walkR_any ?_
 simp only [dsc_,dz_,tsc_,tz_]
 first | go_big_quiet_step (fail) | quiet_step (fail)
 refine wpQuiet_nil ?_
 refine RP.walkR_any ?_
 simp only [dsc_,dz_,tsc_,tz_]
 first | go_big_quiet_step (fail) | quiet_step (fail)
 refine wpQuiet_nil ?_
 refine RP.walkR_any ?_
 simp only [dsc_,dz_,tsc_,tz_]
 first | go_big_quiet_step (fail) | quiet_step (fail)
 refine wpQuiet_nil ?_
 refine RP.walkR_any ?_
 simp only [dsc_,dz_,tsc_,tz_]
 first | go_big_quiet_step (fail) | quiet_step (fail)
 refine wpQuiet_nil ?_
 refine RP.walkR_any ?_
 simp only [dsc_,dz_,tsc_,tz_]
 first | go_big_quiet_step (fail) | quiet_step (fail)
 refine wpQuiet_nil ?_
 refine RP.walkR_any ?_
 simp only [dsc_,dz_,tsc_,tz_]
 first | go_big_quiet_step (fail) | quiet_step (fail)
 refine wpQuiet_nil ?_
 refine RP.walkR_any ?_
 simp only [dsc_,dz_,tsc_,tz_]
 first | go_big_quiet_step (fail) | quiet_step (fail)
 refine wpQuiet_nil ?_
 refine RP.walkR_move ?_
 simp only [dsc_,dz_,tsc_,tz_]
 go_wp2_with fail
 simp only [RP.walkR]
 go_wp2_with fail
 go_ret
 exact ⟨rfl,B17.out.trans (J2.out.mono B17.out.size)⟩
end Go.Proofs.YtnjedhgcfeoemaaGreatDoor

namespace Go.Proofs.YtnjedhgcfeoemaaGreatDoor
open Go.RowKit
theorem subz_any (w:World) (a b:Int) (ha:ZNum a) (hb:ZNum b) (hab:Num (a.natAbs + b.natAbs)) (L:Laid w) :
  Gives Tryz.prog 19 #[.string (itx a),.string (itx b)] w (.string (itx (a - b))):=by
 unfold Gives
 have HN:=hd_ (neg_any w b hb)
 have HA:=hd_ (fun W (hW:Below w.heap.size w W)=>addz_any W a (-b) ha (show Num _ from by rw [Int.natAbs_neg]; exact hb) (by rw [Int.natAbs_neg]; exact hab) (L.below hW))
 rw [← Int.sub_eq_add_neg] at HA
 clear ha hb hab L
 generalize itx (-b)=nb at *
 generalize itx b=sb at *
 generalize itx a=sa at *
 generalize itx (a - b)=sd at *
 go_enter Tryz.func19,Tryz.ntmps19
 go_wp2_with fail
 refine cm_ HN.out ?_
 rintro e w1 ⟨rfl,hb⟩
 have B1:=hd_ hb
 clear hb HN
 go_wp2_with fail
 refine cm_ (HA.out _ B1.out) ?_
 rintro e w2 ⟨rfl,hb⟩
 have B2:=hd_ (B1.out.trans (hb.mono B1.out.size))
 clear hb HA
 go_wp2_with fail
 go_ret
 exact ⟨rfl,B2.out⟩
theorem grow_dec {q k:Nat} (hq:q=2∨q∈oddP) (hk:k + 1≤1056):((lgN q (k + 1):Nat):Int) - ((lgN q k + lgN q k:Nat):Int)=0∨((lgN q (k + 1):Nat):Int) - ((lgN q k + lgN q k:Nat):Int)=1:=by
 rcases hq with rfl | hq
 ·left
  have h1:=lgN_two k
  have h2:=lgN_two (k + 1)
  have e:((2:Nat):Int)=2:=rfl
  rw [e,h1,h2,Nat.pow_succ]
  omega
 ·rcases lgN_step hq hk with h | h
  ·left; rw [h]; omega
  ·right; rw [h]; omega
theorem lawGro (w:World) (pn bn:Nat) (hp:pn < 256) (hb:bn < 65536) (L:Laid w) :
  Gives Tryz.prog 3 #[.int .u8 pn,.int .u16 bn] w (.bool true):=by
 unfold Gives
 have HK:=hd_ (known14_ok w L)
 have HL:=hd_ L
 clear L
 obtain ⟨n,hn⟩:∃ n,pn % 98=n:=⟨_,rfl⟩
 obtain ⟨k,hk⟩:∃ k,bn % 900=k:=⟨_,rfl⟩
 have hnb:n < 98:=by omega
 have hkb:k < 900:=by omega
 have r1:Int.tmod (pn:Int) 98=(n:Nat):=by rw [Int.tmod_eq_emod_of_nonneg (by omega)]; omega
 have r1':(pn:Int) % 98=(n:Nat):=by omega
 have r2:Int.tmod (bn:Int) 900=(k:Nat):=by rw [Int.tmod_eq_emod_of_nonneg (by omega)]; omega
 have r2':(bn:Int) % 900=(k:Nat):=by omega
 have w1:IntKind.i64.wrap (n:Int)=(n:Int):=iw_ _ (by omega)
 have w2:IntKind.i64.wrap (k:Int)=(k:Int):=iw_ _ (by omega)
 have w3:IntKind.i64.wrap ((k:Int) + 1)=(k:Int) + 1:=iw_ _ (by omega)
 have HP:=hd_ (fun W=>isPrime_any W n (by omega))
 by_cases hpr:IsP n
 ·rw [decide_eq_true hpr] at HP
  have hpz:IsPz (n:Int):=⟨by omega,by rw [Int.toNat_natCast]; exact hpr⟩
  obtain ⟨q,hq,hq2⟩:=isPz_pr hpz
  obtain rfl:n=q:=by omega
  have H1:=hd_ (fun W (hW:Below w.heap.size w W)=>eOf_ok W n k hq2 hpz (by omega) (HL.out.below hW))
  have H2:=hd_ (fun W (hW:Below w.heap.size w W)=>eOf_ok W n (k + 1) hq2 hpz (by omega) (HL.out.below hW))
  have H3:=hd_ (fun W (hW:Below w.heap.size w W)=>eOf_ok W 2 k (.inl rfl) (by decide +kernel) (by omega) (HL.out.below hW))
  rw [show ((2:Nat):Int)=2 from rfl,lgN_two] at H3
  have H4:=hd_ (fun W (hW:Below w.heap.size w W)=>wpow2 W k (by omega) (HL.out.below hW))
  have hb1:=lg_k10 hq2 (show k≤1000 by omega)
  have hb2:=lg_k10 hq2 (show k + 1≤1000 by omega)
  have hK1:2 ^ (K10 + 1)=2 * 2 ^ K10:=by rw [Nat.pow_succ,Nat.mul_comm]
  have H5:=hd_ (fun W (hW:Below w.heap.size w W)=>addD W (lgN n k) (lgN n k) K10 (by decide) (by omega) (by omega) (HL.out.below hW))
  have H6:=hd_ (fun W (hW:Below w.heap.size w W)=>subz_any W ((lgN n (k + 1):Nat):Int) ((lgN n k + lgN n k:Nat):Int) (show Num _ from num_two (K:=K10 + 2) (by rw [Int.natAbs_natCast,Nat.pow_succ,hK1]; omega) (by decide)) (show Num _ from num_two (K:=K10 + 2) (by rw [Int.natAbs_natCast,Nat.pow_succ,hK1]; omega) (by decide)) (num_two (K:=K10 + 2) (by rw [Int.natAbs_natCast,Int.natAbs_natCast,Nat.pow_succ,hK1]; omega) (by decide)) (HL.out.below hW))
  rw [itx_nat,itx_nat] at H6
  have hd:=grow_dec hq2 (show k + 1≤1056 by omega)
  have hdt:itx (((lgN n (k + 1):Nat):Int) - ((lgN n k + lgN n k:Nat):Int))=⟨#[48]⟩∨itx (((lgN n (k + 1):Nat):Int) - ((lgN n k + lgN n k:Nat):Int))=⟨#[49]⟩:=by
   rcases hd with h | h
   ·left; rw [h]; exact zero_txt.1
   ·right; rw [h,show itx 1=dec 1 from itx_nat 1,dec_one]
  have Hdt:=hd_ hdt
  clear hb1 hb2 hK1 hd hdt hpr hpz hq hq2 hn hk
  unfold bndV at H1 H2 H3
  rw [Int.natCast_succ] at H2
  generalize itx (((lgN n (k + 1):Nat):Int) - ((lgN n k + lgN n k:Nat):Int))=sd at *
  generalize dec (lgN n k + lgN n k)=s2 at *
  generalize dec (lgN n k)=sa at *
  generalize dec (lgN n (k + 1))=sb at *
  generalize dec (2 ^ k)=sp at *
  go_enter Tryz.func3,Tryz.ntmps3
  go_wp2_with fail
  refine cm_ HK.out ?_
  rintro e x1 ⟨rfl,hbx⟩
  have B1:=hd_ hbx
  clear hbx HK
  go_wp2_with fail
  refine cm_ (HP.out _) ?_
  rintro e x2 ⟨rfl,hbx⟩
  have B2:=hd_ (B1.out.trans (hbx.mono B1.out.size))
  clear hbx HP B1
  go_wp2_with fail
  refine cm_ (H1.out _ B2.out) ?_
  rintro e x3 ⟨rfl,hbx⟩
  have B3:=hd_ (B2.out.trans (hbx.mono B2.out.size))
  have B3a:=hd_ (B3.out.alloc B3.out.size (.cells #[.int .i64 n,.int .i64 k,.string sa] 27))
  have F1:Hid ((x3.alloc (.cells #[.int .i64 n,.int .i64 k,.string sa] 27)).heap[x3.heap.size]?=some (.cells #[.int .i64 n,.int .i64 k,.string sa] 27 (0,0))):=heap_alloc_new x3 _
  clear hbx H1 B2 B3
  go_wp2_with fail
  generalize x3.alloc (.cells #[.int .i64 n,.int .i64 k,.string sa] 27)=x4 at *
  generalize x3.heap.size=g1 at *
  refine cm_ (H2.out _ B3a.out) ?_
  rintro e x5 ⟨rfl,hbx⟩
  have B5:=hd_ (B3a.out.trans (hbx.mono B3a.out.size))
  replace F1:=hd_ (heap_old (heap_kept F1.out hbx nr_) (.cells #[.int .i64 n,.int .i64 ((k:Int) + 1),.string sb] 27))
  have B6:=hd_ (B5.out.alloc B5.out.size (.cells #[.int .i64 n,.int .i64 ((k:Int) + 1),.string sb] 27))
  have F2:Hid ((x5.alloc (.cells #[.int .i64 n,.int .i64 ((k:Int) + 1),.string sb] 27)).heap[x5.heap.size]?=some (.cells #[.int .i64 n,.int .i64 ((k:Int) + 1),.string sb] 27 (0,0))):=heap_alloc_new x5 _
  clear hbx H2 B3a B5
  go_wp2_with fail
  generalize x5.alloc (.cells #[.int .i64 n,.int .i64 ((k:Int) + 1),.string sb] 27)=x6 at *
  generalize x5.heap.size=g2 at *
  refine cm_ (H3.out _ B6.out) ?_
  rintro e x7 ⟨rfl,hbx⟩
  have B7:=hd_ (B6.out.trans (hbx.mono B6.out.size))
  replace F1:=hd_ (heap_old (heap_kept F1.out hbx nr_) (.cells #[.int .i64 2,.int .i64 k,.string sp] 27))
  replace F2:=hd_ (heap_old (heap_kept F2.out hbx nr_) (.cells #[.int .i64 2,.int .i64 k,.string sp] 27))
  have B8:=hd_ (B7.out.alloc B7.out.size (.cells #[.int .i64 2,.int .i64 k,.string sp] 27))
  have F3:Hid ((x7.alloc (.cells #[.int .i64 2,.int .i64 k,.string sp] 27)).heap[x7.heap.size]?=some (.cells #[.int .i64 2,.int .i64 k,.string sp] 27 (0,0))):=heap_alloc_new x7 _
  clear hbx H3 B6 B7
  go_wp2_with fail
  generalize x7.alloc (.cells #[.int .i64 2,.int .i64 k,.string sp] 27)=x8 at *
  generalize x7.heap.size=g3 at *
  refine cm_ (H4.out _ B8.out) ?_
  rintro e x9 ⟨rfl,hbx⟩
  have B9:=hd_ (B8.out.trans (hbx.mono B8.out.size))
  obtain ⟨-,-,a2,-⟩:=three_cells (heap_kept F1.out hbx nr_)
  obtain ⟨-,-,b2,-⟩:=three_cells (heap_kept F2.out hbx nr_)
  obtain ⟨-,-,c2,-⟩:=three_cells (heap_kept F3.out hbx nr_)
  have qa:=NW.cell a2
  have qb:=NW.cell b2
  clear hbx H4 B8 F1 F2 F3 a2 b2
  have hnon:Nonempty (NW x9):=⟨⟨x9,Below.refl _ _⟩⟩
  have I:Hid (Below x9.heap.size x9 x9.drew):=(Below.refl _ _).drew
  go_wp2_with fail
  refine RP.wp_region_readers 7 [(2,0),(1,1),(2,2),(1,3),(2,4),(1,5),(0,6),(0,7),(2,8)] (fun w'=>∃ p:NW x9,w'=p.w) (by kernel_rfl) (by kernel_rfl) ?_ ?_
  ·exact ⟨⟨_,I.out⟩,rfl⟩
  iterate 1 (refine RP.walkR_any ?_; simp only [dz_,tsc_,tz_]; go_big_quiet_step (fail); refine wpQuiet_nil ?_)
  iterate 1 (refine RP.walkR_read ?_; simp only [dsc_,dz_,tsc_,tz_]; go_big_quiet_step (fail); refine wpQuiet_nil ?_)
  iterate 1 (refine RP.walkR_any ?_; simp only [dsc_,dz_,tsc_,tz_]; go_big_quiet_step (fail); refine wpQuiet_nil ?_)
  iterate 1 (refine RP.walkR_read ?_; simp only [dsc_,dz_,tsc_,tz_]; go_big_quiet_step (fail); refine wpQuiet_nil ?_)
  iterate 1 (refine RP.walkR_any ?_; simp only [dsc_,dz_,tsc_,tz_]; go_big_quiet_step (fail); refine wpQuiet_nil ?_)
  iterate 1 (refine RP.walkR_read ?_; simp only [dsc_,dz_,tsc_,tz_]; go_big_quiet_step (fail); refine wpQuiet_nil ?_)
  clear hnon qa qb c2
  refine RP.walkR_move ?_
  simp only [dsc_,dz_,tsc_,tz_]
  go_wp2_with fail
  refine cm_ (H5.out _ (B9.out.trans (I.out.mono B9.out.size))) ?_
  rintro e y1 ⟨rfl,hbx⟩
  have I1:Hid (Below x9.heap.size x9 y1):=I.out.trans (hbx.mono I.out.size)
  clear hbx I H5
  go_wp2_with fail
  refine ⟨⟨⟨_,I1.out⟩,rfl⟩,?_⟩
  refine RP.walkR_move ?_
  simp only [dsc_,dz_,tsc_,tz_]
  go_wp2_with fail
  refine cm_ (H6.out _ (B9.out.trans (I1.out.mono B9.out.size))) ?_
  rintro e y2 ⟨rfl,hbx⟩
  have I2:Hid (Below w.heap.size w y2):=B9.out.trans ((I1.out.trans (hbx.mono I1.out.size)).mono B9.out.size)
  clear hbx I1 H6
  go_wp2_with fail
  iterate 1 (refine RP.walkR_any ?_; simp only [dsc_,dz_,tsc_,tz_]; go_big_quiet_step (fail); refine wpQuiet_nil ?_)
  simp only [RP.walkR]
  rcases Hdt.out with rfl | rfl
  all_goals
   clear Hdt
   go_wp2_with fail
   go_ret
   exact ⟨rfl,I2.out⟩
 ·rw [decide_eq_false hpr] at HP
  clear hpr hn hk HL
  go_enter Tryz.func3,Tryz.ntmps3
  go_wp2_with fail
  refine cm_ HK.out ?_
  rintro e x1 ⟨rfl,hbx⟩
  have B1:=hd_ hbx
  clear hbx HK
  go_wp2_with fail
  refine cm_ (HP.out _) ?_
  rintro e x2 ⟨rfl,hbx⟩
  have B2:=hd_ (B1.out.trans (hbx.mono B1.out.size))
  clear hbx HP B1
  go_wp2_with fail
  go_ret
  exact ⟨rfl,B2.out⟩
end Go.Proofs.YtnjedhgcfeoemaaGreatDoor

namespace Go.Proofs.YtnjedhgcfeoemaaGreatDoor
open Go.ChangeShapes Go.WideShapes Go.ChangeAt Go.RowKit
theorem enclosureGrows_lifted (os:Os) (started:os.Started) (H:Type) (enc:TypeId×Value→H) :
  ReturnsInHanded {} Tryz.checked os 3 .any (fun w args=>(Rows.enclosureGrowsSpec.pre enc Tryz.prog Tryz.f3 [] false w args∧laidMetH Tryz.prog laidL w)∧sizedMet enc Tryz.prog Tryz.f3 (OpenSpec.ofChange Rows.enclosureGrowsSpec) false w args)
   (Rows.enclosureGrowsSpec.post enc Tryz.prog Tryz.f3 false true false false):=by
 refine returnsInHanded_of_change_and (C:=Tryz.checked) (X:=fun w _=>laidMetH Tryz.prog laidL w) (fun _ _ _ hh h=>h.of_heap hh) own started (by kernel_rfl) Tryz.func3
  (ChangeSpec.witness_shaped (enc:=enc) (C:=Tryz.checked) (os:=os) (X:=fun w _=>laidMetH Tryz.prog laidL w) false (World.doorLaid Tryz.prog 400 os) #[.int .u8 0,.int .u16 0] 8 rfl (World.shaped_of_RefB (by kernel_rfl) (by kernel_rfl)) (by kernel_rfl) (by kernel_rfl) (by kernel_rfl) (door_met os _)) ?_
 intro W base args ds gs before hval0 hW _ _ hL _
 have hval:∀ (j:Nat) t v,Tryz.f3.params[j]?=some t→args[j]?=some v→Value.okWide Tryz.prog W .any base t v:=hval0
 have hW':=hW
 obtain ⟨p,q,hA0,hV,rfl,hfz,hnd⟩:=hW
 have hA:DataW.TrodAll enc Tryz.prog W 0 (fun _=>true) true Tryz.f3.params.toList args.toList ds p:=hA0
 rw [Tryz.params3] at hA hval
 obtain ⟨v0,vs0,d0,ds0,p0,q0,hargs,rfl,rfl,h0,r0⟩:=trodAll_cons hA
 obtain ⟨v1,vs1,d1,ds1,p1,q1,rfl,rfl,rfl,h1,r1⟩:=trodAll_cons r0
 obtain ⟨rfl,rfl,rfl⟩:=trodAll_nil r1
 obtain rfl:args = #[v0,v1]:=by cases args; simp_all
 obtain ⟨rfl,rfl⟩:=trodVars_none hV
 have k0:=h0
 have lt0:∀ x∈p0,x.block < W.heap.size:=by obtain ⟨m,hm⟩:=k0; exact DataW.trod_lt m _ _ _ hm
 have k1:=h1
 have lt1:∀ x∈p1,x.block < W.heap.size:=by obtain ⟨m,hm⟩:=k1; exact DataW.trod_lt m _ _ _ hm
 obtain ⟨na,rfl,rfl,rfl,wa⟩:=open_int Tryz.underlying5 (hval 0 5 v0 rfl rfl) h0
 obtain ⟨nb,rfl,rfl,rfl,wb⟩:=open_int Tryz.underlying22 (hval 1 22 v1 rfl rfl) h1
 have wa':=bounds_u8 wa
 have wb':=bounds_u16 wb
 obtain ⟨pn,rfl⟩:=Int.eq_ofNat_of_zero_le wa'.1
 obtain ⟨bn,rfl⟩:=Int.eq_ofNat_of_zero_le wb'.1
 clear hA0 hval0
 refine (lawGro W pn bn (by omega) (by omega) (laid_of hL)).mono fun e W' ⟨he,bel⟩=>?_
 subst he
 exact ⟨_,rfl,_,_,_,[],_,[],hW',trodAll_mk1 (shut_bool Tryz.underlying4 _),(trodAll_cons_mk (Below.trod laidOut (by kernel_rfl) (of_decide_eq_true (by kernel_rfl)) k0 bel lt0) (trodAll_cons_mk (Below.trod laidOut (by kernel_rfl) (of_decide_eq_true (by kernel_rfl)) k1 bel lt1) trodAll_mk0)),rfl,bel.frame _,fun h=>by cases h⟩
end Go.Proofs.YtnjedhgcfeoemaaGreatDoor

namespace Go.Proofs.YtnjedhgcfeoemaaGreatDoor
open Go.ChangeShapes Go.WideShapes Go.ChangeAt Go.RowKit
theorem enclosureGrows_row:Rows.EnclosureGrowsSaid :=
 OpenClaim.holds_of_wide 3 Tryz.f3 rfl rfl rfl rfl rfl rfl rfl ⟨rfl,rfl,rfl,rfl,rfl⟩ rfl rfl rfl rfl rfl (by as_aux_lemma=>kernel_rfl) Tryz.func3 (by
   unfold joinedFacts
   simp only [Bool.and_eq_true]
   repeat' (refine And.intro ?_ ?_)
   all_goals (as_aux_lemma=>kernel_rfl))
  (by as_aux_lemma=>exact of_decide_eq_true (by kernel_rfl)) (by unfold Func.isWrapper; first | (rw [if_pos (by decide +kernel)]; kernel_rfl) | (rw [if_neg (by decide +kernel)]; exact ⟨rfl,rfl⟩))
  (fun os started H enc _=>enclosureGrows_lifted os started H enc)
end Go.Proofs.YtnjedhgcfeoemaaGreatDoor
