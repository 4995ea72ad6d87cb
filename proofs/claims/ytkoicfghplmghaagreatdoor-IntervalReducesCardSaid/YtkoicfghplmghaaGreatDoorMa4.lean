/- Lemmas for the laws of this seat, part 4. -/
import Derived.Lib.Join
import Derived.Shelf.Strings.OnBuilder
import Derived.Test.YtkoicfghplmghaaGreatDoorMa3
set_option maxRecDepth 100000
set_option maxHeartbeats 16000000
namespace Go.Proofs.YtkoicfghplmghaaGreatDoor
open Go.RowKit
theorem Sm.inv {D:Nat} {q:Rat} (h:Sm D q) (_:0 < D):Sm D q⁻¹:=by
 have e:q⁻¹=Rat.inv q:=rfl
 have h1:=h.1
 have h2:=h.2
 rw [e]
 unfold Rat.inv
 split
 ·refine ⟨?_,h.1⟩
  show (-(q.den:Int)).natAbs < _
  omega
 ·split
  ·exact ⟨by show ((q.den:Nat):Int).natAbs < _; omega,h.1⟩
  ·exact h
theorem Sm.div {D E:Nat} {a b:Rat} (ha:Sm D a) (hb:Sm E b):Sm (D + E) (a / b):=by
 rw [Rat.div_def]; exact ha.mul (hb.inv hb.pos)
def ratioK (la lb:List Rat):Nat→Rat
 | 0=>0
 | k + 1=>if lb.getD k 0=0 then ratioK la lb k else la.getD k 0 / lb.getD k 0
theorem getD_sm {D:Nat} {l:List Rat} (h:∀ q∈l,Sm D q) (hD:0 < D) (k:Nat):Sm D (l.getD k 0):=by
 rw [List.getD_eq_getElem?_getD]
 rcases Nat.lt_or_ge k l.length with hk | hk
 ·rw [List.getElem?_eq_getElem hk]; exact h _ (List.getElem_mem hk)
 ·rw [List.getElem?_eq_none hk]; exact Sm.zero.le hD
theorem ratioK_sm {D:Nat} {la lb:List Rat} (ha:∀ q∈la,Sm D q) (hb:∀ q∈lb,Sm D q) (hD:0 < D):∀ k,Sm (D + D) (ratioK la lb k)
 | 0=>Sm.zero.le (by omega)
 | k + 1=>by
  unfold ratioK
  split
  ·exact ratioK_sm ha hb hD k
  ·exact (getD_sm ha hD k).div (getD_sm hb hD k)
def ratioB (la lb:List Rat) (n:Nat) (k:Rat):Bool:=decide (∀ j,j < n→k * lb.getD j 0=la.getD j 0)
theorem obj_pair {w:World} {g:Nat} {a b:Value} {t:TypeId} (h:w.heap[g]?=some (.cells #[a,b] t (0,0))) (x y:Value) :
  ((w.setCell ⟨g,0,none⟩ x).setCell ⟨g,1,none⟩ y).heap[g]?=some (.cells #[x,y] t (0,0)):=by
 rw [obj_set (obj_set h 0 x) 1 y]; rfl
theorem obj_pair_other {w:World} {g k:Nat} {o:Obj} (h:w.heap[k]?=some o) (hk:g≠k) (x y:Value) :
  ((w.setCell ⟨g,0,none⟩ x).setCell ⟨g,1,none⟩ y).heap[k]?=some o:=by
 rw [obj_other hk,obj_other hk]; exact h
structure BW (W:World) where
 w:World
 b:Below W.heap.size W w
theorem BW.cell {W:World} {p:Addr} {v:Value} (h:W.cell? p=some v) (q:BW W):q.w.cell? p=some v:=(q.b.cell (block_lt_of_cell h)).trans h
theorem ratio_any (w:World) (a1 a2:Option Addr) (c1 c2 n D:Nat) (la lb:List Rat) (ra:Rd w a1 (cellsQ la)) (rb:Rd w a2 (cellsQ lb)) (ea:la.length=n) (eb:lb.length=n)
  (sa:∀ q∈la,Sm D q) (sb:∀ q∈lb,Sm D q) (hn:n≤1000) (hD0:0 < D) (hD:D≤1000) (L:Laid w) :
  Gives Tryz.prog 189 #[.slice a1 n c1,.slice a2 n c2] w (.tuple #[fr (ratioK la lb n),.bool (ratioB la lb n (ratioK la lb n))]):=by
 unfold Gives
 have HL:=hd_ L
 have Hra:=hd_ ra
 have Hrb:=hd_ rb
 have Hea:=hd_ ea
 have Heb:=hd_ eb
 have Hsa:=hd_ sa
 have Hsb:=hd_ sb
 have HD:=hd_ hD
 have HD0:=hd_ hD0
 have B0:=hd_ ((Below.refl w.heap.size w).alloc nr_ (.cells #[.string ⟨#[]⟩,.string ⟨#[]⟩] 58))
 have K0:=hd_ (heap_at w #[.string ⟨#[]⟩,.string ⟨#[]⟩] 58 _ rfl)
 have S0:Hid ((w.alloc (.cells #[.string ⟨#[]⟩,.string ⟨#[]⟩] 58)).heap.size=w.heap.size + 1):=by show (w.heap.push _).size=_; exact Array.size_push ..
 have Hnum:Hid (∀ W,Below w.heap.size w W→Gives Tryz.prog 79 #[.int .i64 0] W (.agg #[.string (itx 0),.string (dec 1)])):=fun W hW=>number_any W 0 (by decide) (by decide) (HL.out.below hW)
 clear L ra rb ea eb sa sb hD hD0
 go_enter Tryz.func189,Tryz.ntmps189
 go_wp2_with fail
 generalize w.alloc (.cells #[.string ⟨#[]⟩,.string ⟨#[]⟩] 58)=w0 at *
 refine cm_ (Hnum.out _ B0.out) ?_
 rintro e w1 ⟨rfl,hb⟩
 have B1:=hd_ (B0.out.trans (hb.mono B0.out.size))
 have K1:=hd_ (heap_kept K0.out hb nr_)
 have S1:Hid (w.heap.size + 1≤w1.heap.size):=by show _≤_; have:=hb.size; have:=S0.out; omega
 clear hb K0 B0 S0 Hnum
 go_wp2_with fail
 have B2:=hd_ (B1.out.alloc B1.out.size (.cells #[.string (itx 0),.string (dec 1)] 58))
 have K2:=hd_ (heap_old K1.out (.cells #[.string (itx 0),.string (dec 1)] 58))
 have M2:=hd_ (heap_at w1 #[.string (itx 0),.string (dec 1)] 58 _ rfl)
 have hne:w.heap.size≠w1.heap.size:=by have:=S1.out; omega
 have hge:w.heap.size≤w1.heap.size:=by have:=S1.out; omega
 have Hne:=hd_ hne
 have Hge:=hd_ hge
 generalize w1.alloc (.cells #[.string (itx 0),.string (dec 1)] 58)=w2 at *
 clear K1 B1 S1 hne hge
 generalize w1.heap.size=g1 at *
 go_loopw [14] (fun i wr=>∃ k:Nat,k≤n∧i = .int .i64 k∧Hid (wr.heap[w.heap.size]?=some (.cells #[.string ⟨#[]⟩,.string ⟨#[]⟩] 58 (0,0)))∧Hid (wr.heap[g1]?=some (.cells #[.string (itx (ratioK la lb k).num),.string (dec (ratioK la lb k).den)] 58 (0,0)))∧Hid (Below w.heap.size w wr)) (fun i _=>n - (intOf i).toNat)
 case atStart=>exact ⟨0,Nat.zero_le _,rfl,K2,M2,B2⟩
 case round =>
  obtain ⟨k,hk,rfl,K,M,B⟩:=hrel
  by_cases hlt:k < n
  ·have hlt':(k:Int) < n:=by omega
   have hkb:k < lb.length:=by rw [Heb.out]; exact hlt
   have hka:k < la.length:=by rw [Hea.out]; exact hlt
   obtain ⟨b,off,rfl,hb,hcells⟩:=Hrb.out.open (by rw [cellsQ_length,Heb.out]; omega)
   obtain ⟨x0,x1⟩:=cellsS_rd hcells k (by rw [List.length_map]; exact hkb)
   rw [← B.out.cell (p:=⟨b,off + k * 2,none⟩) hb,qs_getD _ k hkb] at x0
   rw [← B.out.cell (p:=⟨b,off + k * 2 + 1,none⟩) hb,qs_getD _ k hkb] at x1
   have Hxb:Hid (lb.getD k 0=lb[k]):=by show _=_; rw [List.getD_eq_getElem?_getD,List.getElem?_eq_getElem hkb]; rfl
   have Hxa:Hid (la.getD k 0=la[k]):=by show _=_; rw [List.getD_eq_getElem?_getD,List.getElem?_eq_getElem hka]; rfl
   have Sa:=hd_ (Hsa.out _ (List.getElem_mem hka))
   have Sb:=hd_ (Hsb.out _ (List.getElem_mem hkb))
   obtain ⟨b',off',rfl,hb',hcells'⟩:=Hra.out.open (by rw [cellsQ_length,Hea.out]; omega)
   obtain ⟨y0,y1⟩:=cellsS_rd hcells' k (by rw [List.length_map]; exact hka)
   rw [← B.out.cell (p:=⟨b',off' + k * 2,none⟩) hb',qs_getD _ k hka] at y0
   rw [← B.out.cell (p:=⟨b',off' + k * 2 + 1,none⟩) hb',qs_getD _ k hka] at y1
   have Hs:Hid (ratioK la lb (k + 1)=if lb.getD k 0=0 then ratioK la lb k else la.getD k 0 / lb.getD k 0):=hd_ rfl
   rw [Hxb.out,Hxa.out] at Hs
   generalize lb[k]=xb at *
   generalize la[k]=xa at *
   simp only [qs] at x0 x1 y0 y1
   clear hcells hcells' Hxb Hxa
   by_cases h0:xb=0
   ·subst h0
    have Hs':Hid (ratioK la lb (k + 1)=ratioK la lb k):=by show _=_; rw [Hs.out,if_pos rfl]
    have hz:((itx (0:Int)).toList == [48])=true:=by rw [itx_isz]; rfl
    have B':=hd_ (B.out.alloc B.out.size (.cells #[.string (itx 0),.string (dec 1)] 58))
    have K':=hd_ (heap_old K.out (.cells #[.string (itx 0),.string (dec 1)] 58))
    have M':=hd_ (heap_old M.out (.cells #[.string (itx 0),.string (dec 1)] 58))
    clear Hs y0 y1 B K M Sa Sb
    go_wp2_with fail
    go_roundw
    case rel =>
     refine ⟨k + 1,by omega,by go_num,K',?_,B'⟩
     rw [Hs'.out]
     exact M'
    case measure=>simp [intOf]; omega
   ·have Hs':Hid (ratioK la lb (k + 1)=xa / xb):=by show _=_; rw [Hs.out,if_neg h0]
    have hz:((itx xb.num).toList == [48])=false:=by rw [itx_isz]; exact decide_eq_false fun h=>h0 (Rat.num_eq_zero.1 h)
    have B':=hd_ (B.out.alloc B.out.size (.cells #[.string (itx xb.num),.string (dec xb.den)] 58))
    have K':=hd_ (heap_old K.out (.cells #[.string (itx xb.num),.string (dec xb.den)] 58))
    have M':=hd_ (heap_old M.out (.cells #[.string (itx xb.num),.string (dec xb.den)] 58))
    have N':=hd_ (heap_at wr #[.string (itx xb.num),.string (dec xb.den)] 58 _ rfl)
    have W':=hd_ ((Below.refl wr.heap.size wr).alloc nr_ (.cells #[.string (itx xb.num),.string (dec xb.den)] 58))
    have Y0:=hd_ ((W'.out.cell (p:=⟨b',off' + k * 2,none⟩) (Nat.lt_of_lt_of_le hb' B.out.size)).trans y0)
    have Y1:=hd_ ((W'.out.cell (p:=⟨b',off' + k * 2 + 1,none⟩) (Nat.lt_of_lt_of_le hb' B.out.size)).trans y1)
    have HDv:Hid (∀ W,Below w.heap.size w W→Gives Tryz.prog 221 #[fr xa,fr xb] W (.tuple #[fr (xa / xb),.int .i64 0])):=fun W hW =>
     divR W xa xb D D Sa.out Sb.out h0 (by have:=HD.out; omega) (HL.out.below hW)
    unfold fr fv at HDv
    clear Hs y0 y1 B K M Sa Sb h0 W'
    have H0:=hd_ (show ((0:Int)≤k∧(k:Int) < n) from ⟨by omega,by omega⟩)
    go_wp2_with fail
    generalize wr.alloc (.cells #[.string (itx xb.num),.string (dec xb.den)] 58)=W0 at *
    clear x0 x1
    obtain ⟨k0,k1,-,-⟩:=two_cells N'.out
    have q0:=BW.cell k0
    have q1:=BW.cell k1
    have q2:=BW.cell Y0.out
    have q3:=BW.cell Y1.out
    have hnon:Nonempty (BW W0):=⟨⟨W0,Below.refl _ _⟩⟩
    clear k0 k1 N'
    refine RY.wp_region_readers 9 [(1,0),(1,1),(1,2),(1,3),(1,4),(0,5),(2,6),(2,7),(2,8),(0,9)] (fun w'=>∃ p:BW W0,w'=p.w) (by kernel_rfl) (by kernel_rfl) ?_ ?_
    ·exact ⟨⟨{ W0 with drawn:=W0.drawn + 1 },⟨rfl,rfl,rfl,Nat.le_refl _,fun _ _=>rfl⟩⟩,rfl⟩
    iterate 5 (refine RY.walkR_read ?_; simp only [dsc_,dz_,tsc_,tz_]; go_big_quiet_step (fail); refine wpQuiet_nil ?_)
    clear q0 q1 q2 q3 hnon
    refine RY.walkR_move ?_
    simp only [dsc_,dz_,tsc_,tz_]
    go_wp2_with fail
    refine cm_ (HDv.out _ B'.out.drew) ?_
    rintro e w5 ⟨rfl,hb5⟩
    have W5:Hid (Below W0.heap.size W0 w5):=(Below.refl W0.heap.size W0).drew.trans hb5
    have B5:=hd_ (B'.out.trans (W5.out.mono B'.out.size))
    have K5:=hd_ (heap_kept K'.out W5.out nr_)
    have M5:=hd_ (heap_kept M'.out W5.out nr_)
    clear hb5 HDv K' M' B' Y0 Y1
    go_wp2_with fail
    refine ⟨⟨⟨w5,W5.out⟩,rfl⟩,?_⟩
    refine RY.walkR_any ?_
    simp only [dsc_,dz_,tsc_,tz_]
    go_big_quiet_step (fail)
    refine wpQuiet_nil ?_
    refine RY.walkR_any ?_
    simp only [dsc_,dz_,tsc_,tz_]
    go_big_quiet_step (fail)
    refine wpQuiet_nil ?_
    refine RY.walkR_any ?_
    simp only [dsc_,dz_,tsc_,tz_]
    go_big_quiet_step (fail)
    refine wpQuiet_nil ?_
    obtain ⟨k0,k1,f0,f1⟩:=two_cells M5.out
    refine RY.walkR_move ?_
    simp only [dsc_,dz_,tsc_,tz_]
    go_wp2_with fail
    have B6:=hd_ ((B5.out.setCell (p:=⟨g1,0,none⟩) Hge.out (.string (itx (xa / xb).num))).setCell (p:=⟨g1,1,none⟩) Hge.out (.string (dec (xa / xb).den)))
    have M6:=hd_ (obj_pair M5.out (.string (itx (xa / xb).num)) (.string (dec (xa / xb).den)))
    have K6:=hd_ (obj_pair_other K5.out Hne.out.symm (.string (itx (xa / xb).num)) (.string (dec (xa / xb).den)))
    clear k0 k1 f0 f1 K5 M5 B5 W5
    generalize (w5.setCell ⟨g1,0,none⟩ (.string (itx (xa / xb).num))).setCell ⟨g1,1,none⟩ (.string (dec (xa / xb).den))=w6 at *
    simp only [RY.walkR]
    go_wp2
    go_roundw
    case rel =>
     refine ⟨k + 1,by omega,by go_num,K6,?_,B6⟩
     rw [Hs'.out]
     exact M6
    case measure=>simp [intOf]; omega
  ·have hlt':¬ (k:Int) < n:=by omega
   have hkn:k=n:=by omega
   subst hkn
   clear hk hlt
   generalize hq:ratioK la lb k=q at *
   have Sq:Hid (Sm (D + D) q):=by show Sm _ q; rw [← hq]; exact ratioK_sm Hsa.out Hsb.out HD0.out k
   have Hq:=hd_ hq
   clear hq
   go_wp2_with fail
   go_loopw [34] (fun i wr=>∃ j:Nat,j≤k∧i = .int .i64 j∧Hid (∀ i,i < j→q * lb.getD i 0=la.getD i 0)∧Hid (wr.heap[w.heap.size]?=some (.cells #[.string ⟨#[]⟩,.string ⟨#[]⟩] 58 (0,0)))∧Hid (wr.heap[g1]?=some (.cells #[.string (itx q.num),.string (dec q.den)] 58 (0,0)))∧Hid (Below w.heap.size w wr)) (fun i _=>k - (intOf i).toNat)
   case atStart=>exact ⟨0,Nat.zero_le _,rfl,fun i hi=>absurd hi (Nat.not_lt_zero _),K,M,B⟩
   case round =>
    clear K M B
    obtain ⟨j,hj,rfl,Hall,K,M,B⟩:=hrel
    by_cases hlt:j < k
    ·have hlt':(j:Int) < k:=by omega
     have hkb:j < lb.length:=by rw [Heb.out]; exact hlt
     have hka:j < la.length:=by rw [Hea.out]; exact hlt
     obtain ⟨b,off,rfl,hb,hcells⟩:=Hrb.out.open (by rw [cellsQ_length,Heb.out]; omega)
     obtain ⟨x0,x1⟩:=cellsS_rd hcells j (by rw [List.length_map]; exact hkb)
     rw [← B.out.cell (p:=⟨b,off + j * 2,none⟩) hb,qs_getD _ j hkb] at x0
     rw [← B.out.cell (p:=⟨b,off + j * 2 + 1,none⟩) hb,qs_getD _ j hkb] at x1
     have Hxb:Hid (lb.getD j 0=lb[j]):=by show _=_; rw [List.getD_eq_getElem?_getD,List.getElem?_eq_getElem hkb]; rfl
     have Hxa:Hid (la.getD j 0=la[j]):=by show _=_; rw [List.getD_eq_getElem?_getD,List.getElem?_eq_getElem hka]; rfl
     have Sb:=hd_ (Hsb.out _ (List.getElem_mem hkb))
     obtain ⟨b',off',rfl,hb',hcells'⟩:=Hra.out.open (by rw [cellsQ_length,Hea.out]; omega)
     obtain ⟨y0,y1⟩:=cellsS_rd hcells' j (by rw [List.length_map]; exact hka)
     rw [← B.out.cell (p:=⟨b',off' + j * 2,none⟩) hb',qs_getD _ j hka] at y0
     rw [← B.out.cell (p:=⟨b',off' + j * 2 + 1,none⟩) hb',qs_getD _ j hka] at y1
     generalize lb[j]=xb at *
     generalize la[j]=xa at *
     simp only [qs] at x0 x1 y0 y1
     have B':=hd_ (B.out.alloc B.out.size (.cells #[.string (itx xb.num),.string (dec xb.den)] 58))
     have K':=hd_ (heap_old K.out (.cells #[.string (itx xb.num),.string (dec xb.den)] 58))
     have M':=hd_ (heap_old M.out (.cells #[.string (itx xb.num),.string (dec xb.den)] 58))
     have N':=hd_ (heap_at wr #[.string (itx xb.num),.string (dec xb.den)] 58 _ rfl)
     have W':=hd_ ((Below.refl wr.heap.size wr).alloc nr_ (.cells #[.string (itx xb.num),.string (dec xb.den)] 58))
     have Y0:=hd_ ((W'.out.cell (p:=⟨b',off' + j * 2,none⟩) (Nat.lt_of_lt_of_le hb' B.out.size)).trans y0)
     have Y1:=hd_ ((W'.out.cell (p:=⟨b',off' + j * 2 + 1,none⟩) (Nat.lt_of_lt_of_le hb' B.out.size)).trans y1)
     have HM:Hid (∀ W,Below w.heap.size w W→∀ d os,Calls Tryz.prog 129 #[fr q,fr xb] (Go.Sort.grow (redrawn W d) os) fun e w''=>e = .returned (fr (q * xb))∧∃ p:Regrown,w''=Go.Sort.grow (redrawn W p.d) p.os):=fun W hW =>
      mulR_regrown W q xb (D + D) D Sq.out Sb.out (by have:=HD.out; omega) (HL.out.below hW)
     unfold fr fv at HM
     clear hcells hcells' y0 y1 K M B W' Sb
     have H0:=hd_ (show ((0:Int)≤j∧(j:Int) < k) from ⟨by omega,by omega⟩)
     go_wp2_with fail
     generalize wr.alloc (.cells #[.string (itx xb.num),.string (dec xb.den)] 58)=W0 at *
     clear x0 x1
     obtain ⟨k0,k1,-,-⟩:=two_cells N'.out
     obtain ⟨m0,m1,-,-⟩:=two_cells M'.out
     have q0:=cell_regrown k0
     have q1:=cell_regrown k1
     have q2:=cell_regrown Y0.out
     have q3:=cell_regrown Y1.out
     have q4:=cell_regrown m0
     have q5:=cell_regrown m1
     have hM:=HM.out _ B'.out
     clear k0 k1 HM N' m0 m1
     refine wp_region_quiet_below (by kernel_rfl) (by kernel_rfl) ?_
     repeat (first | go_big_quiet_step (with_reducible exact hM _ _) | quiet_step (with_reducible exact hM _ _))
     refine BigFrame.wpQuiet_want rfl fun K hK=>quiet_neqQ _ _ _ (q * xb) xa rfl rfl rfl (hK _ ?_)
     refine wpQuiet_nil ?_
     intro w2 hw2
     obtain ⟨⟨dq,osq⟩,rfl⟩:=hw2
     have W2:=hd_ (below_regrown W0 dq osq)
     have B2:=hd_ (B'.out.trans (W2.out.mono B'.out.size))
     have K2:=hd_ (heap_kept K'.out W2.out nr_)
     have M2:=hd_ (heap_kept M'.out W2.out nr_)
     clear K' M' B' Y0 Y1 W2 hM q0 q1 q2 q3 q4 q5
     generalize Go.Sort.grow (redrawn W0 dq) osq=w2 at *
     by_cases hqx:q * xb=xa
     ·rw [decide_eq_true hqx]
      have Hall':Hid (∀ i,i < j + 1→q * lb.getD i 0=la.getD i 0):=fun i hi=>by
       rcases Nat.lt_or_ge i j with h | h
       ·exact Hall.out i h
       ·rw [show i=j by omega,Hxb.out,Hxa.out]; exact hqx
      clear hqx Hall Hxa Hxb
      go_wp2_with fail
      go_roundw
      case rel=>exact ⟨j + 1,by omega,by go_num,Hall',K2,M2,B2⟩
      case measure=>simp [intOf]; omega
     ·rw [decide_eq_false hqx]
      have HB:Hid (ratioB la lb k q=false):=by
       show _=_
       exact decide_eq_false fun h=>hqx (by rw [← Hxb.out,← Hxa.out]; exact h j hlt)
      clear hqx Hall Hxa Hxb
      obtain ⟨k0,k1,f0,f1⟩:=two_cells K2.out
      obtain ⟨m0,m1,-,-⟩:=two_cells M2.out
      go_wp2_with fail
      obtain ⟨c0,c1,hb3⟩:=two_stored (B:=w.heap.size) (.string (itx q.num)) (.string (dec q.den)) k0 k1 nr_ B2.out
      generalize (w2.setCell ⟨w.heap.size,0,none⟩ (.string (itx q.num))).setCell ⟨w.heap.size,1,none⟩ (.string (dec q.den))=w9 at *
      rw [Hq.out,HB.out]
      exact bodyPost_ret (v := .tuple #[.agg #[.string (itx q.num),.string (dec q.den)],.bool false]) (by simp [results,Tryz.results189,go_sem,c0,c1]) rfl ⟨rfl,hb3⟩
    ·have hlt':¬ (j:Int) < k:=by omega
     have HB:Hid (ratioB la lb k q=true):=by
      show _=_
      exact decide_eq_true fun i hi=>Hall.out i (by omega)
     clear Hall
     obtain ⟨k0,k1,f0,f1⟩:=two_cells K.out
     obtain ⟨m0,m1,-,-⟩:=two_cells M.out
     go_wp2_with fail
     obtain ⟨c0,c1,hb3⟩:=two_stored (B:=w.heap.size) (.string (itx q.num)) (.string (dec q.den)) k0 k1 nr_ B.out
     generalize (wr.setCell ⟨w.heap.size,0,none⟩ (.string (itx q.num))).setCell ⟨w.heap.size,1,none⟩ (.string (dec q.den))=w9 at *
     rw [Hq.out,HB.out]
     exact bodyPost_ret (v := .tuple #[.agg #[.string (itx q.num),.string (dec q.den)],.bool true]) (by simp [results,Tryz.results189,go_sem,c0,c1]) rfl ⟨rfl,hb3⟩
end Go.Proofs.YtkoicfghplmghaaGreatDoor

namespace Go.Proofs.YtkoicfghplmghaaGreatDoor
open Go.RowKit
end Go.Proofs.YtkoicfghplmghaaGreatDoor

namespace Go.Proofs.YtkoicfghplmghaaGreatDoor
open Go.RowKit
theorem floor_ratio (w:World) (ps:List Int) (a0 a1 a2:Option Addr) (c0 c1 c2 D:Nat) (la lb:List Rat) (A:SizeOk w ps a0 a1 la D) (B:SizeOk w ps a0 a2 lb D) (hD0:0 < D) (L:Laid w)
  (hr:ratioB la lb ps.length (ratioK la lb ps.length)=true) :
  Gives Tryz.prog 154 #[.slice a0 ps.length c0,.slice a1 la.length c1,.slice a2 lb.length c2] w (.string (itx (ratioK la lb ps.length).floor)):=by
 unfold Gives
 have hn:=A.n
 have hd:=A.d
 have Hra:=hd_ (ratio_any w a1 a2 c1 c2 ps.length D la lb A.rl B.rl A.len B.len A.sm B.sm (by omega) hD0 hd L)
 rw [hr] at Hra
 have Sk:=ratioK_sm A.sm B.sm hD0 ps.length
 have Hfl:Hid (∀ W,Below w.heap.size w W→Gives Tryz.prog 190 #[fr (ratioK la lb ps.length)] W (.string (itx (ratioK la lb ps.length).floor))):=fun W hW=>floorR W _ (D + D) Sk (by omega) (L.below hW)
 unfold fr fv at Hra Hfl
 rw [A.len,B.len]
 clear Sk A B L hr
 generalize ratioK la lb ps.length=k at *
 go_enter Tryz.func154,Tryz.ntmps154
 go_wp2_with fail
 refine cm_ Hra.out ?_
 rintro e w1 ⟨rfl,hb⟩
 have B1:=hd_ hb
 have B2:=hd_ (hb.alloc hb.size (.cells #[.string (itx k.num),.string (dec k.den)] 58))
 clear hb Hra
 go_wp2_with fail
 refine cm_ (Hfl.out _ B2.out) ?_
 rintro e w2 ⟨rfl,hb⟩
 have B3:=hd_ (B2.out.trans (hb.mono B2.out.size))
 clear hb Hfl
 go_wp2_with fail
 go_ret
 exact ⟨rfl,B3.out⟩
end Go.Proofs.YtkoicfghplmghaaGreatDoor

namespace Go.Proofs.YtkoicfghplmghaaGreatDoor
open Go.RowKit
theorem Floor_of (w:World) (ps:List Int) (a0 a1 a2:Option Addr) (c0 c1 c2:Nat) (la lb:List Rat) (A:SizeOk w ps a0 a1 la 30) (B:SizeOk w ps a0 a2 lb 30) (hp:pcode ps=0) (L:Laid w) (hz:tlQ ps lb≠[]) (q:Int)
  (hf:∀ W,Below w.heap.size w W→Gives Tryz.prog 154 #[.slice a0 ps.length c0,.slice a1 la.length c1,.slice a2 lb.length c2] W (.string (itx q))) :
  Gives Tryz.prog 106 #[.slice a0 ps.length c0,.slice a1 la.length c1,.slice a2 lb.length c2] w (.tuple #[.string (itx q),.int .i64 0]):=by
 unfold Gives
 have Hc:=hd_ (checkQuotient_ok w ps a0 a1 a2 c0 c1 c2 la lb A B hp L hz)
 have Hf:=hd_ hf
 clear A B hp L hz hf
 go_enter Tryz.func106,Tryz.ntmps106
 go_wp2_with fail
 refine cm_ Hc.out ?_
 rintro e w1 ⟨rfl,hb⟩
 have B1:=hd_ hb
 clear hb Hc
 go_wp2_with fail
 refine cm_ (Hf.out _ B1.out) ?_
 rintro e w2 ⟨rfl,hb⟩
 have B2:=hd_ (B1.out.trans (hb.mono B1.out.size))
 clear hb Hf
 go_wp2_with fail
 go_ret2
 exact ⟨rfl,B2.out⟩
theorem Sm.two:Sm 1 2:=⟨by decide,by decide⟩
end Go.Proofs.YtkoicfghplmghaaGreatDoor

namespace Go.Proofs.YtkoicfghplmghaaGreatDoor
open Go.RowKit
end Go.Proofs.YtkoicfghplmghaaGreatDoor

namespace Go.Proofs.YtkoicfghplmghaaGreatDoor
open Go.RowKit
end Go.Proofs.YtkoicfghplmghaaGreatDoor

namespace Go.Proofs.YtkoicfghplmghaaGreatDoor
open Go.RowKit
end Go.Proofs.YtkoicfghplmghaaGreatDoor

namespace Go.Proofs.YtkoicfghplmghaaGreatDoor
open Go.RowKit
end Go.Proofs.YtkoicfghplmghaaGreatDoor

namespace Go.Proofs.YtkoicfghplmghaaGreatDoor
open Go.RowKit
end Go.Proofs.YtkoicfghplmghaaGreatDoor

namespace Go.Proofs.YtkoicfghplmghaaGreatDoor
open Go.RowKit
end Go.Proofs.YtkoicfghplmghaaGreatDoor

namespace Go.Proofs.YtkoicfghplmghaaGreatDoor
open Go.RowKit
end Go.Proofs.YtkoicfghplmghaaGreatDoor

namespace Go.Proofs.YtkoicfghplmghaaGreatDoor
open Go.RowKit
end Go.Proofs.YtkoicfghplmghaaGreatDoor

namespace Go.Proofs.YtkoicfghplmghaaGreatDoor
open Go.RowKit
end Go.Proofs.YtkoicfghplmghaaGreatDoor

namespace Go.Proofs.YtkoicfghplmghaaGreatDoor
open Go.RowKit Go.Shelf
end Go.Proofs.YtkoicfghplmghaaGreatDoor

namespace Go.Proofs.YtkoicfghplmghaaGreatDoor
open Go.RowKit
end Go.Proofs.YtkoicfghplmghaaGreatDoor

namespace Go.Proofs.YtkoicfghplmghaaGreatDoor
open Go.RowKit
instance (D:Nat) (q:Rat):Decidable (Sm D q):=by unfold Sm; infer_instance
end Go.Proofs.YtkoicfghplmghaaGreatDoor

namespace Go.Proofs.YtkoicfghplmghaaGreatDoor
open Go.RowKit
theorem k7:((itx 7).toList == [55])=true:=by decide +kernel
end Go.Proofs.YtkoicfghplmghaaGreatDoor

namespace Go.Proofs.YtkoicfghplmghaaGreatDoor
open Go.RowKit
end Go.Proofs.YtkoicfghplmghaaGreatDoor

namespace Go.Proofs.YtkoicfghplmghaaGreatDoor
open Go.RowKit
end Go.Proofs.YtkoicfghplmghaaGreatDoor

namespace Go.Proofs.YtkoicfghplmghaaGreatDoor
open Go.RowKit
def RdI (w:World) (a:Option Addr) (ls:List (List Int)):Prop :=
 ls=[]∨∃ b off,a=some ⟨b,off,none⟩∧b < w.heap.size∧∀ i,i < ls.length→∃ a' c',w.cell? ⟨b,off + i,none⟩=some (.slice a' (ls.getD i []).length c')∧Rd w a' (ints (ls.getD i []))
theorem RdI.below {w w':World} {a:Option Addr} {ls:List (List Int)} {B:Nat} (h:RdI w a ls) (hb:Below B w w') (hB:w.heap.size≤B):RdI w' a ls:=by
 rcases h with h | ⟨b,off,h1,h2,h3⟩
 ·exact .inl h
 ·refine .inr ⟨b,off,h1,Nat.lt_of_lt_of_le h2 hb.size,fun i hi=>?_⟩
  obtain ⟨a',c',h4,h5⟩:=h3 i hi
  exact ⟨a',c',by rw [hb.cell (p:=⟨b,off + i,none⟩) (by show b < B; omega)]; exact h4,h5.below hb hB⟩
def mx:List Int→Int
 | []=>0
 | x :: l=>if 1000 < x∨x < -1000 then 4 else mx l
def mrow (n:Nat) (r:List Int):Int:=if r.length=n then mx r else 5
def mgo (n:Nat):List (List Int)→Int
 | []=>0
 | r :: rs=>if mrow n r=0 then mgo n rs else mrow n r
def mcode (ps:List Int) (rs:List (List Int)):Int:=if pcode ps=0 then mgo ps.length rs else pcode ps
theorem monCheckAll_any (w:World) (a1 a2:Option Addr) (c1 c2:Nat) (ps:List Int) (ls:List (List Int)) (hp:Rd w a1 (ints ps)) (hi:I64s ps) (hl1:ps.length≤1000000)
  (hr:RdI w a2 ls) (hl:ls.length≤1000000) (hl2:∀ l∈ls,l.length≤1000000) :
  Gives Tryz.prog 71 #[.slice a1 ps.length c1,.slice a2 ls.length c2] w (.int .i64 (mcode ps ls)):=by
 unfold Gives
 have H1:=hd_ (primeCheck_any w a1 c1 ps hp hi hl1)
 have Hv:Hid (mcode ps ls=if pcode ps=0 then mgo ps.length ls else pcode ps):=rfl
 have Hr:=hd_ hr
 have Hl2:=hd_ hl2
 clear hp hi hl2 hr
 generalize mcode ps ls=v at *
 generalize pcode ps=p at *
 generalize ps.length=n at *
 by_cases h0:p=0
 ·subst h0
  have Hvv:Hid (v=mgo n ls):=by show _=_; rw [Hv.out,if_pos rfl]
  clear Hv
  generalize hm:ls.length=m at *
  have Hm:=hd_ hm
  clear hm
  go_enter Tryz.func71,Tryz.ntmps71
  go_wp2_with fail
  refine cm_ H1.out ?_
  rintro e w1 ⟨rfl,hb1⟩
  have Hb1:=hd_ hb1
  clear hb1 H1
  go_wp2_with fail
  go_loopw [17] (fun i wr=>∃ k:Nat,k≤m∧i = .int .i64 k∧Hid (mgo n ls=mgo n (ls.drop k))∧Hid (Below w.heap.size w wr)) (fun i _=>m - (intOf i).toNat)
  case atStart=>exact ⟨0,Nat.zero_le _,rfl,rfl,Hb1⟩
  case round =>
   clear Hb1
   obtain ⟨k,hk,rfl,Hg,Hb⟩:=hrel
   by_cases hlt:k < m
   ·have hlt':(k:Int) < m:=by omega
    have hkl:k < ls.length:=by rw [Hm.out]; exact hlt
    rcases Hr.out with hnil | ⟨b,off,rfl,hb,hcells⟩
    ·rw [hnil] at hkl; exact absurd hkl (Nat.not_lt_zero _)
    obtain ⟨a',c',cx,hrd⟩:=hcells k hkl
    have hgl:ls.getD k []=ls[k]:=by rw [List.getD_eq_getElem?_getD,List.getElem?_eq_getElem hkl]; rfl
    rw [← Hb.out.cell (p:=⟨b,off + k,none⟩) hb,hgl] at cx
    rw [hgl] at hrd
    have Hd:Hid (ls.drop k=ls[k] :: ls.drop (k + 1)):=List.drop_eq_getElem_cons hkl
    have hlm:=Hl2.out _ (List.getElem_mem hkl)
    have Hrd:=hd_ hrd
    clear hgl hcells hrd
    generalize ls[k]=l at *
    generalize hq:l.length=q at *
    have Hq:=hd_ hq
    clear hq
    by_cases hs:q=n
    ·have Hmr:Hid (mrow n l=mx l):=by show _=_; unfold mrow; rw [if_pos (Hq.out.trans hs)]
     subst hs
     go_wp2_with fail
     obtain ⟨wo,hwo⟩:∃ wo:World,wo=wr:=⟨_,rfl⟩
     subst hwo
     go_loopw [28] (fun i wr=>∃ j:Nat,j≤q∧i = .int .i64 j∧Hid (mx l=mx (l.drop j))∧Hid (Below w.heap.size w wr)) (fun i _=>q - (intOf i).toNat)
     case atStart=>exact ⟨0,Nat.zero_le _,rfl,rfl,Hb⟩
     case round =>
      clear Hb cx
      obtain ⟨j,hj,rfl,Hx,Hb⟩:=hrel
      by_cases hjt:j < q
      ·have hjt':(j:Int) < q:=by omega
       have hjl:j < l.length:=by rw [Hq.out]; exact hjt
       obtain ⟨b2,o2,rfl,hb2,hc2⟩:=Hrd.out.open (by rw [ints_length]; omega)
       have cy:=hc2 j _ (ints_get l j hjl)
       rw [← Hb.out.cell (p:=⟨b2,o2 + j,none⟩) hb2] at cy
       have Hdj:Hid (l.drop j=l[j] :: l.drop (j + 1)):=List.drop_eq_getElem_cons hjl
       clear hc2
       generalize l[j]=x at *
       by_cases h3:1000 < x
       ·have Hxx:Hid (mx l=4):=by show _=_; rw [Hx.out,Hdj.out,mx,if_pos (.inl h3)]
        have Hgg:Hid (mgo q ls=4):=by show _=_; rw [Hg.out,Hd.out,mgo,Hmr.out,Hxx.out]; rfl
        go_wp2
        go_ret
        exact ⟨by rw [Hvv.out,Hgg.out]; rfl,Hb.out⟩
       ·by_cases h4:x < -1000
        ·have Hxx:Hid (mx l=4):=by show _=_; rw [Hx.out,Hdj.out,mx,if_pos (.inr h4)]
         have Hgg:Hid (mgo q ls=4):=by show _=_; rw [Hg.out,Hd.out,mgo,Hmr.out,Hxx.out]; rfl
         go_wp2
         go_ret
         exact ⟨by rw [Hvv.out,Hgg.out]; rfl,Hb.out⟩
        ·have Hxx:Hid (mx l=mx (l.drop (j + 1))):=by show _=_; rw [Hx.out,Hdj.out,mx,if_neg (by omega)]
         go_wp2
         go_roundw
         case rel=>exact ⟨j + 1,by omega,by go_num,Hxx,Hb⟩
         case measure=>simp [intOf]; omega
      ·have hjt':¬ (j:Int) < q:=by omega
       have Hxx:Hid (mx l=0):=by
        show _=_
        rw [Hx.out,List.drop_of_length_le (by rw [Hq.out]; omega)]
        rfl
       have Hgg:Hid (mgo q ls=mgo q (ls.drop (k + 1))):=by show _=_; rw [Hg.out,Hd.out,mgo,Hmr.out,Hxx.out]; rfl
       go_wp2
       go_roundw
       case rel=>exact ⟨k + 1,by omega,by go_num,Hgg,Hb⟩
       case measure=>simp [intOf]; omega
    ·have Hmr:Hid (mrow n l=5):=by show _=_; unfold mrow; rw [if_neg (fun h=>hs (Hq.out.symm.trans h))]
     have Hgg:Hid (mgo n ls=5):=by show _=_; rw [Hg.out,Hd.out,mgo,Hmr.out]; rfl
     have hs':((q:Int) == n)=false:=by rw [beq_eq_false_iff_ne]; omega
     go_wp2
     go_ret
     exact ⟨by rw [Hvv.out,Hgg.out]; rfl,Hb.out⟩
   ·have hlt':¬ (k:Int) < m:=by omega
    have Hgg:Hid (mgo n ls=0):=by
     show _=_
     rw [Hg.out,List.drop_of_length_le (by rw [Hm.out]; omega)]
     rfl
    go_wp2
    go_ret
    exact ⟨by rw [Hvv.out,Hgg.out]; rfl,Hb.out⟩
 ·have Hvv:Hid (v=p):=by show _=_; rw [Hv.out,if_neg h0]
  have hp0:(p == 0)=false:=by rw [beq_eq_false_iff_ne]; exact h0
  clear Hv h0
  generalize ls.length=m at *
  go_enter Tryz.func71,Tryz.ntmps71
  go_wp2_with fail
  refine cm_ H1.out ?_
  rintro e w1 ⟨rfl,hb1⟩
  have Hb1:=hd_ hb1
  clear hb1 H1
  go_wp2
  go_ret
  exact ⟨by rw [Hvv.out]; rfl,Hb1.out⟩
def mcode1 (ps:List Int) (r:List Int):Int:=mcode ps [r]
theorem rdi_one {w:World} {g:Nat} {a1:Option Addr} {c1:Nat} {r:List Int} {t:TypeId} (h:w.heap[g]?=some (.cells #[.slice a1 r.length c1] t (0,0))) (h1:Rd w a1 (ints r)):RdI w (some ⟨g,0,none⟩) [r]:=by
 refine .inr ⟨g,0,rfl,(Array.getElem?_eq_some_iff.1 h).1,fun i hi=>?_⟩
 have e:i=0:=by simp at hi; exact hi
 subst e
 exact ⟨a1,c1,by rw [cell_of_row w g 0 _ t (0,0) h]; rfl,h1⟩
theorem monCheck_any (w:World) (a1 a2:Option Addr) (c1 c2:Nat) (ps r:List Int) (hp:Rd w a1 (ints ps)) (hi:I64s ps) (hl1:ps.length≤1000000) (hr:Rd w a2 (ints r)) (hl:r.length≤1000000) :
  Gives Tryz.prog 17 #[.slice a1 ps.length c1,.slice a2 r.length c2] w (.int .i64 (mcode1 ps r)):=by
 unfold Gives
 have Hc:Hid (∀ W g,Below w.heap.size w W→W.heap[g]?=some (.cells #[.slice a2 r.length c2] 25 (0,0))→Gives Tryz.prog 71 #[.slice a1 ps.length c1,.slice (some ⟨g,0,none⟩) 1 1] W (.int .i64 (mcode1 ps r))):=fun W g hW hg =>
  monCheckAll_any W a1 _ c1 1 ps [r] (hp.below hW nr_) hi hl1 (rdi_one hg (hr.below hW nr_)) (by simp) (by intro l hl'; simp only [List.mem_cons,List.not_mem_nil,or_false] at hl'; subst hl'; exact hl)
 clear hp hi hr
 generalize mcode1 ps r=v at *
 generalize ps.length=n at *
 generalize r.length=m at *
 have B0:=hd_ ((Below.refl w.heap.size w).alloc nr_ (.cells #[.slice a2 m c2] 25))
 go_enter Tryz.func17,Tryz.ntmps17
 go_wp2_with fail
 refine cm_ (Hc.out _ _ B0.out (Go.heap_alloc_new _ _)) ?_
 rintro e w1 ⟨rfl,hb1⟩
 have Hb1:=hd_ (B0.out.trans (hb1.mono B0.out.size))
 clear hb1 Hc
 go_wp2
 go_ret
 exact ⟨rfl,Hb1.out⟩
end Go.Proofs.YtkoicfghplmghaaGreatDoor

namespace Go.Proofs.YtkoicfghplmghaaGreatDoor
open Go.RowKit
def GivesOk (f:FuncId) (args:Array Value) (w:World) (l:List Rat):Prop :=
 Calls Tryz.prog f args w fun e w'=>∃ a c,e = .returned (.tuple #[.slice a l.length c,.int .i64 0])∧OwnQ w' w.heap.size a c l∧Below w.heap.size w w'
def GivesErr (f:FuncId) (args:Array Value) (w:World) (code:Int):Prop:=Gives Tryz.prog f args w (.tuple #[.slice none 0 0,.int .i64 code])
theorem OwnQ.lower {w:World} {B B' c:Nat} {a:Option Addr} {l:List Rat} (h:OwnQ w B a c l) (hb:B'≤B):OwnQ w B' a c l:=by
 exact ⟨h.1,h.2.imp id fun ⟨g,cap,cur,h1,h2,h3⟩=>⟨g,cap,cur,h1,Nat.le_trans hb h2,h3⟩⟩
theorem pcode_pos {ps:List Int} (h:pcode ps=0):0 < ps.length∧ps.length≤6:=by
 unfold pcode at h
 split at h
 ·cases h
 ·split at h
  ·cases h
  ·omega
def ofMix (r:List Int) (n k:Nat):List Rat:=(r.take k).map (fun x:Int=>(x:Rat)) ++ List.replicate (n - k) 0
theorem ofMix_length (r:List Int) (n k:Nat) (h:k≤n) (hr:r.length=n):(ofMix r n k).length=n:=by simp [ofMix]; omega
theorem ofMix_set (r:List Int) (n k:Nat) (h:k < n) (hr:r.length=n):(ofMix r n k).set k (r[k]'(by omega):Int)=ofMix r n (k + 1):=by
 unfold ofMix
 have hk:((r.take k).map (fun x:Int=>(x:Rat))).length=k:=by simp; omega
 rw [List.set_append_right _ _ (by omega),hk,Nat.sub_self]
 obtain ⟨m,hm⟩:∃ m,n - k=m + 1:=⟨n - k - 1,by omega⟩
 rw [hm,show n - (k + 1)=m by omega,List.replicate_succ,List.set_cons_zero,List.take_add_one,List.getElem?_eq_getElem (by omega),List.map_append,List.append_assoc]
 rfl
theorem mcode1_zero {ps r:List Int} (h:mcode1 ps r=0):pcode ps=0∧r.length=ps.length:=by
 unfold mcode1 mcode at h
 split at h
 ·rename_i h0
  refine ⟨h0,?_⟩
  unfold mgo at h
  split at h
  ·rename_i h1
   unfold mrow at h1
   split at h1
   ·assumption
   ·cases h1
  ·rename_i h1; exact absurd h h1
 ·rename_i h0; exact absurd h h0
theorem of_ok (w:World) (a0 a1:Option Addr) (c0 c1:Nat) (ps r:List Int) (hp:Rd w a0 (ints ps)) (hi:I64s ps) (hr:Rd w a1 (ints r)) (hri:I64s r) (hc:mcode1 ps r=0) (L:Laid w) :
  GivesOk 104 #[.slice a0 ps.length c0,.slice a1 r.length c1] w (r.map fun x:Int=>(x:Rat)):=by
 obtain ⟨hc0,hlr⟩:=mcode1_zero hc
 have hpos:=pcode_pos hc0
 have H1:=hd_ (monCheck_any w a0 a1 c0 c1 ps r hp hi (by omega) hr (by omega))
 rw [hc] at H1
 have H2:Hid (∀ W,Below w.heap.size w W→GivesQ 111 #[.int .i64 ps.length] W (List.replicate ps.length 0)):=fun W hW=>zero_any W ps.length (by omega) (L.below hW)
 have H3:Hid (∀ W (z:Int),Below w.heap.size w W→z∈r→Gives Tryz.prog 79 #[.int .i64 z] W (fr (z:Rat))):=fun W z hW hz=>numberR W z (hri z hz).1 (hri z hz).2 (L.below hW)
 unfold GivesOk
 unfold GivesQ at H2
 unfold fr fv at H3
 simp only [List.length_replicate] at H2
 rw [List.length_map]
 have Hr:=hd_ hr
 have Hlr:=hd_ hlr
 clear hp hi hc L hr hri hc0
 rw [hlr] at H1 ⊢
 clear hlr
 generalize hn:ps.length=n at *
 clear hn
 go_enter Tryz.func104,Tryz.ntmps104
 go_wp2_with fail
 refine cm_ H1.out ?_
 rintro e w1 ⟨rfl,hb1⟩
 have Hb1:=hd_ hb1
 clear hb1 H1
 go_wp2_with fail
 refine cm_ (H2.out _ Hb1.out) ?_
 rintro e w2 ⟨a,c,rfl,ho,hb2⟩
 have Hb2:=hd_ (Hb1.out.trans (hb2.mono Hb1.out.size))
 have Ho:=hd_ (OwnQ.lower ho Hb1.out.size)
 clear hb2 ho H2 Hb1
 go_wp2_with fail
 go_loopw [21] (fun i wr=>∃ k:Nat,k≤n∧i = .int .i64 k∧Hid (OwnQ wr w.heap.size a c (ofMix r n k))∧Hid (Below w.heap.size w wr)) (fun i _=>n - (intOf i).toNat)
 case atStart =>
  refine ⟨0,Nat.zero_le _,rfl,?_,Hb2⟩
  show OwnQ ..
  rw [show ofMix r n 0=List.replicate n 0 by simp [ofMix]]
  exact Ho.out
 case round =>
  clear Ho Hb2
  obtain ⟨k,hk,rfl,Ho,Hb⟩:=hrel
  by_cases hlt:k < n
  ·have hlt':(k:Int) < n:=by omega
   have hkr:k < r.length:=by rw [Hlr.out]; exact hlt
   obtain ⟨b2,o2,rfl,hb2,hc2⟩:=Hr.out.open (by rw [ints_length]; omega)
   have cy:=hc2 k _ (ints_get r k hkr)
   rw [← Hb.out.cell (p:=⟨b2,o2 + k,none⟩) hb2] at cy
   have Hset:=hd_ (ofMix_set r n k hlt Hlr.out)
   have Hln:=hd_ (ofMix_length r n k hk Hlr.out)
   have hmem:r[k]∈r:=List.getElem_mem hkr
   have H3k:=hd_ (fun W hW=>H3.out W r[k] hW hmem)
   clear hc2 hmem
   generalize r[k]=x at *
   go_wp2_with fail
   refine cm_ (H3k.out _ Hb.out) ?_
   rintro e w3 ⟨rfl,hb3⟩
   have Hb3:=hd_ (Hb.out.trans (hb3.mono Hb.out.size))
   have Ho3:=hd_ (Ho.out.below hb3 nr_)
   clear hb3 Hb Ho H3k cy
   obtain ⟨g,rfl,hB,hg,hcap,hcells,hfr⟩:=Ho3.out.open (by rw [Hln.out]; omega)
   obtain ⟨x0,x1⟩:=hcells k (by rw [Hln.out]; exact hlt)
   have f0:=hfr (k * 2)
   have f1:=hfr (k * 2 + 1)
   clear hcells hfr hcap
   go_wp2
   go_roundw
   case rel =>
    refine ⟨k + 1,by omega,by go_num,?_,?_⟩
    ·have:=Ho3.out.store k (by rw [Hln.out]; exact hlt) (x:Rat)
     rw [Hset.out] at this
     exact this
    ·exact (Hb3.out.setCell (p:=⟨g,k * 2,none⟩) hB _).setCell (p:=⟨g,k * 2 + 1,none⟩) hB _
   case measure=>simp [intOf]; omega
  ·have hlt':¬ (k:Int) < n:=by omega
   have hkn:k=n:=by omega
   subst hkn
   have Hfull:Hid (ofMix r k k=r.map fun x:Int=>(x:Rat)):=by
    show _=_
    unfold ofMix
    rw [Nat.sub_self,List.replicate_zero,List.append_nil,List.take_of_length_le (by rw [Hlr.out]; exact Nat.le_refl _)]
   go_wp2
   go_ret2
   refine ⟨a,c,rfl,?_,Hb.out⟩
   rw [← Hfull.out]
   exact Ho.out
end Go.Proofs.YtkoicfghplmghaaGreatDoor

namespace Go.Proofs.YtkoicfghplmghaaGreatDoor
open Go.RowKit
theorem tooLongR (w:World) (a:Rat):Gives Tryz.prog 181 #[fr a] w (.bool (!decide (shortQ a))):=by
 unfold Gives
 have Hs:Hid (∀ W,Gives Tryz.prog 162 #[fr a] W (.bool (decide (shortQ a)))):=fun W=>shortR W a
 unfold fr fv at Hs ⊢
 have B1:=hd_ ((Below.refl w.heap.size w).alloc nr_ (.cells #[.string (itx a.num),.string (dec a.den)] 58))
 generalize decide (shortQ a)=z at *
 go_enter Tryz.func181,Tryz.ntmps181
 go_wp2_with fail
 refine cm_ (Hs.out _) ?_
 rintro e w1 ⟨rfl,hb⟩
 have B2:=hd_ (B1.out.trans (hb.mono B1.out.size))
 clear hb
 go_wp2_with fail
 go_ret
 exact ⟨rfl,B2.out⟩
def shortAll (l:List Rat):Bool:=l.all fun q=>decide (shortQ q)
theorem index_long (w:World) (a:Option Addr) (c:Nat) (l:List Rat) (hr:Rd w a (cellsQ l)) (hl:l.length≤1000) :
  Calls Tryz.prog 217 #[.slice a l.length c,.func (.func 181) #[] #[]] w fun e w'=>∃ i:Int,e = .returned (.int .i64 i) ∧ -1≤i∧decide (0≤i) = !shortAll l∧Below w.heap.size w w':=by
 have Hr:=hd_ hr
 clear hr
 have Hall:Hid (∀ k,k≤l.length→(∀ j (h:j < l.length),j < k→decide (shortQ l[j])=true)→k=l.length→shortAll l=true):=fun k hk h hkl=>by
  unfold shortAll
  rw [List.all_eq_true]
  intro q hq
  obtain ⟨j,hj,rfl⟩:=List.mem_iff_getElem.1 hq
  exact h j hj (by omega)
 have Hone:Hid (∀ k (h:k < l.length),decide (shortQ l[k])=false→shortAll l=false):=fun k h hf=>by
  unfold shortAll
  rw [List.all_eq_false]
  exact ⟨l[k],List.getElem_mem h,by rw [hf]; decide⟩
 obtain ⟨m,hm⟩:∃ m,l.length=m:=⟨_,rfl⟩
 rw [hm] at hl ⊢
 have Hm:=hd_ hm
 clear hm
 generalize shortAll l=z at *
 go_enter Tryz.func217,Tryz.ntmps217
 go_wp2_with fail
 go_loopw [8] (fun i wr=>∃ k:Nat,k≤m∧i = .int .i64 k∧Hid (∀ j (h:j < l.length),j < k→decide (shortQ l[j])=true)∧Hid (Below w.heap.size w wr)) (fun i _=>m - (intOf i).toNat)
 case atStart=>exact ⟨0,Nat.zero_le _,rfl,fun j _ hj=>absurd hj (Nat.not_lt_zero _),Below.refl _ _⟩
 case round =>
  obtain ⟨k,hk,rfl,Hp,B⟩:=hrel
  by_cases hlt:k < m
  ·have hlt':(k:Int) < m:=by omega
   have hkb:k < l.length:=by rw [Hm.out]; exact hlt
   obtain ⟨b,off,rfl,hb,hcells⟩:=Hr.out.open (by rw [cellsQ_length,Hm.out]; omega)
   obtain ⟨x0,x1⟩:=cellsS_rd hcells k (by rw [List.length_map]; exact hkb)
   rw [← B.out.cell (p:=⟨b,off + k * 2,none⟩) hb,qs_getD _ k hkb] at x0
   rw [← B.out.cell (p:=⟨b,off + k * 2 + 1,none⟩) hb,qs_getD _ k hkb] at x1
   have Hc:Hid (Gives Tryz.prog 181 #[fr l[k]] wr (.bool (!decide (shortQ l[k])))):=tooLongR wr _
   unfold fr fv at Hc
   simp only [qs] at x0 x1
   clear hcells
   by_cases hs:decide (shortQ l[k])=true
   ·have Hp':Hid (∀ j (h:j < l.length),j < k + 1→decide (shortQ l[j])=true):=fun j h hj=>by
     rcases Nat.lt_or_ge j k with hh | hh
     ·exact Hp.out j h hh
     ·have e:j=k:=by omega
      subst e
      exact hs
    rw [hs] at Hc
    clear hs Hp
    generalize l[k]=x at *
    go_wp2_with fail
    refine cm_ Hc.out ?_
    rintro e w1 ⟨rfl,hb1⟩
    have B1:=hd_ (B.out.trans (hb1.mono B.out.size))
    clear hb1 Hc B x0 x1
    go_wp2_with fail
    go_roundw
    case rel=>exact ⟨k + 1,by omega,by go_num,Hp',B1⟩
    case measure=>simp [intOf]; omega
   ·have hs':decide (shortQ l[k])=false:=by simpa using hs
    have Hz:=hd_ (Hone.out k hkb hs')
    rw [hs'] at Hc
    clear hs hs' Hp
    generalize l[k]=x at *
    go_wp2_with fail
    refine cm_ Hc.out ?_
    rintro e w1 ⟨rfl,hb1⟩
    have B1:=hd_ (B.out.trans (hb1.mono B.out.size))
    clear hb1 Hc B x0 x1
    go_wp2_with fail
    go_ret
    exact ⟨k,rfl,by omega,by rw [Hz.out]; exact decide_eq_true (by omega),B1.out⟩
  ·have hlt':¬ (k:Int) < m:=by omega
   have Hz:=hd_ (Hall.out k (by rw [Hm.out]; exact hk) Hp.out (by rw [Hm.out]; omega))
   clear Hp
   go_wp2_with fail
   go_ret
   exact ⟨-1,rfl,by decide,by rw [Hz.out]; rfl,B.out⟩
theorem contains_long (w:World) (a:Option Addr) (c:Nat) (l:List Rat) (hr:Rd w a (cellsQ l)) (hl:l.length≤1000) :
  Gives Tryz.prog 180 #[.slice a l.length c,.func (.func 181) #[] #[]] w (.bool (!shortAll l)):=by
 unfold Gives
 have Hi:=hd_ (index_long w a c l hr hl)
 clear hr hl
 generalize shortAll l=z at *
 go_enter Tryz.func180,Tryz.ntmps180
 go_wp2_with fail
 refine cm_ Hi.out ?_
 rintro e w1 ⟨i,rfl,hi1,hi2,hb⟩
 have B:=hd_ hb
 have Hz:=hd_ hi2
 clear hb Hi hi2
 go_wp2_with fail
 go_ret
 exact ⟨by rw [← Hz.out]; rfl,B.out⟩
theorem result_fine (w:World) (a:Option Addr) (c:Nat) (l:List Rat) (hr:Rd w a (cellsQ l)) (hl:l.length≤1000) (hs:shortAll l=true) :
  Gives Tryz.prog 143 #[.slice a l.length c] w (.tuple #[.slice a l.length c,.int .i64 0]):=by
 unfold Gives
 have Hi:=hd_ (contains_long w a c l hr hl)
 rw [hs] at Hi
 clear hr hl hs
 go_enter Tryz.func143,Tryz.ntmps143
 go_wp2_with fail
 refine cm_ Hi.out ?_
 rintro e w1 ⟨rfl,hb⟩
 have B:=hd_ hb
 clear hb Hi
 go_wp2_with fail
 go_ret2
 exact ⟨rfl,B.out⟩
theorem result_long (w:World) (a:Option Addr) (c:Nat) (l:List Rat) (hr:Rd w a (cellsQ l)) (hl:l.length≤1000) (hs:shortAll l=false) :
  GivesErr 143 #[.slice a l.length c] w 4:=by
 unfold GivesErr Gives
 have Hi:=hd_ (contains_long w a c l hr hl)
 rw [hs] at Hi
 clear hr hl hs
 go_enter Tryz.func143,Tryz.ntmps143
 go_wp2_with fail
 refine cm_ Hi.out ?_
 rintro e w1 ⟨rfl,hb⟩
 have B:=hd_ hb
 clear hb Hi
 go_wp2_with fail
 go_ret2
 exact ⟨rfl,B.out⟩
open Classical in
noncomputable def wrongB (x:ByteArray×ByteArray):Bool := !decide (IsQ x.1 x.2)
open Classical in
noncomputable def rightAll (l:List (ByteArray×ByteArray)):Bool:=l.all fun x=>decide (IsQ x.1 x.2)
open Classical in
theorem wrongR (w:World) (s t:ByteArray) (hs:s.size≤10000000) (ht:t.size≤10000000) (L:Laid w):Gives Tryz.prog 141 #[.agg #[.string s,.string t]] w (.bool (wrongB (s,t))):=by
 have Hs:Hid (∃ z:Int,∀ W,Below w.heap.size w W→Gives Tryz.prog 142 #[.agg #[.string s,.string t]] W (.int .i64 z))∧True:=by
  refine ⟨?_,trivial⟩
  by_cases h:IsQ s t
  ·obtain ⟨q,rfl,rfl,hq⟩:=h
   exact ⟨0,fun W hW=>checkR W q hq (L.below hW)⟩
  ·exact ⟨2,fun W hW=>checkS_no W s t hs ht h (L.below hW)⟩
 have Hz:∃ z:Int,(z == 0) = !(wrongB (s,t))∧∀ W,Below w.heap.size w W→Gives Tryz.prog 142 #[.agg #[.string s,.string t]] W (.int .i64 z):=by
  by_cases h:IsQ s t
  ·refine ⟨0,by unfold wrongB; rw [decide_eq_true h]; rfl,?_⟩
   obtain ⟨q,rfl,rfl,hq⟩:=h
   exact fun W hW=>checkR W q hq (L.below hW)
  ·exact ⟨2,by unfold wrongB; rw [decide_eq_false h]; rfl,fun W hW=>checkS_no W s t hs ht h (L.below hW)⟩
 obtain ⟨z,hz,hc⟩:=Hz
 have Hc:=hd_ hc
 clear Hs hc hs ht L
 unfold Gives
 generalize wrongB (s,t)=b at *
 have B1:=hd_ ((Below.refl w.heap.size w).alloc nr_ (.cells #[.string s,.string t] 58))
 go_enter Tryz.func141,Tryz.ntmps141
 go_wp2_with fail
 refine cm_ (Hc.out _ B1.out) ?_
 rintro e w1 ⟨rfl,hb⟩
 have B2:=hd_ (B1.out.trans (hb.mono B1.out.size))
 have Hz:=hd_ hz
 clear hb hz
 go_wp2_with fail
 go_ret
 refine ⟨?_,B2.out⟩
 have:=Hz.out
 cases b
 ·have h1:(z == 0)=true:=this
  have h2:z=0:=by simpa using h1
  subst h2; rfl
 ·have h1:(z == 0)=false:=this
  have h2:z≠0:=by simpa using h1
  show Ending.returned (Value.bool _)=_
  first | rfl | (simp [h2])
end Go.Proofs.YtkoicfghplmghaaGreatDoor

namespace Go.Proofs.YtkoicfghplmghaaGreatDoor
open Go.RowKit
theorem index_wrong (w:World) (a:Option Addr) (c:Nat) (l:Pairs) (hr:Rd w a (cellsS l)) (hl:l.length≤1000) (hs:Ssz l) (L:Laid w) :
  Calls Tryz.prog 178 #[.slice a l.length c,.func (.func 141) #[] #[]] w fun e w'=>∃ i:Int,e = .returned (.int .i64 i) ∧ -1≤i∧decide (0≤i) = !rightAll l∧Below w.heap.size w w':=by
 have Hr:=hd_ hr
 have Hs:=hd_ hs
 have HL:=hd_ L
 clear hr hs L
 have Hall:Hid (∀ k,k≤l.length→(∀ j (h:j < l.length),j < k→wrongB l[j]=false)→k=l.length→rightAll l=true):=fun k hk h hkl=>by
  unfold rightAll
  rw [List.all_eq_true]
  intro q hq
  obtain ⟨j,hj,rfl⟩:=List.mem_iff_getElem.1 hq
  have:=h j hj (by omega)
  unfold wrongB at this
  simpa using this
 have Hone:Hid (∀ k (h:k < l.length),wrongB l[k]=true→rightAll l=false):=fun k h hf=>by
  unfold rightAll
  rw [List.all_eq_false]
  unfold wrongB at hf
  exact ⟨l[k],List.getElem_mem h,by simpa using hf⟩
 obtain ⟨m,hm⟩:∃ m,l.length=m:=⟨_,rfl⟩
 rw [hm] at hl ⊢
 have Hm:=hd_ hm
 clear hm
 generalize rightAll l=z at *
 go_enter Tryz.func178,Tryz.ntmps178
 go_wp2_with fail
 go_loopw [8] (fun i wr=>∃ k:Nat,k≤m∧i = .int .i64 k∧Hid (∀ j (h:j < l.length),j < k→wrongB l[j]=false)∧Hid (Below w.heap.size w wr)) (fun i _=>m - (intOf i).toNat)
 case atStart=>exact ⟨0,Nat.zero_le _,rfl,fun j _ hj=>absurd hj (Nat.not_lt_zero _),Below.refl _ _⟩
 case round =>
  obtain ⟨k,hk,rfl,Hp,B⟩:=hrel
  by_cases hlt:k < m
  ·have hlt':(k:Int) < m:=by omega
   have hkb:k < l.length:=by rw [Hm.out]; exact hlt
   obtain ⟨b,off,rfl,hb,hcells⟩:=Hr.out.open (by rw [cellsS_length,Hm.out]; omega)
   obtain ⟨x0,x1⟩:=cellsS_rd hcells k hkb
   rw [← B.out.cell (p:=⟨b,off + k * 2,none⟩) hb,show l.getD k default=l[k] by rw [List.getD_eq_getElem?_getD,List.getElem?_eq_getElem hkb]; rfl] at x0
   rw [← B.out.cell (p:=⟨b,off + k * 2 + 1,none⟩) hb,show l.getD k default=l[k] by rw [List.getD_eq_getElem?_getD,List.getElem?_eq_getElem hkb]; rfl] at x1
   have hsz:=Hs.out _ (List.getElem_mem hkb)
   have Hc:Hid (Gives Tryz.prog 141 #[.agg #[.string l[k].1,.string l[k].2]] wr (.bool (wrongB l[k]))):=wrongR wr _ _ (by omega) (by omega) (HL.out.below B.out)
   clear hcells hsz
   by_cases hs:wrongB l[k]=false
   ·have Hp':Hid (∀ j (h:j < l.length),j < k + 1→wrongB l[j]=false):=fun j h hj=>by
     rcases Nat.lt_or_ge j k with hh | hh
     ·exact Hp.out j h hh
     ·have e:j=k:=by omega
      subst e
      exact hs
    rw [hs] at Hc
    clear hs Hp
    generalize l[k]=x at *
    go_wp2_with fail
    refine cm_ Hc.out ?_
    rintro e w1 ⟨rfl,hb1⟩
    have B1:=hd_ (B.out.trans (hb1.mono B.out.size))
    clear hb1 Hc B x0 x1
    go_wp2_with fail
    go_roundw
    case rel=>exact ⟨k + 1,by omega,by go_num,Hp',B1⟩
    case measure=>simp [intOf]; omega
   ·have hs':wrongB l[k]=true:=by simpa using hs
    have Hz:=hd_ (Hone.out k hkb hs')
    rw [hs'] at Hc
    clear hs hs' Hp
    generalize l[k]=x at *
    go_wp2_with fail
    refine cm_ Hc.out ?_
    rintro e w1 ⟨rfl,hb1⟩
    have B1:=hd_ (B.out.trans (hb1.mono B.out.size))
    clear hb1 Hc B x0 x1
    go_wp2_with fail
    go_ret
    exact ⟨k,rfl,by omega,by rw [Hz.out]; exact decide_eq_true (by omega),B1.out⟩
  ·have hlt':¬ (k:Int) < m:=by omega
   have Hz:=hd_ (Hall.out k (by rw [Hm.out]; exact hk) Hp.out (by rw [Hm.out]; omega))
   clear Hp
   go_wp2_with fail
   go_ret
   exact ⟨-1,rfl,by decide,by rw [Hz.out]; rfl,B.out⟩
theorem contains_wrong (w:World) (a:Option Addr) (c:Nat) (l:Pairs) (hr:Rd w a (cellsS l)) (hl:l.length≤1000) (hs:Ssz l) (L:Laid w) :
  Gives Tryz.prog 140 #[.slice a l.length c,.func (.func 141) #[] #[]] w (.bool (!rightAll l)):=by
 unfold Gives
 have Hi:=hd_ (index_wrong w a c l hr hl hs L)
 clear hr hl hs L
 generalize rightAll l=z at *
 go_enter Tryz.func140,Tryz.ntmps140
 go_wp2_with fail
 refine cm_ Hi.out ?_
 rintro e w1 ⟨i,rfl,hi1,hi2,hb⟩
 have B:=hd_ hb
 have Hz:=hd_ hi2
 clear hb Hi hi2
 go_wp2_with fail
 go_ret
 exact ⟨by rw [← Hz.out]; rfl,B.out⟩
theorem lgo_ok (n:Nat):∀ ls:List (List Rat),(∀ l∈ls,l.length=n∧∀ q∈l,Sm 30 q)→lgo n (ls.map (List.map qs))=0
 | [],_=>rfl
 | l :: ls,h=>by
  have h1:=h l List.mem_cons_self
  rw [List.map_cons,lgo,if_pos (scode_ok h1.2 h1.1)]
  exact lgo_ok n ls fun m hm=>h m (List.mem_cons_of_mem _ hm)
theorem lcode_ok {ps:List Int} (hp:pcode ps=0) {ls:List (List Rat)} (h:∀ l∈ls,l.length=ps.length∧∀ q∈l,Sm 30 q):lcode ps (ls.map (List.map qs))=0:=by
 unfold lcode
 rw [if_pos hp]
 exact lgo_ok _ ls h
open Classical in
theorem rightAll_qs (l:List Rat) (h:∀ q∈l,Sm 400 q):rightAll (l.map qs)=true:=by
 unfold rightAll
 rw [List.all_eq_true]
 intro x hx
 obtain ⟨q,hq,rfl⟩:=List.mem_map.1 hx
 exact decide_eq_true ⟨q,rfl,rfl,h q hq⟩
def GivesSum (f:FuncId) (args:Array Value) (w:World) (l:List Rat):Prop:=if shortAll l=true then
  Calls Tryz.prog f args w fun e w'=>∃ a c,e = .returned (.tuple #[.slice a l.length c,.int .i64 0])∧Rd w' a (cellsQ l)∧Below w.heap.size w w'
 else GivesErr f args w 4
theorem combine_fine (w:World) (a0 a1 a2:Option Addr) (c0 c1 c2:Nat) (ps:List Int) (ls:List (List Rat)) (fs:List Rat) (rp:Rd w a0 (ints ps)) (hi:I64s ps) (hp:pcode ps=0) (rl:RdL w a1 (ls.map (List.map qs))) (hl:ls.length≤100)
  (h:∀ l∈ls,l.length=ps.length∧∀ q∈l,Sm 30 q) (rf:Rd w a2 (cellsQ fs)) (hf:fs.length=ls.length) (hfs:∀ q∈fs,Sm 400 q) (L:Laid w) :
  GivesSum 86 #[.slice a0 ps.length c0,.slice a1 ls.length c1,.slice a2 fs.length c2] w (sumQ ps.length ls fs):=by
 have hn:=pcode_pos hp
 have H1:=hd_ (checkAll_any w a0 a1 c0 c1 ps (ls.map (List.map qs)) rp hi (by omega) rl (by rw [List.length_map]; omega) (by
  intro l hl'
  obtain ⟨m,hm,rfl⟩:=List.mem_map.1 hl'
  exact ⟨by rw [List.length_map,(h m hm).1]; omega,ssz_ok (h m hm).2⟩) L)
 rw [lcode_ok hp h,List.length_map] at H1
 have H2:Hid (∀ W,Below w.heap.size w W→Gives Tryz.prog 140 #[.slice a2 fs.length c2,.func (.func 141) #[] #[]] W (.bool false)):=fun W hW=>by
  have:=contains_wrong W a2 c2 (fs.map qs) (rf.below hW nr_) (by rw [List.length_map]; omega) (fun x hx=>by
   obtain ⟨q,hq,rfl⟩:=List.mem_map.1 hx
   have h1:=itx_size q.num 400 (by decide) (hfs q hq).1
   have h2:=(size_lt q.den 400 (by decide)).2 (hfs q hq).2
   exact ⟨by show (itx q.num).size≤_; omega,by show (dec q.den).size≤_; omega⟩) (L.below hW)
  rw [rightAll_qs fs hfs,List.length_map] at this
  exact this
 have H3:Hid (∀ W,Below w.heap.size w W→GivesQ 78 #[.int .i64 ps.length,.slice a1 ls.length c1,.slice a2 fs.length c2] W (sumQ ps.length ls fs)):=fun W hW =>
  sum_any W a1 a2 c1 c2 ps.length ls fs 30 400 (rl.below hW nr_) (rf.below hW nr_) (fun l hl'=>(h l hl').1) hf (fun l hl'=>(h l hl').2) hfs (by omega) (by omega) (by
   have:(ls.length + 1) * (30 + 400 + 1)≤101 * (30 + 400 + 1):=Nat.mul_le_mul_right _ (by omega)
   omega) (L.below hW)
 have hsl:=sumQ_length ps.length ls fs (fun l hl'=>(h l hl').1) hf
 have H4:Hid (∀ W a c,Rd W a (cellsQ (sumQ ps.length ls fs))→shortAll (sumQ ps.length ls fs)=true→Gives Tryz.prog 143 #[.slice a (sumQ ps.length ls fs).length c] W (.tuple #[.slice a (sumQ ps.length ls fs).length c,.int .i64 0])):=fun W a c hr hs=>result_fine W a c _ hr (by omega) hs
 have H5:Hid (∀ W a c,Rd W a (cellsQ (sumQ ps.length ls fs))→shortAll (sumQ ps.length ls fs)=false→Gives Tryz.prog 143 #[.slice a (sumQ ps.length ls fs).length c] W (.tuple #[.slice none 0 0,.int .i64 4])):=fun W a c hr hs=>result_long W a c _ hr (by omega) hs
 unfold GivesQ at H3
 clear rp hi hp rl hl h rf hfs L hn hsl
 rw [hf] at *
 generalize sumQ ps.length ls fs=S at *
 generalize ps.length=n at *
 generalize ls.length=k at *
 unfold GivesSum GivesErr Gives
 by_cases hs:shortAll S=true
 ·rw [if_pos hs]
  have Hs:=hd_ hs
  clear H5 hs
  go_enter Tryz.func86,Tryz.ntmps86
  go_wp2_with fail
  refine cm_ H1.out ?_
  rintro e w1 ⟨rfl,hb1⟩
  have Hb1:=hd_ hb1
  clear hb1 H1
  go_wp2_with fail
  refine cm_ (H2.out _ Hb1.out) ?_
  rintro e w2 ⟨rfl,hb2⟩
  have Hb2:=hd_ (Hb1.out.trans (hb2.mono Hb1.out.size))
  clear hb2 H2 Hb1
  go_wp2_with fail
  refine cm_ (H3.out _ Hb2.out) ?_
  rintro e w3 ⟨a,c,rfl,ho,hb3⟩
  have Hb3:=hd_ (Hb2.out.trans (hb3.mono Hb2.out.size))
  have Hr:=hd_ ho.rd
  clear hb3 H3 Hb2 ho
  go_wp2_with fail
  refine cm_ (H4.out _ _ _ Hr.out Hs.out) ?_
  rintro e w4 ⟨rfl,hb4⟩
  have Hb4:=hd_ (Hb3.out.trans (hb4.mono Hb3.out.size))
  have Hr4:=hd_ (Hr.out.below hb4 nr_)
  clear hb4 H4 Hb3 Hr
  go_wp2_with fail
  go_ret2
  exact ⟨a,c,rfl,Hr4.out,Hb4.out⟩
 ·rw [if_neg hs]
  have Hs:Hid (shortAll S=false):=by show _=_; simpa using hs
  clear H4 hs
  go_enter Tryz.func86,Tryz.ntmps86
  go_wp2_with fail
  refine cm_ H1.out ?_
  rintro e w1 ⟨rfl,hb1⟩
  have Hb1:=hd_ hb1
  clear hb1 H1
  go_wp2_with fail
  refine cm_ (H2.out _ Hb1.out) ?_
  rintro e w2 ⟨rfl,hb2⟩
  have Hb2:=hd_ (Hb1.out.trans (hb2.mono Hb1.out.size))
  clear hb2 H2 Hb1
  go_wp2_with fail
  refine cm_ (H3.out _ Hb2.out) ?_
  rintro e w3 ⟨a,c,rfl,ho,hb3⟩
  have Hb3:=hd_ (Hb2.out.trans (hb3.mono Hb2.out.size))
  have Hr:=hd_ ho.rd
  clear hb3 H3 Hb2 ho
  go_wp2_with fail
  refine cm_ (H5.out _ _ _ Hr.out Hs.out) ?_
  rintro e w4 ⟨rfl,hb4⟩
  have Hb4:=hd_ (Hb3.out.trans (hb4.mono Hb3.out.size))
  clear hb4 H5 Hb3 Hr
  go_wp2_with fail
  go_ret2
  exact ⟨rfl,Hb4.out⟩
end Go.Proofs.YtkoicfghplmghaaGreatDoor

namespace Go.Proofs.YtkoicfghplmghaaGreatDoor
open Go.RowKit
end Go.Proofs.YtkoicfghplmghaaGreatDoor

namespace Go.Proofs.YtkoicfghplmghaaGreatDoor
open Go.RowKit
theorem ownS_own {w:World} {B c:Nat} {a:Option Addr} {l:List Rat} (h:OwnQ w B a c l):w.ownsRow B 58 2 (.slice a l.length c) l.length (cellsQ l):=by
 have:w.ownsRow B 58 2 (.slice a (l.map qs).length c) (l.map qs).length (cellsS (l.map qs)):=h
 rw [List.length_map] at this
 exact this
theorem own_ownQ {w:World} {B c:Nat} {a:Option Addr} {l:List Rat} (h:w.ownsRow B 58 2 (.slice a l.length c) l.length (cellsQ l)):OwnQ w B a c l:=by
 show w.ownsRow B 58 2 (.slice a (l.map qs).length c) (l.map qs).length (cellsS (l.map qs))
 rw [List.length_map]
 exact h
end Go.Proofs.YtkoicfghplmghaaGreatDoor

namespace Go.Proofs.YtkoicfghplmghaaGreatDoor
open Go.RowKit
end Go.Proofs.YtkoicfghplmghaaGreatDoor

namespace Go.Proofs.YtkoicfghplmghaaGreatDoor
open Go.RowKit
end Go.Proofs.YtkoicfghplmghaaGreatDoor

namespace Go.Proofs.YtkoicfghplmghaaGreatDoor
open Go.RowKit Go.Proofs.YtkoicfghplmghaaGreatDoor.RY
def combineQ (la lb:List Rat) (k m:Rat):List Rat:=List.zipWith (fun x y=>x * k + y * m) la lb
theorem combineQ_length (la lb:List Rat) (k m:Rat) (h:la.length=lb.length):(combineQ la lb k m).length=la.length:=by simp [combineQ,h]
end Go.Proofs.YtkoicfghplmghaaGreatDoor

namespace Go.Proofs.YtkoicfghplmghaaGreatDoor
open Go.RowKit
def smallP:List Int:=[2,3,5,7,11,13]
theorem lg_lgN {p n L:Nat} (hp:p∈oddP) (hn:n≤1056) (h:LN.lg p p.log2 n 1120=some L):lgN p n=L:=by
 rw [lg_digs] at h
 obtain ⟨s,hs,e⟩:=Option.map_eq_some_iff.1 h
 rw [← digs_lgN hp hn (by decide) hs,e]
theorem lg_cert:([3,5,7,11,13]:List Nat).map (fun p=>LN.lg p p.log2 1024 1120)=LN.certL.tail.map fun x=>some x.toNat:=by decide +kernel
theorem certL_head:LN.certL.head?=some (2 ^ 1024):=by decide +kernel
theorem certL_pos:∀ x∈LN.certL,(0:Int)≤x:=by decide +kernel
theorem lf_two (n:Nat):((lf n 2:Nat):Int)=2 ^ n:=by
 show ((lgN 2 n:Nat):Int)=_
 rw [lgN_two,Int.natCast_pow]; rfl
theorem mul_pow_le {a k m:Nat} (ha:a≤100) (h:7 + k≤m):a * 2 ^ k≤2 ^ m:=by
 have:a * 2 ^ k≤2 ^ 7 * 2 ^ k:=Nat.mul_le_mul_right _ (by omega)
 rw [← Nat.pow_add] at this
 exact Nat.le_trans this (Nat.pow_le_pow_right (by decide) h)
theorem certL_eq:smallP.map (fun p=>((lf 1024 p:Nat):Int))=LN.certL:=by
 have h:=lg_cert
 have h0:=certL_head
 have hp:=certL_pos
 obtain ⟨c0,c1,c2,c3,c4,c5,e⟩:∃ c0 c1 c2 c3 c4 c5,LN.certL=[c0,c1,c2,c3,c4,c5]:=⟨_,_,_,_,_,_,rfl⟩
 rw [e] at h h0 hp ⊢
 have key:∀ (p:Nat) (c:Int),p∈oddP→0≤c→LN.lg p p.log2 1024 1120=some c.toNat→((lf 1024 (p:Int):Nat):Int)=c:=fun p c hp h0 h=>by
  have:=lg_lgN hp (by decide) h
  show ((lgN p 1024:Nat):Int)=c
  rw [this]; omega
 simp only [List.map_cons,List.map_nil,List.tail_cons,List.cons.injEq,and_true] at h
 obtain ⟨h1,h2,h3,h4,h5⟩:=h
 simp only [List.head?_cons,Option.some.injEq] at h0
 have p1:=hp c1 (by simp)
 have p2:=hp c2 (by simp)
 have p3:=hp c3 (by simp)
 have p4:=hp c4 (by simp)
 have p5:=hp c5 (by simp)
 have k1:=key 3 c1 (by decide) p1 h1
 have k2:=key 5 c2 (by decide) p2 h2
 have k3:=key 7 c3 (by decide) p3 h3
 have k4:=key 11 c4 (by decide) p4 h4
 have k5:=key 13 c5 (by decide) p5 h5
 have k0:((lf 1024 2:Nat):Int)=c0:=by
  rw [h0]
  exact lf_two 1024
 show [((lf 1024 2:Nat):Int),((lf 1024 3:Nat):Int),((lf 1024 5:Nat):Int),((lf 1024 7:Nat):Int),((lf 1024 11:Nat):Int),((lf 1024 13:Nat):Int)]=_
 rw [k0]
 rw [show ((lf 1024 3:Nat):Int)=c1 from k1,show ((lf 1024 5:Nat):Int)=c2 from k2,show ((lf 1024 7:Nat):Int)=c3 from k3,show ((lf 1024 11:Nat):Int)=c4 from k4,show ((lf 1024 13:Nat):Int)=c5 from k5]
def Kb:Nat:=2 ^ 100
theorem dec_of_cert {tl:List (Int×Int)} (h1:∀ x∈tl,x.1∈smallP) (h0:∀ x∈tl,x.2≠0) (hd:(tl.map Prod.fst).Nodup) (hk:∀ x∈tl,x.2.natAbs≤Kb) (hl:tl.length≤100) (hne:tl≠[]):Dec tl:=by
 have hc:=LN.cert_ok
 rw [← certL_eq] at hc
 have hS:=@mul_pow_le tl.length 100 503 hl (by decide)
 have:=LN.ends_decide hc (by decide) tl hS hne (fun x hx=>⟨h1 x hx,h0 x hx,hk x hx⟩) hd
 unfold Dec
 rw [LN.eLo_eq,LN.eHi_eq]
 omega
def allP:List Int:=[2,3,5,7,11,13,17,19,23,29,31,37,41,43,47,53,59,61,67,71,73,79,83,89,97]
structure Good (ps:List Int) (l:List Rat):Prop where
 pr:∀ p∈ps,p∈allP
 nd:ps.Nodup
 kb:∀ x∈tlQ ps l,x.2.natAbs≤Kb
 dc:ps.length≤100→tlQ ps l≠[]→Dec (tlQ ps l)
theorem tlist_fst (D:Nat):∀ (ps:List Int) (l:List Rat),((tlist D ps l).map Prod.fst).Sublist ps
 | [],_=>by simp [tlist]
 | _ :: _,[]=>by simp [tlist]
 | p :: ps,q :: l=>by
  have ih:=tlist_fst D ps l
  unfold tlist at ih ⊢
  rw [List.zip_cons_cons,List.filterMap_cons]
  by_cases h:q.num=0
  ·simp only [h,if_true]; exact ih.cons _
  ·simp only [h,if_false]; exact ih.cons_cons _
theorem tlQ_nz {ps:List Int} {l:List Rat} {x:Int×Int} (h:x∈tlQ ps l):x.2≠0:=by
 obtain ⟨_,q,hq,hn,he⟩:=tlist_mem h
 rw [he]
 refine Int.mul_ne_zero hn ?_
 have h1:=LN.tden_dvd hq
 have h2:=LN.tden_pos' l
 have h3:0 < tden l / q.den:=Nat.div_pos (Nat.le_of_dvd h2 h1) q.den_pos
 omega
theorem allP_odd:allP=2 :: oddP.map (fun p=>((p:Nat):Int)):=by decide +kernel
theorem allP_pr {p:Int} (h:p∈allP):∃ q:Nat,p=q∧(q=2∨q∈oddP):=by
 rw [allP_odd] at h
 rcases List.mem_cons.1 h with rfl | h
 ·exact ⟨2,rfl,.inl rfl⟩
 ·obtain ⟨q,hq,rfl⟩:=List.mem_map.1 h
  exact ⟨q,rfl,.inr hq⟩
theorem small_all {p:Int} (h:p∈smallP):p∈allP:=by
 have:∀ p∈smallP,p∈allP:=by decide
 exact this p h
theorem trt_of {ps:List Int} {l:List Rat} (h1:∀ p∈ps,p∈allP) (h2:ps.Nodup):TrT (tlQ ps l) :=
 ⟨fun _ hx=>allP_pr (h1 _ (tlist_mem hx).1),fun _ hx=>tlQ_nz hx,(tlist_fst _ ps l).nodup h2⟩
theorem Good.trt {ps:List Int} {l:List Rat} (h:Good ps l):TrT (tlQ ps l):=trt_of h.pr h.nd
theorem Good.lt {ps:List Int} {l:List Rat} (h:Good ps l):∀ x∈tlQ ps l,x.2.natAbs < 2 ^ 101:=fun x hx=>Nat.lt_of_le_of_lt (h.kb x hx) (by decide)
theorem Good.dec {ps:List Int} {l:List Rat} (h:Good ps l) (hn:ps.length≤100) (hne:tlQ ps l≠[]):Dec (tlQ ps l):=h.dc hn hne
theorem tlQ_len100 {ps:List Int} {l:List Rat} (hn:ps.length≤100):(tlQ ps l).length≤100 :=
 Nat.le_trans (by have:=(tlist_fst (tden l) ps l).length_le; rw [List.length_map] at this; exact this) hn
theorem Good.small {ps:List Int} {l:List Rat} (h1:∀ p∈ps,p∈smallP) (h2:ps.Nodup) (hk:∀ x∈tlQ ps l,x.2.natAbs≤Kb):Good ps l :=
 ⟨fun p hp=>small_all (h1 p hp),h2,hk,fun hn hne=>dec_of_cert (fun _ hx=>h1 _ (tlist_mem hx).1) (trt_of (fun p hp=>small_all (h1 p hp)) h2).nz (trt_of (fun p hp=>small_all (h1 p hp)) h2).nd hk (tlQ_len100 hn) hne⟩
theorem compare_dec (w:World) (ps:List Int) (a0 a1 a2:Option Addr) (c0 c1 c2 D:Nat) (la lb:List Rat) (A:SizeOk w ps a0 a1 la D) (B:SizeOk w ps a0 a2 lb D) (L:Laid w) (hD:D≤400)
  (hq:Good ps (sumQ ps.length [la,lb] [1,-1])) :
  Gives Tryz.prog 119 #[.slice a0 ps.length c0,.slice a1 la.length c1,.slice a2 lb.length c2] w (.int .i64 (LN.sz ps (sumQ ps.length [la,lb] [1,-1]))):=by
 unfold Gives
 have HL:=hd_ L
 have HA:=hd_ A
 have HB:=hd_ B
 have HD:=hd_ hD
 have Hq:=hd_ hq
 have Hn:=hd_ A.n
 have Hr0:Hid (LN.sz ps (sumQ ps.length [la,lb] [1,-1])=LN.signT (tlQ ps (sumQ ps.length [la,lb] [1,-1]))):=hd_ rfl
 have Hnum1:Hid (∀ W,Below w.heap.size w W→Gives Tryz.prog 79 #[.int .i64 1] W (.agg #[.string (itx 1),.string (dec 1)])):=fun W hW=>number_any W 1 (by decide) (by decide) (HL.out.below hW)
 have Hnum2:Hid (∀ W,Below w.heap.size w W→Gives Tryz.prog 79 #[.int .i64 (-1)] W (.agg #[.string (itx (-1)),.string (dec 1)])):=fun W hW=>number_any W (-1) (by decide) (by decide) (HL.out.below hW)
 clear hq hD A B L
 obtain ⟨r,hr⟩:∃ r,LN.sz ps (sumQ ps.length [la,lb] [1,-1])=r:=⟨_,rfl⟩
 have Hsg:Hid (LN.signT (tlQ ps (sumQ ps.length [la,lb] [1,-1]))=r):=by show _=_; rw [← Hr0.out,hr]
 rw [hr]
 clear hr Hr0
 go_enter Tryz.func119,Tryz.ntmps119
 go_wp2_with fail
 have K1:=hd_ (heap_at w #[.slice a1 la.length c1,.slice a2 lb.length c2] 47 _ rfl)
 have B1:=hd_ ((Below.refl w.heap.size w).alloc nr_ (.cells #[.slice a1 la.length c1,.slice a2 lb.length c2] 47))
 generalize hw1:w.alloc (.cells #[.slice a1 la.length c1,.slice a2 lb.length c2] 47)=w1 at *
 clear hw1
 refine cm_ (Hnum1.out _ B1.out) ?_
 rintro e w2 ⟨rfl,hb⟩
 have K2:=hd_ (heap_kept K1.out hb nr_)
 have B2:=hd_ (B1.out.trans (hb.mono B1.out.size))
 clear hb
 go_wp2_with fail
 refine cm_ (Hnum2.out _ B2.out) ?_
 rintro e w3 ⟨rfl,hb⟩
 have K3:=hd_ (heap_kept K2.out hb nr_)
 have B3:=hd_ (B2.out.trans (hb.mono B2.out.size))
 clear hb
 go_wp2_with fail
 have K4:=hd_ (heap_old K3.out (.cells #[.string (itx 1),.string (dec 1),.string (itx (-1)),.string (dec 1)] 58))
 have B4:=hd_ (B3.out.alloc B3.out.size (.cells #[.string (itx 1),.string (dec 1),.string (itx (-1)),.string (dec 1)] 58))
 have M4:=hd_ (heap_at w3 #[.string (itx 1),.string (dec 1),.string (itx (-1)),.string (dec 1)] 58 _ rfl)
 generalize hw4:w3.alloc (.cells #[.string (itx 1),.string (dec 1),.string (itx (-1)),.string (dec 1)] 58)=w4 at *
 clear hw4
 have Hs:=hd_ (sum_pair w4 _ _ a1 a2 c1 c2 ps.length D la lb 1 (-1) K4.out M4.out (HA.out.below B4.out).rl (HB.out.below B4.out).rl HA.out.len HB.out.len HA.out.sm HB.out.sm Sm.one Sm.minus Hn.out HD.out (HL.out.below B4.out))
 refine cm_ Hs.out ?_
 rintro e w5 ⟨a5,c5,rfl,ho,hb⟩
 have Hr5:=hd_ ho.rd
 have B5:=hd_ (B4.out.trans (hb.mono B4.out.size))
 clear hb ho
 have S5:Hid (SizeOk w5 ps a0 a5 (sumQ ps.length [la,lb] [1,-1]) (2 * D + 5)) :=
  ⟨(HA.out.below B5.out).rp,Hr5.out,sum_pair_len HA.out.len HB.out.len,Hn.out,HA.out.pr,sum_pair_sm HA.out.sm HB.out.sm Sm.one Sm.minus,by have:=HD.out; omega⟩
 have Ht:=hd_ (terms_ok (c0:=c0) (c:=c5) S5.out (HL.out.below B5.out))
 go_wp2_with fail
 refine cm_ Ht.out ?_
 rintro e w6 ⟨b1,d1,b2,d2,rfl,T,hb⟩
 have B6:=hd_ (B5.out.trans (hb.mono B5.out.size))
 have Hg:Hid (Gives Tryz.prog 83 #[.agg (tcells b1 d1 b2 d2 (tlQ ps (sumQ ps.length [la,lb] [1,-1])).length (tden (sumQ ps.length [la,lb] [1,-1])))] w6 (.int .i64 r)):=by
  rw [← Hsg.out]; exact sign_dec w6 b1 b2 d1 d2 _ 101 _ T Hq.out.trt (by decide) Hq.out.lt (Hq.out.dec Hn.out) (HL.out.below B6.out)
 clear hb T
 go_wp2_with fail
 refine cm_ Hg.out ?_
 rintro e w7 ⟨rfl,hb⟩
 have B7:=hd_ (B6.out.trans (hb.mono B6.out.size))
 clear hb
 go_wp2_with fail
 go_ret
 exact ⟨rfl,B7.out⟩
theorem Compare_dec (w:World) (ps:List Int) (a0 a1 a2:Option Addr) (c0 c1 c2:Nat) (la lb:List Rat) (A:SizeOk w ps a0 a1 la 30) (B:SizeOk w ps a0 a2 lb 30) (hp:pcode ps=0) (L:Laid w)
  (hq:Good ps (sumQ ps.length [la,lb] [1,-1])) :
  Gives Tryz.prog 105 #[.slice a0 ps.length c0,.slice a1 la.length c1,.slice a2 lb.length c2] w (.tuple #[.int .i64 (LN.sz ps (sumQ ps.length [la,lb] [1,-1])),.int .i64 0]):=by
 unfold Gives
 have Hc:Hid (∀ W,Below w.heap.size w W→Gives Tryz.prog 119 #[.slice a0 ps.length c0,.slice a1 la.length c1,.slice a2 lb.length c2] W (.int .i64 (LN.sz ps (sumQ ps.length [la,lb] [1,-1])))):=fun W hW =>
  compare_dec W ps a0 a1 a2 c0 c1 c2 30 la lb (A.below hW) (B.below hW) (L.below hW) (by decide) hq
 have Hk:Hid (∀ W g,Below w.heap.size w W→W.heap[g]?=some (.cells #[.slice a1 la.length c1,.slice a2 lb.length c2] 47 (0,0))→Gives Tryz.prog 108 #[.slice a0 ps.length c0,.slice (some ⟨g,0,none⟩) 2 2] W (.int .i64 0)):=fun W g hW hg =>
  checkAll_two W ps g a0 a1 a2 c0 c1 c2 la lb (A.below hW) (B.below hW) hp (L.below hW) hg
 clear A B hp L hq
 generalize LN.sz ps (sumQ ps.length [la,lb] [1,-1])=r at *
 go_enter Tryz.func105,Tryz.ntmps105
 go_wp2_with fail
 have B1:=hd_ ((Below.refl w.heap.size w).alloc nr_ (.cells #[.slice a1 la.length c1,.slice a2 lb.length c2] 47))
 refine cm_ (Hk.out _ _ B1.out (heap_at w _ _ _ rfl)) ?_
 rintro e w1 ⟨rfl,hb⟩
 have B2:=hd_ (B1.out.trans (hb.mono B1.out.size))
 clear hb Hk B1
 go_wp2_with fail
 refine cm_ (Hc.out _ B2.out) ?_
 rintro e w2 ⟨rfl,hb⟩
 have B3:=hd_ (B2.out.trans (hb.mono B2.out.size))
 clear hb Hc
 go_wp2_with fail
 go_ret2
 exact ⟨rfl,B3.out⟩
end Go.Proofs.YtkoicfghplmghaaGreatDoor

namespace Go.Proofs.YtkoicfghplmghaaGreatDoor.LN
theorem dotI_parts (P:Int):∀ l k:List Int,dotI l k=dotI (l.map fun x=>x % P) k + P * dotI (l.map fun x=>x / P) k
 | [],_=>by simp [dotI]
 | _ :: _,[]=>by simp [dotI]
 | x :: l,y :: k=>by
  have ih:=dotI_parts P l k
  simp only [List.map_cons,dotI]
  rw [ih]
  have hx:=Int.emod_add_mul_ediv x P
  generalize x % P=r at *
  generalize x / P=q at *
  subst hx
  grind
def approx (a q:Int) (L:List Int):List Int:=L.map fun l=>(2 * q * l + a) / (2 * a)
theorem approx_length (a q:Int) (L:List Int):(approx a q L).length=L.length:=by simp [approx]
def errA (a q:Int) (L:List Int):Nat:=sumAbs (comb a (approx a q L) q L)
def nearA (a:Int) (L Q:List Int) (K S:Nat):Bool:=decide (0 < a) && Q.all fun q=>decide (errA a q L * K + q.natAbs * S < a.natAbs)
def indA (a:Int) (L Q:List Int) (V:List (List Int)) (P:Int):Bool :=
 decide (1 < P) && decide (V.length=L.length) &&
 (List.range L.length).all fun i=>decide ((combs L.length (V.getD i []) (Q.map fun q=>approx a q L)).map (fun x=>x % P)=unitRow L.length i 1)
theorem dotI_mul (P:Int):∀ u k:List Int,dotI u (k.map fun x=>P * x)=P * dotI u k
 | [],_=>by simp [dotI]
 | _ :: _,[]=>by simp [dotI]
 | a :: u,b :: k=>by
  simp only [List.map_cons,dotI]
  rw [dotI_mul P u k]
  grind
theorem ind_dvd {P:Int} {m:Nat} {U V:List (List Int)} (hU:∀ u∈U,u.length=m) (hI:∀ i,i < m→(combs m (V.getD i []) U).map (fun x=>x % P)=unitRow m i 1) (k:List Int) (hk:k.length=m) (h0:∀ u∈U,dotI u k=0) :
  ∀ x∈k,∃ y,x=P * y:=by
 intro x hx
 obtain ⟨i,hi,rfl⟩:=List.mem_iff_getElem.1 hx
 have h1:=hI i (by omega)
 have h2:=dotI_combs m k (V.getD i []) U hU h0
 rw [dotI_parts P,h1,unitRow,List.range_eq_range',dotI_unit 1 _ i 0 k,if_pos (by omega)] at h2
 rw [Nat.sub_zero,List.getD_eq_getElem?_getD,List.getElem?_eq_getElem hi,Option.getD_some,Int.one_mul] at h2
 generalize k[i]=y at *
 generalize dotI ((combs m (V.getD i []) U).map fun x=>x / P) k=q at *
 exact ⟨-q,by rw [Int.mul_neg]; omega⟩
theorem ind_zero {P:Int} (hP:1 < P) {m:Nat} {U V:List (List Int)} (hU:∀ u∈U,u.length=m) (hI:∀ i,i < m→(combs m (V.getD i []) U).map (fun x=>x % P)=unitRow m i 1) :
  ∀ (n:Nat) (k:List Int),(∀ x∈k,x.natAbs≤n)→k.length=m→(∀ u∈U,dotI u k=0)→∀ x∈k,x=0:=by
 intro n
 induction n using Nat.strongRecOn with
 | ind n ih =>
  intro k hn hk h0
  by_cases hz:n=0
  ·subst hz
   intro x hx
   have:=hn x hx
   omega
  have hd:=ind_dvd hU hI k hk h0
  have e:k=(k.map fun x=>x / P).map fun x=>P * x:=by
   rw [List.map_map]
   refine List.ext_getElem (by simp) fun i h1 h2=>?_
   obtain ⟨y,hy⟩:=hd k[i] (List.getElem_mem h1)
   rw [List.getElem_map,Function.comp_apply,hy,Int.mul_ediv_cancel_left _ (by omega)]
  have h2:∀ u∈U,dotI u (k.map fun x=>x / P)=0:=fun u hu=>by
   have h:=h0 u hu
   rw [e,dotI_mul] at h
   rcases Int.mul_eq_zero.1 h with h | h
   ·omega
   ·exact h
  have h3:∀ x∈k.map (fun x=>x / P),x.natAbs≤n / 2:=fun x hx=>by
   obtain ⟨z,hz1,rfl⟩:=List.mem_map.1 hx
   obtain ⟨y,hy⟩:=hd z hz1
   have h4:=hn z hz1
   rw [hy,Int.mul_ediv_cancel_left _ (by omega)]
   rw [hy,Int.natAbs_mul] at h4
   have h5:2 * y.natAbs≤P.natAbs * y.natAbs:=Nat.mul_le_mul_right _ (by omega)
   omega
  have h4:=ih (n / 2) (by omega) _ h3 (by rw [List.length_map]; exact hk) h2
  intro x hx
  obtain ⟨y,hy⟩:=hd x hx
  have h5:=h4 (x / P) (List.mem_map_of_mem hx)
  rw [hy,Int.mul_ediv_cancel_left _ (by omega)] at h5
  rw [hy,h5,Int.mul_zero]
theorem approx_zero {a:Int} {L Q:List Int} {V:List (List Int)} {P:Int} {K S:Nat} (hn:nearA a L Q K S=true) (hi:indA a L Q V P=true) (k:List Int) (hk:k.length=L.length) (hK:∀ x∈k,x.natAbs≤K) (hS:(dotI L k).natAbs < S) :
  ∀ x∈k,x=0:=by
 unfold nearA at hn
 unfold indA at hi
 simp only [Bool.and_eq_true,decide_eq_true_eq,List.all_eq_true,List.mem_range] at hn hi
 obtain ⟨ha,hQ⟩:=hn
 obtain ⟨⟨hP,hV⟩,hI⟩:=hi
 refine ind_zero hP (m:=L.length) (U:=Q.map fun q=>approx a q L) (V:=V) (fun u hu=>?_) hI (sumAbs k) k (fun x hx=>?_) hk fun u hu=>?_
 ·obtain ⟨q,_,rfl⟩:=List.mem_map.1 hu
  exact approx_length a q L
 ·clear hS hK hk hI hV
  unfold sumAbs
  induction k with
  | nil=>cases hx
  | cons y l ih =>
   rw [List.map_cons,List.sum_cons]
   rcases List.mem_cons.1 hx with rfl | hx
   ·omega
   ·have:=ih hx; omega
 ·obtain ⟨q,hq,rfl⟩:=List.mem_map.1 hu
  have h1:=hQ q hq
  have e:=dotI_comb a q (approx a q L) L k (approx_length a q L)
  have b:=dotI_le K (comb a (approx a q L) q L) k hK
  unfold errA at h1
  generalize dotI (approx a q L) k=f at *
  generalize dotI L k=T at *
  generalize sumAbs (comb a (approx a q L) q L) * K=A at *
  rw [e] at b
  have h3:(a * f).natAbs≤(a * f - q * T).natAbs + (q * T).natAbs:=by omega
  rw [Int.natAbs_mul,Int.natAbs_mul q T] at h3
  have h5:q.natAbs * T.natAbs≤q.natAbs * S:=Nat.mul_le_mul_left _ (by omega)
  have h6:a.natAbs * f.natAbs < a.natAbs * 1:=by omega
  have h7:f.natAbs < 1:=Nat.lt_of_mul_lt_mul_left h6
  omega
def certP25:List Nat:=[2,3,5,7,11,13,17,19,23,29,31,37,41,43,47,53,59,61,67,71,73,79,83,89,97]
def certL25:List Int:=certP25.map fun p=>if p=2 then 2 ^ 1024 else (((lg p p.log2 1024 1120).getD 0:Nat):Int)
def certQ25:List Int:=[-0x390cc4547b4cd34f887aebaadaaef6c9e2c25ec48d8f23b26f2a85d828ff28e8bf9ca1f7cfab0d284288c4b575780f820db978a62a9677ad80c583c592139,-0x260814ef7f5ac50a6006d98cfd70b43cacbe2b44c5a6acba00c9e36e133dfaec54ded4a6dbf2b1ee3d9f0170e9040519515ec50467e78cea24b2a987b6ebe,0xc1fe29faf3a552cd8de28a12e2da45a09a6f6ddd51c9fdf123231365c26467b7f0adb74fd1629cde5109fd2ce82ac31cf6a7159b88cbc009f06beb2efe7f1,0xc4d95d3690e9b65f02a176c883e8ec48cac8f51c6e6ac88155fbb552a8d107e0735dfadeafbd00dc15d7affcd74d1aedcc8b5819242d9f5374d744f37864b,0x2fbe3f25a3a7de9b5b481954d1f6339b2cd20553ab9d3ebec152b19718dccca849fa91bd57f1ef5cf6b3fd1de44fed74095a607713b59e5dab526a5bf2d1a,0xb1d4a89456513f0be0db174271d748684707ab7c465b9b152f9cfd46885d014b0b6313fdb7fb0ac0f8c0cbb84fa1114a2fc1ad81d7b46dc68888c7e484443,0xd4fb67b9eee711061c2f484eaeb6714b80931bf0be34de2758afdcfc8ab8d81f286fc368a34abbdee16567d53c8e00633cd4e3c89dc0919dbd4e6776a43bb,0xc899fb23e590a24b56a2adcd8da665a66ae2ec7e27986cc365cb27f6d6036be68c300e821eb425ea7f34efe116edeeffcaca2af99a0269f5b4261db47c314,-0x11d12dd471b033d8f64d3dd96ce360413127b1e913f3ae0a69f58fd7c784be2b7f4730a1aa0e86d39e38d5da6e24bfecc0540ab55bd835eba83548458d713,0xb926771e4e6fa1b1d854b5141a33d1ea69f18e9493e4bd4e7fc79ec59c41a85d36321c75af04f2583ea8a5d6ed566b5e9fa774026a91431b6a7df578e7459,-0x3c28cc5f354ba5a9fc8d241587fa21af31c3e6e94de0dd06347765459067893f4625b14ba63b900137e634223d3e51fc18e23feb9d937a72459c82f489561,-0xd89ae46dcc2d34099da88c0eeebe45a7fd8e4a5b978d5a347365896f552ec37edac4d764c4c88fe731af3bde3060926f6c408fa08ce000932d017724e19ee,-0x8a91da38a2dcab2db4bf4a851cf4bbad9dd11812fb953cccc63d0e4b2da4b049c2e28f859aff65c2f55d66641eec3465bf2cc38578db652cb80d1be86824c,0x895aa15dcf5659cff1497ef77c5517ab5bc635dc394b344b270487efb0c24dd81130969cbd26c4b2570453e614b36072827d534508273926630d8792f1505,0xec0ed674cca733ecec2ec718589c4165668c921ed200cb18f949421f53adfeaf33ee49b77683fd220fda76c247b919730b89f5c86cc2ae2e7467e6288190d,0x1ad4fa358f8a2b0001052337ff5f965738e9ef08c0ab36887e87053178564d3d4733548ea08b2398fa1c8ef38e9b07acf14183670a7557085e371538399213,-0xcf563fd1ab64de44118f0ef591830a98b4375aefbd7643b50b3a2c7dad2ddda31ea6a961f9ff6856f9af1536f3807caa73d0d8bccd1b1748307caca0b514,0x5076fb700c91eb0ad7590020d977e1805d604885b67160daae909a62406d3f401f66fe04cdb504d8309c6f2062ee41b2c29c45d2c01b4a6959315c698416e,-0xe7e496b0d5dae89fd6671905c3b39792af4f23aa9c33ab499c18e57447823ce03c684e8e0d3686afff015d66b6d57f8e91b97946b1f2fb236c8d62708a18a,-0x1797837a78ad5a7cb425ecd55e66c7f45320c2112aa185855f9ac4fbdd0f1a3f868873233f2a91c500731f84bf864689b9ca4ffc44787f78ed85c25d65bafe,0x1f12b1884e6ed34a5d58fcbbd9b64bb0e3620c645f1107b850710f74df8470506f39df5b2c079d54de688969e9b3be651cc671df4be8b0402deeed04d7136f,0x38773a3f3a38ff2f461cc1a498212e2699f4b44c91c4fc8fe76a273f7433e99ad868606c13df7bb8fbc1a0e307aa2305e1edc5fc67267c33693811a24a115a,-0x468f56cd9688ad4444754dc5516780d8a728601272b981c9e540ae5c7eccc37be9aaea74cc4f68a295024dd153707784d1a0f06af7b3318b43396873b153b9,0x29803f6a11e403f7ab8ab7f301e524fd966b213312929531e43177e8e94c4228b3ff35f744d7a0381b47d50f48de84c56fabfe6825e7c594421d4081a2f909,-0x3ba482035175b55cdd54937fbed1357892e1679104490919122bafa83262d982e03a473fabb598916f8baa291f85413607e809cc262654bd47d7d78594adb]
def certV25:List (List Int):=[[98,118,202,124,83,146,107,201,172,64,12,55,105,153,239,226,195,7,28,1,187,165,30,221,20],[97,27,31,158,30,77,244,51,44,105,139,212,178,232,112,144,112,50,139,194,131,126,250,243,199],[145,223,213,170,95,13,240,130,153,118,135,223,243,186,171,134,207,140,198,195,116,22,35,91,65],[127,43,6,14,138,151,250,70,62,80,184,44,115,51,176,244,145,131,206,236,45,69,179,200,133],[215,29,202,95,72,74,48,4,10,16,59,3,80,6,27,146,155,64,144,191,207,28,47,186,115],[1,23,188,40,44,144,148,45,179,1,2,131,81,130,190,174,102,201,98,127,88,72,69,149,96],[21,40,35,113,140,63,120,23,173,12,30,112,115,247,188,77,109,86,237,6,190,149,14,217,137],[165,242,4,13,24,68,242,68,11,194,105,217,200,25,217,157,134,179,219,36,80,241,64,196,176],[206,4,124,119,72,189,189,146,49,121,239,155,85,23,138,58,180,221,118,48,106,186,171,238,86],[210,99,247,60,139,154,200,40,223,202,137,227,11,116,74,91,113,69,222,174,223,137,100,238,243],[137,154,125,2,209,203,20,147,218,42,113,181,57,132,187,233,7,180,4,13,134,94,179,172,127],[179,210,49,18,55,213,151,96,5,60,141,57,148,95,99,145,82,178,219,173,202,14,84,100,228],[102,62,217,129,14,127,200,224,35,146,125,220,123,9,18,106,211,148,211,96,123,238,196,223,230],[107,242,170,28,59,5,149,152,27,153,45,77,216,213,205,218,113,101,58,81,174,221,44,184,57],[108,175,78,124,22,49,53,21,88,184,52,93,49,179,193,43,94,166,25,71,133,248,120,207,180],[190,12,33,105,31,211,119,39,220,34,3,27,122,55,99,131,239,148,215,72,248,155,198,222,150],[144,6,56,78,4,2,126,114,216,174,212,176,32,191,21,45,218,115,143,120,153,136,150,24,232],[177,196,131,171,223,9,122,185,198,226,118,98,221,101,109,186,72,130,15,250,167,241,109,149,105],[5,109,58,172,46,17,108,71,152,136,247,173,16,175,59,71,120,96,238,26,93,192,136,39,81],[186,19,103,188,193,244,223,99,12,51,155,33,75,7,116,75,27,25,162,116,163,194,41,249,169],[16,165,61,90,34,101,66,39,9,179,6,2,90,243,140,110,154,165,206,43,233,68,70,8,11],[234,230,151,18,15,70,18,94,170,185,103,207,140,194,73,45,240,94,238,202,45,181,231,74,100],[93,157,117,129,100,102,151,37,142,24,195,236,119,121,156,62,96,20,140,202,137,110,136,203,133],[34,56,244,228,180,109,49,144,4,202,26,66,171,139,244,245,65,98,96,38,169,12,38,158,59],[93,79,212,48,179,15,215,149,126,233,223,17,202,226,95,109,96,28,47,201,229,125,122,118,247]]
theorem certL25_head:certL25.head?=some (2 ^ 1024):=by decide +kernel
theorem certL25_len:certL25.length=25:=by unfold certL25; rw [List.length_map]; rfl
theorem near25_ok:nearA (2 ^ 1024) certL25 certQ25 (2 ^ 17) (2 ^ 521)=true:=by decide +kernel
theorem ind25_ok:indA (2 ^ 1024) certL25 certQ25 certV25 251=true:=by decide +kernel
theorem cert25_zero (k:List Int) (hk:k.length=certL25.length) (hK:∀ x∈k,x.natAbs≤2 ^ 17) (hS:(dotI certL25 k).natAbs < 2 ^ 521):∀ x∈k,x=0:=approx_zero near25_ok ind25_ok k hk hK hS
end Go.Proofs.YtkoicfghplmghaaGreatDoor.LN

namespace Go.Proofs.YtkoicfghplmghaaGreatDoor
open Go.RowKit
theorem LN.ends_decide_of {pr:List Int} {f:Int→Nat} {K S:Nat} (hz:∀ k:List Int,k.length=pr.length→(∀ x∈k,x.natAbs≤K)→(LN.dotI (pr.map fun p=>(f p:Int)) k).natAbs < S→∀ x∈k,x=0) (hp:pr.Nodup) (l:List (Int×Int)) (hl:l.length * K≤S) (hne:l≠[])
  (hm:∀ x∈l,x.1∈pr∧x.2≠0∧x.2.natAbs≤K) (hd:(l.map Prod.fst).Nodup):LN.hiS f (LN.negT l)≤LN.loS f l∨LN.hiS f l≤LN.loS f (LN.negT l):=by
 have h1:=LN.hiS_le f K l fun x hx=>(hm x hx).2.2
 have h2:=LN.hiS_le f K (LN.negT l) (by
  intro x hx
  obtain ⟨y,hy,rfl⟩:=List.mem_map.1 hx
  have:=(hm y hy).2.2
  show (-y.2).natAbs≤K
  omega)
 have e:(LN.negT l).length=l.length:=by simp [LN.negT]
 rw [e] at h2
 have h3:=LN.sumT_eq f l
 by_cases hT:(LN.sumT f l).natAbs < S
 ·exfalso
  rw [← LN.dotI_coef f pr hp l fun x hx=>(hm x hx).1] at hT
  have h4:=hz (pr.map fun p=>LN.coefP p l) (by simp) (by
   intro x hx
   obtain ⟨p,_,rfl⟩:=List.mem_map.1 hx
   exact LN.coefP_le K l hd (fun y hy=>(hm y hy).2.2) p) hT
  match l,hne with
  | x :: r,_ =>
   have h5:=h4 _ (List.mem_map.2 ⟨x.1,(hm x List.mem_cons_self).1,rfl⟩)
   rw [LN.coefP_mem _ hd x List.mem_cons_self] at h5
   exact (hm x List.mem_cons_self).2.1 h5
 ·omega
theorem certL25_pos:∀ x∈LN.certL25,(0:Int)≤x:=by decide +kernel
theorem lg_cert25':oddP.map (fun p=>LN.lg p p.log2 1024 1120)=LN.certL25.tail.map fun x=>some x.toNat:=by decide +kernel
theorem certL25_eq:allP.map (fun p=>((lf 1024 p:Nat):Int))=LN.certL25:=by
 have h:=lg_cert25'
 have h0:=LN.certL25_head
 have hp:=certL25_pos
 obtain ⟨c0,ct,e⟩:∃ c0 ct,LN.certL25=c0 :: ct:=⟨_,_,rfl⟩
 rw [e] at h h0 hp ⊢
 rw [allP_odd,List.map_cons]
 simp only [List.head?_cons,Option.some.injEq] at h0
 rw [lf_two,h0]
 congr 1
 rw [List.tail_cons] at h
 rw [List.map_map]
 have hp':∀ x∈ct,(0:Int)≤x:=fun x hx=>hp x (List.mem_cons_of_mem _ hx)
 clear hp h0 e
 have key:∀ (l:List Nat) (ct:List Int),(∀ p∈l,p∈oddP)→(∀ x∈ct,(0:Int)≤x)→l.map (fun p=>LN.lg p p.log2 1024 1120)=ct.map (fun x=>some x.toNat)→l.map ((fun p=>((lf 1024 p:Nat):Int)) ∘ fun p=>((p:Nat):Int))=ct:=by
  intro l
  induction l with
  | nil =>
   intro ct _ _ h
   cases ct with
   | nil=>rfl
   | cons x r=>simp at h
  | cons p l ih =>
   intro ct hl hc h
   cases ct with
   | nil=>simp at h
   | cons x r =>
    simp only [List.map_cons,List.cons.injEq] at h
    rw [List.map_cons,ih r (fun q hq=>hl q (List.mem_cons_of_mem _ hq)) (fun y hy=>hc y (List.mem_cons_of_mem _ hy)) h.2]
    congr 1
    have:=lg_lgN (hl p (List.mem_cons_self ..)) (by decide) h.1
    have hx:=hc x (List.mem_cons_self ..)
    show ((lgN p 1024:Nat):Int)=x
    rw [this]
    omega
 exact key oddP ct (fun _ h=>h) hp' h
def Ke:Nat:=2 ^ 17
theorem dec_of_cert25 {tl:List (Int×Int)} (h1:∀ x∈tl,x.1∈allP) (h0:∀ x∈tl,x.2≠0) (hd:(tl.map Prod.fst).Nodup) (hk:∀ x∈tl,x.2.natAbs≤Ke) (hl:tl.length≤100) (hne:tl≠[]):Dec tl:=by
 have hS:=@mul_pow_le tl.length 17 521 hl (by decide)
 have hz:∀ k:List Int,k.length=allP.length→(∀ x∈k,x.natAbs≤Ke)→(LN.dotI (allP.map fun p=>((lf 1024 p:Nat):Int)) k).natAbs < 2 ^ 521→∀ x∈k,x=0:=by
  intro k hk hK hT
  rw [certL25_eq] at hT
  exact LN.cert25_zero k (by rw [hk,LN.certL25_len]; rfl) hK hT
 have:=LN.ends_decide_of hz (by decide) tl hS hne (fun x hx=>⟨h1 x hx,h0 x hx,hk x hx⟩) hd
 unfold Dec
 rw [LN.eLo_eq,LN.eHi_eq]
 omega
theorem Good.all {ps:List Int} {l:List Rat} (h1:∀ p∈ps,p∈allP) (h2:ps.Nodup) (hk:∀ x∈tlQ ps l,x.2.natAbs≤Ke):Good ps l :=
 ⟨h1,h2,fun x hx=>Nat.le_trans (hk x hx) (by decide),fun hn hne=>dec_of_cert25 (fun _ hx=>h1 _ (tlist_mem hx).1) (trt_of h1 h2).nz (trt_of h1 h2).nd hk (tlQ_len100 hn) hne⟩
end Go.Proofs.YtkoicfghplmghaaGreatDoor

namespace Go.Proofs.YtkoicfghplmghaaGreatDoor.LN
end Go.Proofs.YtkoicfghplmghaaGreatDoor.LN

namespace Go.Proofs.YtkoicfghplmghaaGreatDoor.LN
def KA:Nat:=2 ^ 130
def SA:Nat:=2 ^ 354
end Go.Proofs.YtkoicfghplmghaaGreatDoor.LN

namespace Go.Proofs.YtkoicfghplmghaaGreatDoor
open Go.RowKit
theorem prod_le5 {k a:Int} (hk : -100000≤k∧k≤100000) (ha:0≤a∧a≤469762049) : -46976204900000≤k * a∧k * a≤46976204900000:=by
 have h:(k * a).natAbs≤100000 * 469762049:=by rw [Int.natAbs_mul]; exact Nat.mul_le_mul (by omega) (by omega)
 omega
theorem sums_le5:∀ (l:List (Int×Int)),(∀ x∈l,okT 100000 x)→(∀ x∈l,2≤x.1∧x.1≤97) →
  (-((l.length:Int) * 46976204900000)≤lowT l∧lowT l≤(l.length:Int) * 46976204900000)∧(-((l.length:Int) * 46976204900000)≤highT l∧highT l≤(l.length:Int) * 46976204900000)
 | [],_,_=>⟨⟨Int.le_refl _,Int.le_refl _⟩,⟨Int.le_refl _,Int.le_refl _⟩⟩
 | x :: l,h,hp=>by
  have ih:=sums_le5 l (fun y hy=>h y (List.mem_cons_of_mem _ hy)) (fun y hy=>hp y (List.mem_cons_of_mem _ hy))
  have hx:=(h x List.mem_cons_self).1
  have hq:=hp x List.mem_cons_self
  have ha:=lgA_le x.1 hq.1 hq.2
  have t1:=prod_le5 hx (show 0≤lgA x.1∧lgA x.1≤469762049 by omega)
  have t2:=prod_le5 hx (show 0≤lgB x.1∧lgB x.1≤469762049 by unfold lgB; split <;> omega)
  have e1:lowT (x :: l)=min (x.2 * lgA x.1) (x.2 * lgB x.1) + lowT l:=by simp [lowT]
  have e2:highT (x :: l)=max (x.2 * lgA x.1) (x.2 * lgB x.1) + highT l:=by simp [highT]
  rw [e1,e2,List.length_cons]
  omega
theorem lowT_le:∀ l:List (Int×Int),lowT l≤highT l
 | []=>Int.le_refl _
 | x :: l=>by
  have ih:=lowT_le l
  have e1:lowT (x :: l)=min (x.2 * lgA x.1) (x.2 * lgB x.1) + lowT l:=by simp [lowT]
  have e2:highT (x :: l)=max (x.2 * lgA x.1) (x.2 * lgB x.1) + highT l:=by simp [highT]
  rw [e1,e2]
  omega
structure QuoT (tx ty:List (Int×Int)) (d g:Nat) (q:Int):Prop where
 okx:∀ x∈tx,okT 100000 x
 oky:∀ x∈ty,okT 100000 x
 r:(0 < lowT ty∧LN.quoL (lowT tx) (lowT ty) (highT ty) g d=q∧LN.quoH (highT tx) (lowT ty) (highT ty) g d=q) ∨
   (highT ty < 0∧LN.quoL (-highT tx) (-highT ty) (-lowT ty) g d=q∧LN.quoH (-lowT tx) (-highT ty) (-lowT ty) g d=q)
 lo : -4000000000000000000≤q
 hi:q≤4000000000000000000
theorem near_says (w:World) (b1 b2:Option Addr) (d1 d2 D:Nat) (tl:List (Int×Int)) (T:TermsAt w tl b1 b2) (hl:tl.length≤6) :
  ∃ (a h:Int) (b:Bool),(b=true→(∀ x∈tl,okT 100000 x)∧a=lowT tl∧h=highT tl)∧(-300000000000000≤a∧a≤300000000000000)∧(-300000000000000≤h∧h≤300000000000000) ∧
   ∀ W,Below w.heap.size w W→Laid W→Gives Tryz.prog 172 #[.agg (tcells b1 d1 b2 d2 tl.length D),.int .i64 100000] W (.tuple #[.int .i64 a,.int .i64 h,.bool b]):=by
 by_cases ho:∀ x∈tl,okT 100000 x
 ·have hs:=sums_le5 tl ho T.p
  refine ⟨lowT tl,highT tl,true,fun _=>⟨ho,rfl,rfl⟩,by omega,by omega,fun W hW LW=>?_⟩
  have:=near_any W b1 b2 d1 d2 D tl 100000 (by decide) (by decide) T.len (T.below hW).r1 (T.below hW).r2 T.p T.z LW
  unfold nearV at this
  rw [if_pos ho] at this
  exact this
 ·refine ⟨0,0,false,fun h=>(by cases h),by decide,by decide,fun W hW LW=>?_⟩
  have:=near_any W b1 b2 d1 d2 D tl 100000 (by decide) (by decide) T.len (T.below hW).r1 (T.below hW).r2 T.p T.z LW
  unfold nearV at this
  rw [if_neg ho] at this
  exact this
theorem small_says (d:Nat) (hd:Num d):∃ (a:Int) (b:Bool),(b=true→a=d)∧0≤a∧a≤9223372036854775807∧∀ W,Laid W→Gives Tryz.prog 149 #[.string (dec d)] W (.tuple #[.int .i64 a,.bool b]):=by
 by_cases h : -9223372036854775808≤(d:Int)∧(d:Int)≤9223372036854775807
 ·refine ⟨d,true,fun _=>rfl,by omega,h.2,fun W LW=>?_⟩
  have:=smallz_any W (d:Int) hd LW
  rw [if_pos h,itx_nat] at this
  exact this
 ·refine ⟨0,false,fun h=>(by cases h),by decide,by decide,fun W LW=>?_⟩
  have:=smallz_any W (d:Int) hd LW
  rw [if_neg h,itx_nat] at this
  exact this
theorem quotient_any (w:World) (x1 x2 y1 y2:Option Addr) (e1 e2 g1 g2 d g:Nat) (tx ty:List (Int×Int)) (X:TermsAt w tx x1 x2) (Y:TermsAt w ty y1 y2) (hlx:tx.length≤6) (hly:ty.length≤6) (hd:Num d) (hg:Num g) (hd0:0 < d) (hg0:0 < g) (L:Laid w) :
  Calls Tryz.prog 191 #[.agg (tcells x1 e1 x2 e2 tx.length d),.agg (tcells y1 g1 y2 g2 ty.length g)] w fun e w'=>∃ q b,e = .returned (.tuple #[.int .i64 q,.bool b])∧(b=true→QuoT tx ty d g q)∧Below w.heap.size w w':=by
 obtain ⟨X1,X2,bx,hX,hX1,hX2,NX⟩:=near_says w x1 x2 e1 e2 d tx X hlx
 obtain ⟨Y1,Y2,by_,hY,hY1,hY2,NY⟩:=near_says w y1 y2 g1 g2 g ty Y hly
 obtain ⟨D,bd,hD,hD0,hD1,ND⟩:=small_says d hd
 obtain ⟨G,bg,hG,hG0,hG1,NG⟩:=small_says g hg
 have Hnx:Hid (∀ W,Below w.heap.size w W→Gives Tryz.prog 172 #[.agg (tcells x1 e1 x2 e2 tx.length d),.int .i64 100000] W (.tuple #[.int .i64 X1,.int .i64 X2,.bool bx])):=fun W hW=>NX W hW (L.below hW)
 have Hny:Hid (∀ W,Below w.heap.size w W→Gives Tryz.prog 172 #[.agg (tcells y1 g1 y2 g2 ty.length g),.int .i64 100000] W (.tuple #[.int .i64 Y1,.int .i64 Y2,.bool by_])):=fun W hW=>NY W hW (L.below hW)
 have Hsd:Hid (∀ W,Below w.heap.size w W→Gives Tryz.prog 149 #[.string (dec d)] W (.tuple #[.int .i64 D,.bool bd])):=fun W hW=>ND W (L.below hW)
 have Hsg:Hid (∀ W,Below w.heap.size w W→Gives Tryz.prog 149 #[.string (dec g)] W (.tuple #[.int .i64 G,.bool bg])):=fun W hW=>NG W (L.below hW)
 have R1:Hid (((w.alloc (.cells (tcells x1 e1 x2 e2 tx.length d) 141)).alloc (.cells (tcells y1 g1 y2 g2 ty.length g) 141)).heap[w.heap.size]?=some (.cells #[.slice x1 tx.length e1,.slice x2 tx.length e2,.string (dec d)] 141 (0,0))):=heap_old (heap_at w _ _ _ rfl) _
 have R2:Hid (((w.alloc (.cells (tcells x1 e1 x2 e2 tx.length d) 141)).alloc (.cells (tcells y1 g1 y2 g2 ty.length g) 141)).heap[w.heap.size + 1]?=some (.cells #[.slice y1 ty.length g1,.slice y2 ty.length g2,.string (dec g)] 141 (0,0))):=heap_at _ _ _ _ (by show (w.heap.push _).size=_; exact Array.size_push ..)
 have B0:Hid (Below w.heap.size w ((w.alloc (.cells (tcells x1 e1 x2 e2 tx.length d) 141)).alloc (.cells (tcells y1 g1 y2 g2 ty.length g) 141))):=by
  show Below _ _ _
  have b1:=(Below.refl w.heap.size w).alloc nr_ (.cells (tcells x1 e1 x2 e2 tx.length d) 141)
  exact b1.alloc b1.size _
 have HX:=hd_ hX
 have HY:=hd_ hY
 have HD:=hd_ hD
 have HG:=hd_ hG
 clear NX NY ND NG hX hY hD hG X Y L hlx hly hd hg
 generalize tx.length=n at *
 generalize ty.length=m at *
 cases bx with
 | false =>
  go_enter Tryz.func191,Tryz.ntmps191
  go_wp2_with fail
  generalize (w.alloc (.cells (tcells x1 e1 x2 e2 n d) 141)).alloc (.cells (tcells y1 g1 y2 g2 m g) 141)=W0 at *
  refine cm_ (Hnx.out _ B0.out) ?_
  rintro e W1 ⟨rfl,hb⟩
  have B1:=hd_ (B0.out.trans (hb.mono B0.out.size))
  have R3:=hd_ (heap_kept R1.out hb nr_)
  have R4:=hd_ (heap_kept R2.out hb nr_)
  clear hb B0 R1 R2 Hnx
  obtain ⟨k0,k1,k2,-⟩:=obj_cells3 R3.out
  obtain ⟨m0,m1,m2,-⟩:=obj_cells3 R4.out
  go_wp2_with fail
  refine cm_ (Hny.out _ B1.out) ?_
  rintro e W2 ⟨rfl,hb⟩
  have B2:=hd_ (B1.out.trans (hb.mono B1.out.size))
  have R5:=hd_ (heap_kept R3.out hb nr_)
  have R6:=hd_ (heap_kept R4.out hb nr_)
  clear hb B1 R3 R4 Hny k0 k1 k2 m0 m1 m2
  obtain ⟨k0,k1,k2,-⟩:=obj_cells3 R5.out
  go_wp2_with fail
  refine cm_ (Hsd.out _ B2.out) ?_
  rintro e W3 ⟨rfl,hb⟩
  have B3:=hd_ (B2.out.trans (hb.mono B2.out.size))
  have R8:=hd_ (heap_kept R6.out hb nr_)
  clear hb B2 R5 R6 Hsd k0 k1 k2
  obtain ⟨m0,m1,m2,-⟩:=obj_cells3 R8.out
  go_wp2_with fail
  refine cm_ (Hsg.out _ B3.out) ?_
  rintro e W4 ⟨rfl,hb⟩
  have B4:=hd_ (B3.out.trans (hb.mono B3.out.size))
  clear hb B3 R8 Hsg m0 m1 m2
  go_wp2_with fail
  go_ret2
  exact ⟨0,false,rfl,fun h=>(by cases h),B4.out⟩
 | true =>
  cases by_ with
  | false =>
   go_enter Tryz.func191,Tryz.ntmps191
   go_wp2_with fail
   generalize (w.alloc (.cells (tcells x1 e1 x2 e2 n d) 141)).alloc (.cells (tcells y1 g1 y2 g2 m g) 141)=W0 at *
   refine cm_ (Hnx.out _ B0.out) ?_
   rintro e W1 ⟨rfl,hb⟩
   have B1:=hd_ (B0.out.trans (hb.mono B0.out.size))
   have R3:=hd_ (heap_kept R1.out hb nr_)
   have R4:=hd_ (heap_kept R2.out hb nr_)
   clear hb B0 R1 R2 Hnx
   obtain ⟨k0,k1,k2,-⟩:=obj_cells3 R3.out
   obtain ⟨m0,m1,m2,-⟩:=obj_cells3 R4.out
   go_wp2_with fail
   refine cm_ (Hny.out _ B1.out) ?_
   rintro e W2 ⟨rfl,hb⟩
   have B2:=hd_ (B1.out.trans (hb.mono B1.out.size))
   have R5:=hd_ (heap_kept R3.out hb nr_)
   have R6:=hd_ (heap_kept R4.out hb nr_)
   clear hb B1 R3 R4 Hny k0 k1 k2 m0 m1 m2
   obtain ⟨k0,k1,k2,-⟩:=obj_cells3 R5.out
   go_wp2_with fail
   refine cm_ (Hsd.out _ B2.out) ?_
   rintro e W3 ⟨rfl,hb⟩
   have B3:=hd_ (B2.out.trans (hb.mono B2.out.size))
   have R8:=hd_ (heap_kept R6.out hb nr_)
   clear hb B2 R5 R6 Hsd k0 k1 k2
   obtain ⟨m0,m1,m2,-⟩:=obj_cells3 R8.out
   go_wp2_with fail
   refine cm_ (Hsg.out _ B3.out) ?_
   rintro e W4 ⟨rfl,hb⟩
   have B4:=hd_ (B3.out.trans (hb.mono B3.out.size))
   clear hb B3 R8 Hsg m0 m1 m2
   go_wp2_with fail
   go_ret2
   exact ⟨0,false,rfl,fun h=>(by cases h),B4.out⟩
  | true =>
   cases bd with
   | false =>
    go_enter Tryz.func191,Tryz.ntmps191
    go_wp2_with fail
    generalize (w.alloc (.cells (tcells x1 e1 x2 e2 n d) 141)).alloc (.cells (tcells y1 g1 y2 g2 m g) 141)=W0 at *
    refine cm_ (Hnx.out _ B0.out) ?_
    rintro e W1 ⟨rfl,hb⟩
    have B1:=hd_ (B0.out.trans (hb.mono B0.out.size))
    have R3:=hd_ (heap_kept R1.out hb nr_)
    have R4:=hd_ (heap_kept R2.out hb nr_)
    clear hb B0 R1 R2 Hnx
    obtain ⟨k0,k1,k2,-⟩:=obj_cells3 R3.out
    obtain ⟨m0,m1,m2,-⟩:=obj_cells3 R4.out
    go_wp2_with fail
    refine cm_ (Hny.out _ B1.out) ?_
    rintro e W2 ⟨rfl,hb⟩
    have B2:=hd_ (B1.out.trans (hb.mono B1.out.size))
    have R5:=hd_ (heap_kept R3.out hb nr_)
    have R6:=hd_ (heap_kept R4.out hb nr_)
    clear hb B1 R3 R4 Hny k0 k1 k2 m0 m1 m2
    obtain ⟨k0,k1,k2,-⟩:=obj_cells3 R5.out
    go_wp2_with fail
    refine cm_ (Hsd.out _ B2.out) ?_
    rintro e W3 ⟨rfl,hb⟩
    have B3:=hd_ (B2.out.trans (hb.mono B2.out.size))
    have R8:=hd_ (heap_kept R6.out hb nr_)
    clear hb B2 R5 R6 Hsd k0 k1 k2
    obtain ⟨m0,m1,m2,-⟩:=obj_cells3 R8.out
    go_wp2_with fail
    refine cm_ (Hsg.out _ B3.out) ?_
    rintro e W4 ⟨rfl,hb⟩
    have B4:=hd_ (B3.out.trans (hb.mono B3.out.size))
    clear hb B3 R8 Hsg m0 m1 m2
    go_wp2_with fail
    go_ret2
    exact ⟨0,false,rfl,fun h=>(by cases h),B4.out⟩
   | true =>
    cases bg with
    | false =>
     go_enter Tryz.func191,Tryz.ntmps191
     go_wp2_with fail
     generalize (w.alloc (.cells (tcells x1 e1 x2 e2 n d) 141)).alloc (.cells (tcells y1 g1 y2 g2 m g) 141)=W0 at *
     refine cm_ (Hnx.out _ B0.out) ?_
     rintro e W1 ⟨rfl,hb⟩
     have B1:=hd_ (B0.out.trans (hb.mono B0.out.size))
     have R3:=hd_ (heap_kept R1.out hb nr_)
     have R4:=hd_ (heap_kept R2.out hb nr_)
     clear hb B0 R1 R2 Hnx
     obtain ⟨k0,k1,k2,-⟩:=obj_cells3 R3.out
     obtain ⟨m0,m1,m2,-⟩:=obj_cells3 R4.out
     go_wp2_with fail
     refine cm_ (Hny.out _ B1.out) ?_
     rintro e W2 ⟨rfl,hb⟩
     have B2:=hd_ (B1.out.trans (hb.mono B1.out.size))
     have R5:=hd_ (heap_kept R3.out hb nr_)
     have R6:=hd_ (heap_kept R4.out hb nr_)
     clear hb B1 R3 R4 Hny k0 k1 k2 m0 m1 m2
     obtain ⟨k0,k1,k2,-⟩:=obj_cells3 R5.out
     go_wp2_with fail
     refine cm_ (Hsd.out _ B2.out) ?_
     rintro e W3 ⟨rfl,hb⟩
     have B3:=hd_ (B2.out.trans (hb.mono B2.out.size))
     have R8:=hd_ (heap_kept R6.out hb nr_)
     clear hb B2 R5 R6 Hsd k0 k1 k2
     obtain ⟨m0,m1,m2,-⟩:=obj_cells3 R8.out
     go_wp2_with fail
     refine cm_ (Hsg.out _ B3.out) ?_
     rintro e W4 ⟨rfl,hb⟩
     have B4:=hd_ (B3.out.trans (hb.mono B3.out.size))
     clear hb B3 R8 Hsg m0 m1 m2
     go_wp2_with fail
     go_ret2
     exact ⟨0,false,rfl,fun h=>(by cases h),B4.out⟩
    | true =>
     have hDd:=HD.out rfl
     have hGg:=HG.out rfl
     have hXx:=HX.out rfl
     have hYy:=HY.out rfl
     by_cases hD2:(10000:Int) < D
     ·clear hDd hGg hXx hYy HX HY HD HG
      go_enter Tryz.func191,Tryz.ntmps191
      go_wp2_with fail
      generalize (w.alloc (.cells (tcells x1 e1 x2 e2 n d) 141)).alloc (.cells (tcells y1 g1 y2 g2 m g) 141)=W0 at *
      refine cm_ (Hnx.out _ B0.out) ?_
      rintro e W1 ⟨rfl,hb⟩
      have B1:=hd_ (B0.out.trans (hb.mono B0.out.size))
      have R3:=hd_ (heap_kept R1.out hb nr_)
      have R4:=hd_ (heap_kept R2.out hb nr_)
      clear hb B0 R1 R2 Hnx
      obtain ⟨k0,k1,k2,-⟩:=obj_cells3 R3.out
      obtain ⟨m0,m1,m2,-⟩:=obj_cells3 R4.out
      go_wp2_with fail
      refine cm_ (Hny.out _ B1.out) ?_
      rintro e W2 ⟨rfl,hb⟩
      have B2:=hd_ (B1.out.trans (hb.mono B1.out.size))
      have R5:=hd_ (heap_kept R3.out hb nr_)
      have R6:=hd_ (heap_kept R4.out hb nr_)
      clear hb B1 R3 R4 Hny k0 k1 k2 m0 m1 m2
      obtain ⟨k0,k1,k2,-⟩:=obj_cells3 R5.out
      go_wp2_with fail
      refine cm_ (Hsd.out _ B2.out) ?_
      rintro e W3 ⟨rfl,hb⟩
      have B3:=hd_ (B2.out.trans (hb.mono B2.out.size))
      have R8:=hd_ (heap_kept R6.out hb nr_)
      clear hb B2 R5 R6 Hsd k0 k1 k2
      obtain ⟨m0,m1,m2,-⟩:=obj_cells3 R8.out
      go_wp2_with fail
      refine cm_ (Hsg.out _ B3.out) ?_
      rintro e W4 ⟨rfl,hb⟩
      have B4:=hd_ (B3.out.trans (hb.mono B3.out.size))
      clear hb B3 R8 Hsg m0 m1 m2
      go_wp2_with fail
      go_ret2
      exact ⟨0,false,rfl,fun h=>(by cases h),B4.out⟩
     by_cases hG2:(10000:Int) < G
     ·clear hDd hGg hXx hYy HX HY HD HG
      go_enter Tryz.func191,Tryz.ntmps191
      go_wp2_with fail
      generalize (w.alloc (.cells (tcells x1 e1 x2 e2 n d) 141)).alloc (.cells (tcells y1 g1 y2 g2 m g) 141)=W0 at *
      refine cm_ (Hnx.out _ B0.out) ?_
      rintro e W1 ⟨rfl,hb⟩
      have B1:=hd_ (B0.out.trans (hb.mono B0.out.size))
      have R3:=hd_ (heap_kept R1.out hb nr_)
      have R4:=hd_ (heap_kept R2.out hb nr_)
      clear hb B0 R1 R2 Hnx
      obtain ⟨k0,k1,k2,-⟩:=obj_cells3 R3.out
      obtain ⟨m0,m1,m2,-⟩:=obj_cells3 R4.out
      go_wp2_with fail
      refine cm_ (Hny.out _ B1.out) ?_
      rintro e W2 ⟨rfl,hb⟩
      have B2:=hd_ (B1.out.trans (hb.mono B1.out.size))
      have R5:=hd_ (heap_kept R3.out hb nr_)
      have R6:=hd_ (heap_kept R4.out hb nr_)
      clear hb B1 R3 R4 Hny k0 k1 k2 m0 m1 m2
      obtain ⟨k0,k1,k2,-⟩:=obj_cells3 R5.out
      go_wp2_with fail
      refine cm_ (Hsd.out _ B2.out) ?_
      rintro e W3 ⟨rfl,hb⟩
      have B3:=hd_ (B2.out.trans (hb.mono B2.out.size))
      have R8:=hd_ (heap_kept R6.out hb nr_)
      clear hb B2 R5 R6 Hsd k0 k1 k2
      obtain ⟨m0,m1,m2,-⟩:=obj_cells3 R8.out
      go_wp2_with fail
      refine cm_ (Hsg.out _ B3.out) ?_
      rintro e W4 ⟨rfl,hb⟩
      have B4:=hd_ (B3.out.trans (hb.mono B3.out.size))
      clear hb B3 R8 Hsg m0 m1 m2
      go_wp2_with fail
      go_ret2
      exact ⟨0,false,rfl,fun h=>(by cases h),B4.out⟩
     have HXx:=hd_ hXx
     have HYy:=hd_ hYy
     have HDd:=hd_ hDd
     have HGg:=hd_ hGg
     have hD3:0 < D:=by omega
     have hG3:0 < G:=by omega
     clear hXx hYy hDd hGg HX HY HD HG hd0 hg0
     by_cases hy:Y2≤0
     ·have wn1:IntKind.i64.wrap (-X1) = -X1:=iw_ _ (by omega)
      have wn2:IntKind.i64.wrap (-X2) = -X2:=iw_ _ (by omega)
      have wn3:IntKind.i64.wrap (-Y1) = -Y1:=iw_ _ (by omega)
      have wn4:IntKind.i64.wrap (-Y2) = -Y2:=iw_ _ (by omega)
      by_cases hy2 : -Y2≤0
      ·clear HXx HYy HDd HGg
       go_enter Tryz.func191,Tryz.ntmps191
       go_wp2_with fail
       generalize (w.alloc (.cells (tcells x1 e1 x2 e2 n d) 141)).alloc (.cells (tcells y1 g1 y2 g2 m g) 141)=W0 at *
       refine cm_ (Hnx.out _ B0.out) ?_
       rintro e W1 ⟨rfl,hb⟩
       have B1:=hd_ (B0.out.trans (hb.mono B0.out.size))
       have R3:=hd_ (heap_kept R1.out hb nr_)
       have R4:=hd_ (heap_kept R2.out hb nr_)
       clear hb B0 R1 R2 Hnx
       obtain ⟨k0,k1,k2,-⟩:=obj_cells3 R3.out
       obtain ⟨m0,m1,m2,-⟩:=obj_cells3 R4.out
       go_wp2_with fail
       refine cm_ (Hny.out _ B1.out) ?_
       rintro e W2 ⟨rfl,hb⟩
       have B2:=hd_ (B1.out.trans (hb.mono B1.out.size))
       have R5:=hd_ (heap_kept R3.out hb nr_)
       have R6:=hd_ (heap_kept R4.out hb nr_)
       clear hb B1 R3 R4 Hny k0 k1 k2 m0 m1 m2
       obtain ⟨k0,k1,k2,-⟩:=obj_cells3 R5.out
       go_wp2_with fail
       refine cm_ (Hsd.out _ B2.out) ?_
       rintro e W3 ⟨rfl,hb⟩
       have B3:=hd_ (B2.out.trans (hb.mono B2.out.size))
       have R8:=hd_ (heap_kept R6.out hb nr_)
       clear hb B2 R5 R6 Hsd k0 k1 k2
       obtain ⟨m0,m1,m2,-⟩:=obj_cells3 R8.out
       go_wp2_with fail
       refine cm_ (Hsg.out _ B3.out) ?_
       rintro e W4 ⟨rfl,hb⟩
       have B4:=hd_ (B3.out.trans (hb.mono B3.out.size))
       clear hb B3 R8 Hsg m0 m1 m2
       go_wp2_with fail
       go_ret2
       exact ⟨0,false,rfl,fun h=>(by cases h),B4.out⟩
      ·have hle : -Y2 ≤ -Y1:=by
        obtain ⟨u1,u2,u3⟩:=HYy.out
        rw [u2,u3]
        have:=lowT_le ty
        omega
       by_cases hx1:(-X2) < 0
       ·by_cases hx2:(-X1) < 0
        ·skip
         have r1:((-X2) * G).natAbs≤300000000000000 * 10000:=by rw [Int.natAbs_mul]; exact Nat.mul_le_mul (by omega) (by omega)
         have r2:((-X1) * G).natAbs≤300000000000000 * 10000:=by rw [Int.natAbs_mul]; exact Nat.mul_le_mul (by omega) (by omega)
         have r3:((-Y2) * D).natAbs≤300000000000000 * 10000:=by rw [Int.natAbs_mul]; exact Nat.mul_le_mul (by omega) (by omega)
         have r4:((-Y1) * D).natAbs≤300000000000000 * 10000:=by rw [Int.natAbs_mul]; exact Nat.mul_le_mul (by omega) (by omega)
         have p3:0 < (-Y2) * D:=Int.mul_pos (by omega) hD3
         have p4:0 < (-Y1) * D:=Int.mul_pos (by omega) hD3
         have w1:IntKind.i64.wrap ((-X2) * G)=(-X2) * G:=iw_ _ (by omega)
         have w2:IntKind.i64.wrap ((-X1) * G)=(-X1) * G:=iw_ _ (by omega)
         have w3:IntKind.i64.wrap ((-Y2) * D)=(-Y2) * D:=iw_ _ (by omega)
         have w4:IntKind.i64.wrap ((-Y1) * D)=(-Y1) * D:=iw_ _ (by omega)
         have D1:Hid (∀ W,Gives Tryz.prog 222 #[.int .i64 ((-X2) * G),.int .i64 ((-Y2) * D)] W (.int .i64 ((-X2) * G / ((-Y2) * D)))):=fun W=>downward_any W _ _ (by omega) p3 (by omega)
         have D2:Hid (∀ W,Gives Tryz.prog 222 #[.int .i64 ((-X1) * G),.int .i64 ((-Y1) * D)] W (.int .i64 ((-X1) * G / ((-Y1) * D)))):=fun W=>downward_any W _ _ (by omega) p4 (by omega)
         have q5:(((-X2) * G / ((-Y2) * D)).natAbs:Int)≤4000000000000000000:=by
          have:=Int.natAbs_ediv_le_natAbs ((-X2) * G) ((-Y2) * D)
          omega
         have Hq:Hid ((-X2) * G / ((-Y2) * D)=(-X1) * G / ((-Y1) * D)→QuoT tx ty d g ((-X2) * G / ((-Y2) * D))):=fun h=>by
          obtain ⟨o1,o2,o3⟩:=HXx.out
          obtain ⟨u1,u2,u3⟩:=HYy.out
          refine ⟨o1,u1,?_,by omega,by omega⟩
          rw [← o2,← o3,← u2,← u3,← HDd.out,← HGg.out]
          refine .inr ⟨by omega,?_,?_⟩
          ·unfold LN.quoL
           rw [if_pos (by omega)]
          ·unfold LN.quoH
           rw [if_pos (by omega)]
           exact h.symm
         clear r1 r2 r3 r4 p3 p4 q5 HXx HYy HDd HGg
         obtain ⟨q1,hq1⟩:∃ q,(-X2) * G / ((-Y2) * D)=q:=⟨_,rfl⟩
         obtain ⟨q2,hq2⟩:∃ q,(-X1) * G / ((-Y1) * D)=q:=⟨_,rfl⟩
         rw [hq1] at D1 Hq
         rw [hq2] at D2 Hq
         clear hq1 hq2
         go_enter Tryz.func191,Tryz.ntmps191
         go_wp2_with fail
         generalize (w.alloc (.cells (tcells x1 e1 x2 e2 n d) 141)).alloc (.cells (tcells y1 g1 y2 g2 m g) 141)=W0 at *
         refine cm_ (Hnx.out _ B0.out) ?_
         rintro e W1 ⟨rfl,hb⟩
         have B1:=hd_ (B0.out.trans (hb.mono B0.out.size))
         have R3:=hd_ (heap_kept R1.out hb nr_)
         have R4:=hd_ (heap_kept R2.out hb nr_)
         clear hb B0 R1 R2 Hnx
         obtain ⟨k0,k1,k2,-⟩:=obj_cells3 R3.out
         obtain ⟨m0,m1,m2,-⟩:=obj_cells3 R4.out
         go_wp2_with fail
         refine cm_ (Hny.out _ B1.out) ?_
         rintro e W2 ⟨rfl,hb⟩
         have B2:=hd_ (B1.out.trans (hb.mono B1.out.size))
         have R5:=hd_ (heap_kept R3.out hb nr_)
         have R6:=hd_ (heap_kept R4.out hb nr_)
         clear hb B1 R3 R4 Hny k0 k1 k2 m0 m1 m2
         obtain ⟨k0,k1,k2,-⟩:=obj_cells3 R5.out
         go_wp2_with fail
         refine cm_ (Hsd.out _ B2.out) ?_
         rintro e W3 ⟨rfl,hb⟩
         have B3:=hd_ (B2.out.trans (hb.mono B2.out.size))
         have R8:=hd_ (heap_kept R6.out hb nr_)
         clear hb B2 R5 R6 Hsd k0 k1 k2
         obtain ⟨m0,m1,m2,-⟩:=obj_cells3 R8.out
         go_wp2_with fail
         refine cm_ (Hsg.out _ B3.out) ?_
         rintro e W4 ⟨rfl,hb⟩
         have B4:=hd_ (B3.out.trans (hb.mono B3.out.size))
         clear hb B3 R8 Hsg m0 m1 m2
         go_wp2_with fail
         refine cm_ (D1.out _) ?_
         rintro e W5 ⟨rfl,hb⟩
         have B5:=hd_ (B4.out.trans (hb.mono B4.out.size))
         clear hb B4
         go_wp2_with fail
         refine cm_ (D2.out _) ?_
         rintro e W6 ⟨rfl,hb⟩
         have B6:=hd_ (B5.out.trans (hb.mono B5.out.size))
         clear hb B5
         go_wp2_with fail
         go_ret2
         exact ⟨q1,q1 == q2,rfl,fun h=>Hq.out (by simpa using h),B6.out⟩
        ·skip
         have r1:((-X2) * G).natAbs≤300000000000000 * 10000:=by rw [Int.natAbs_mul]; exact Nat.mul_le_mul (by omega) (by omega)
         have r2:((-X1) * G).natAbs≤300000000000000 * 10000:=by rw [Int.natAbs_mul]; exact Nat.mul_le_mul (by omega) (by omega)
         have r3:((-Y2) * D).natAbs≤300000000000000 * 10000:=by rw [Int.natAbs_mul]; exact Nat.mul_le_mul (by omega) (by omega)
         have r4:((-Y2) * D).natAbs≤300000000000000 * 10000:=by rw [Int.natAbs_mul]; exact Nat.mul_le_mul (by omega) (by omega)
         have p3:0 < (-Y2) * D:=Int.mul_pos (by omega) hD3
         have p4:0 < (-Y2) * D:=Int.mul_pos (by omega) hD3
         have w1:IntKind.i64.wrap ((-X2) * G)=(-X2) * G:=iw_ _ (by omega)
         have w2:IntKind.i64.wrap ((-X1) * G)=(-X1) * G:=iw_ _ (by omega)
         have w3:IntKind.i64.wrap ((-Y2) * D)=(-Y2) * D:=iw_ _ (by omega)
         have w4:IntKind.i64.wrap ((-Y2) * D)=(-Y2) * D:=iw_ _ (by omega)
         have D1:Hid (∀ W,Gives Tryz.prog 222 #[.int .i64 ((-X2) * G),.int .i64 ((-Y2) * D)] W (.int .i64 ((-X2) * G / ((-Y2) * D)))):=fun W=>downward_any W _ _ (by omega) p3 (by omega)
         have D2:Hid (∀ W,Gives Tryz.prog 222 #[.int .i64 ((-X1) * G),.int .i64 ((-Y2) * D)] W (.int .i64 ((-X1) * G / ((-Y2) * D)))):=fun W=>downward_any W _ _ (by omega) p4 (by omega)
         have q5:(((-X2) * G / ((-Y2) * D)).natAbs:Int)≤4000000000000000000:=by
          have:=Int.natAbs_ediv_le_natAbs ((-X2) * G) ((-Y2) * D)
          omega
         have Hq:Hid ((-X2) * G / ((-Y2) * D)=(-X1) * G / ((-Y2) * D)→QuoT tx ty d g ((-X2) * G / ((-Y2) * D))):=fun h=>by
          obtain ⟨o1,o2,o3⟩:=HXx.out
          obtain ⟨u1,u2,u3⟩:=HYy.out
          refine ⟨o1,u1,?_,by omega,by omega⟩
          rw [← o2,← o3,← u2,← u3,← HDd.out,← HGg.out]
          refine .inr ⟨by omega,?_,?_⟩
          ·unfold LN.quoL
           rw [if_pos (by omega)]
          ·unfold LN.quoH
           rw [if_neg (by omega)]
           exact h.symm
         clear r1 r2 r3 r4 p3 p4 q5 HXx HYy HDd HGg
         obtain ⟨q1,hq1⟩:∃ q,(-X2) * G / ((-Y2) * D)=q:=⟨_,rfl⟩
         obtain ⟨q2,hq2⟩:∃ q,(-X1) * G / ((-Y2) * D)=q:=⟨_,rfl⟩
         rw [hq1] at D1 Hq
         rw [hq2] at D2 Hq
         clear hq1 hq2
         go_enter Tryz.func191,Tryz.ntmps191
         go_wp2_with fail
         generalize (w.alloc (.cells (tcells x1 e1 x2 e2 n d) 141)).alloc (.cells (tcells y1 g1 y2 g2 m g) 141)=W0 at *
         refine cm_ (Hnx.out _ B0.out) ?_
         rintro e W1 ⟨rfl,hb⟩
         have B1:=hd_ (B0.out.trans (hb.mono B0.out.size))
         have R3:=hd_ (heap_kept R1.out hb nr_)
         have R4:=hd_ (heap_kept R2.out hb nr_)
         clear hb B0 R1 R2 Hnx
         obtain ⟨k0,k1,k2,-⟩:=obj_cells3 R3.out
         obtain ⟨m0,m1,m2,-⟩:=obj_cells3 R4.out
         go_wp2_with fail
         refine cm_ (Hny.out _ B1.out) ?_
         rintro e W2 ⟨rfl,hb⟩
         have B2:=hd_ (B1.out.trans (hb.mono B1.out.size))
         have R5:=hd_ (heap_kept R3.out hb nr_)
         have R6:=hd_ (heap_kept R4.out hb nr_)
         clear hb B1 R3 R4 Hny k0 k1 k2 m0 m1 m2
         obtain ⟨k0,k1,k2,-⟩:=obj_cells3 R5.out
         go_wp2_with fail
         refine cm_ (Hsd.out _ B2.out) ?_
         rintro e W3 ⟨rfl,hb⟩
         have B3:=hd_ (B2.out.trans (hb.mono B2.out.size))
         have R8:=hd_ (heap_kept R6.out hb nr_)
         clear hb B2 R5 R6 Hsd k0 k1 k2
         obtain ⟨m0,m1,m2,-⟩:=obj_cells3 R8.out
         go_wp2_with fail
         refine cm_ (Hsg.out _ B3.out) ?_
         rintro e W4 ⟨rfl,hb⟩
         have B4:=hd_ (B3.out.trans (hb.mono B3.out.size))
         clear hb B3 R8 Hsg m0 m1 m2
         go_wp2_with fail
         refine cm_ (D1.out _) ?_
         rintro e W5 ⟨rfl,hb⟩
         have B5:=hd_ (B4.out.trans (hb.mono B4.out.size))
         clear hb B4
         go_wp2_with fail
         refine cm_ (D2.out _) ?_
         rintro e W6 ⟨rfl,hb⟩
         have B6:=hd_ (B5.out.trans (hb.mono B5.out.size))
         clear hb B5
         go_wp2_with fail
         go_ret2
         exact ⟨q1,q1 == q2,rfl,fun h=>Hq.out (by simpa using h),B6.out⟩
       ·by_cases hx2:(-X1) < 0
        ·skip
         have r1:((-X2) * G).natAbs≤300000000000000 * 10000:=by rw [Int.natAbs_mul]; exact Nat.mul_le_mul (by omega) (by omega)
         have r2:((-X1) * G).natAbs≤300000000000000 * 10000:=by rw [Int.natAbs_mul]; exact Nat.mul_le_mul (by omega) (by omega)
         have r3:((-Y1) * D).natAbs≤300000000000000 * 10000:=by rw [Int.natAbs_mul]; exact Nat.mul_le_mul (by omega) (by omega)
         have r4:((-Y1) * D).natAbs≤300000000000000 * 10000:=by rw [Int.natAbs_mul]; exact Nat.mul_le_mul (by omega) (by omega)
         have p3:0 < (-Y1) * D:=Int.mul_pos (by omega) hD3
         have p4:0 < (-Y1) * D:=Int.mul_pos (by omega) hD3
         have w1:IntKind.i64.wrap ((-X2) * G)=(-X2) * G:=iw_ _ (by omega)
         have w2:IntKind.i64.wrap ((-X1) * G)=(-X1) * G:=iw_ _ (by omega)
         have w3:IntKind.i64.wrap ((-Y1) * D)=(-Y1) * D:=iw_ _ (by omega)
         have w4:IntKind.i64.wrap ((-Y1) * D)=(-Y1) * D:=iw_ _ (by omega)
         have D1:Hid (∀ W,Gives Tryz.prog 222 #[.int .i64 ((-X2) * G),.int .i64 ((-Y1) * D)] W (.int .i64 ((-X2) * G / ((-Y1) * D)))):=fun W=>downward_any W _ _ (by omega) p3 (by omega)
         have D2:Hid (∀ W,Gives Tryz.prog 222 #[.int .i64 ((-X1) * G),.int .i64 ((-Y1) * D)] W (.int .i64 ((-X1) * G / ((-Y1) * D)))):=fun W=>downward_any W _ _ (by omega) p4 (by omega)
         have q5:(((-X2) * G / ((-Y1) * D)).natAbs:Int)≤4000000000000000000:=by
          have:=Int.natAbs_ediv_le_natAbs ((-X2) * G) ((-Y1) * D)
          omega
         have Hq:Hid ((-X2) * G / ((-Y1) * D)=(-X1) * G / ((-Y1) * D)→QuoT tx ty d g ((-X2) * G / ((-Y1) * D))):=fun h=>by
          obtain ⟨o1,o2,o3⟩:=HXx.out
          obtain ⟨u1,u2,u3⟩:=HYy.out
          refine ⟨o1,u1,?_,by omega,by omega⟩
          rw [← o2,← o3,← u2,← u3,← HDd.out,← HGg.out]
          refine .inr ⟨by omega,?_,?_⟩
          ·unfold LN.quoL
           rw [if_neg (by omega)]
          ·unfold LN.quoH
           rw [if_pos (by omega)]
           exact h.symm
         clear r1 r2 r3 r4 p3 p4 q5 HXx HYy HDd HGg
         obtain ⟨q1,hq1⟩:∃ q,(-X2) * G / ((-Y1) * D)=q:=⟨_,rfl⟩
         obtain ⟨q2,hq2⟩:∃ q,(-X1) * G / ((-Y1) * D)=q:=⟨_,rfl⟩
         rw [hq1] at D1 Hq
         rw [hq2] at D2 Hq
         clear hq1 hq2
         go_enter Tryz.func191,Tryz.ntmps191
         go_wp2_with fail
         generalize (w.alloc (.cells (tcells x1 e1 x2 e2 n d) 141)).alloc (.cells (tcells y1 g1 y2 g2 m g) 141)=W0 at *
         refine cm_ (Hnx.out _ B0.out) ?_
         rintro e W1 ⟨rfl,hb⟩
         have B1:=hd_ (B0.out.trans (hb.mono B0.out.size))
         have R3:=hd_ (heap_kept R1.out hb nr_)
         have R4:=hd_ (heap_kept R2.out hb nr_)
         clear hb B0 R1 R2 Hnx
         obtain ⟨k0,k1,k2,-⟩:=obj_cells3 R3.out
         obtain ⟨m0,m1,m2,-⟩:=obj_cells3 R4.out
         go_wp2_with fail
         refine cm_ (Hny.out _ B1.out) ?_
         rintro e W2 ⟨rfl,hb⟩
         have B2:=hd_ (B1.out.trans (hb.mono B1.out.size))
         have R5:=hd_ (heap_kept R3.out hb nr_)
         have R6:=hd_ (heap_kept R4.out hb nr_)
         clear hb B1 R3 R4 Hny k0 k1 k2 m0 m1 m2
         obtain ⟨k0,k1,k2,-⟩:=obj_cells3 R5.out
         go_wp2_with fail
         refine cm_ (Hsd.out _ B2.out) ?_
         rintro e W3 ⟨rfl,hb⟩
         have B3:=hd_ (B2.out.trans (hb.mono B2.out.size))
         have R8:=hd_ (heap_kept R6.out hb nr_)
         clear hb B2 R5 R6 Hsd k0 k1 k2
         obtain ⟨m0,m1,m2,-⟩:=obj_cells3 R8.out
         go_wp2_with fail
         refine cm_ (Hsg.out _ B3.out) ?_
         rintro e W4 ⟨rfl,hb⟩
         have B4:=hd_ (B3.out.trans (hb.mono B3.out.size))
         clear hb B3 R8 Hsg m0 m1 m2
         go_wp2_with fail
         refine cm_ (D1.out _) ?_
         rintro e W5 ⟨rfl,hb⟩
         have B5:=hd_ (B4.out.trans (hb.mono B4.out.size))
         clear hb B4
         go_wp2_with fail
         refine cm_ (D2.out _) ?_
         rintro e W6 ⟨rfl,hb⟩
         have B6:=hd_ (B5.out.trans (hb.mono B5.out.size))
         clear hb B5
         go_wp2_with fail
         go_ret2
         exact ⟨q1,q1 == q2,rfl,fun h=>Hq.out (by simpa using h),B6.out⟩
        ·skip
         have r1:((-X2) * G).natAbs≤300000000000000 * 10000:=by rw [Int.natAbs_mul]; exact Nat.mul_le_mul (by omega) (by omega)
         have r2:((-X1) * G).natAbs≤300000000000000 * 10000:=by rw [Int.natAbs_mul]; exact Nat.mul_le_mul (by omega) (by omega)
         have r3:((-Y1) * D).natAbs≤300000000000000 * 10000:=by rw [Int.natAbs_mul]; exact Nat.mul_le_mul (by omega) (by omega)
         have r4:((-Y2) * D).natAbs≤300000000000000 * 10000:=by rw [Int.natAbs_mul]; exact Nat.mul_le_mul (by omega) (by omega)
         have p3:0 < (-Y1) * D:=Int.mul_pos (by omega) hD3
         have p4:0 < (-Y2) * D:=Int.mul_pos (by omega) hD3
         have w1:IntKind.i64.wrap ((-X2) * G)=(-X2) * G:=iw_ _ (by omega)
         have w2:IntKind.i64.wrap ((-X1) * G)=(-X1) * G:=iw_ _ (by omega)
         have w3:IntKind.i64.wrap ((-Y1) * D)=(-Y1) * D:=iw_ _ (by omega)
         have w4:IntKind.i64.wrap ((-Y2) * D)=(-Y2) * D:=iw_ _ (by omega)
         have D1:Hid (∀ W,Gives Tryz.prog 222 #[.int .i64 ((-X2) * G),.int .i64 ((-Y1) * D)] W (.int .i64 ((-X2) * G / ((-Y1) * D)))):=fun W=>downward_any W _ _ (by omega) p3 (by omega)
         have D2:Hid (∀ W,Gives Tryz.prog 222 #[.int .i64 ((-X1) * G),.int .i64 ((-Y2) * D)] W (.int .i64 ((-X1) * G / ((-Y2) * D)))):=fun W=>downward_any W _ _ (by omega) p4 (by omega)
         have q5:(((-X2) * G / ((-Y1) * D)).natAbs:Int)≤4000000000000000000:=by
          have:=Int.natAbs_ediv_le_natAbs ((-X2) * G) ((-Y1) * D)
          omega
         have Hq:Hid ((-X2) * G / ((-Y1) * D)=(-X1) * G / ((-Y2) * D)→QuoT tx ty d g ((-X2) * G / ((-Y1) * D))):=fun h=>by
          obtain ⟨o1,o2,o3⟩:=HXx.out
          obtain ⟨u1,u2,u3⟩:=HYy.out
          refine ⟨o1,u1,?_,by omega,by omega⟩
          rw [← o2,← o3,← u2,← u3,← HDd.out,← HGg.out]
          refine .inr ⟨by omega,?_,?_⟩
          ·unfold LN.quoL
           rw [if_neg (by omega)]
          ·unfold LN.quoH
           rw [if_neg (by omega)]
           exact h.symm
         clear r1 r2 r3 r4 p3 p4 q5 HXx HYy HDd HGg
         obtain ⟨q1,hq1⟩:∃ q,(-X2) * G / ((-Y1) * D)=q:=⟨_,rfl⟩
         obtain ⟨q2,hq2⟩:∃ q,(-X1) * G / ((-Y2) * D)=q:=⟨_,rfl⟩
         rw [hq1] at D1 Hq
         rw [hq2] at D2 Hq
         clear hq1 hq2
         go_enter Tryz.func191,Tryz.ntmps191
         go_wp2_with fail
         generalize (w.alloc (.cells (tcells x1 e1 x2 e2 n d) 141)).alloc (.cells (tcells y1 g1 y2 g2 m g) 141)=W0 at *
         refine cm_ (Hnx.out _ B0.out) ?_
         rintro e W1 ⟨rfl,hb⟩
         have B1:=hd_ (B0.out.trans (hb.mono B0.out.size))
         have R3:=hd_ (heap_kept R1.out hb nr_)
         have R4:=hd_ (heap_kept R2.out hb nr_)
         clear hb B0 R1 R2 Hnx
         obtain ⟨k0,k1,k2,-⟩:=obj_cells3 R3.out
         obtain ⟨m0,m1,m2,-⟩:=obj_cells3 R4.out
         go_wp2_with fail
         refine cm_ (Hny.out _ B1.out) ?_
         rintro e W2 ⟨rfl,hb⟩
         have B2:=hd_ (B1.out.trans (hb.mono B1.out.size))
         have R5:=hd_ (heap_kept R3.out hb nr_)
         have R6:=hd_ (heap_kept R4.out hb nr_)
         clear hb B1 R3 R4 Hny k0 k1 k2 m0 m1 m2
         obtain ⟨k0,k1,k2,-⟩:=obj_cells3 R5.out
         go_wp2_with fail
         refine cm_ (Hsd.out _ B2.out) ?_
         rintro e W3 ⟨rfl,hb⟩
         have B3:=hd_ (B2.out.trans (hb.mono B2.out.size))
         have R8:=hd_ (heap_kept R6.out hb nr_)
         clear hb B2 R5 R6 Hsd k0 k1 k2
         obtain ⟨m0,m1,m2,-⟩:=obj_cells3 R8.out
         go_wp2_with fail
         refine cm_ (Hsg.out _ B3.out) ?_
         rintro e W4 ⟨rfl,hb⟩
         have B4:=hd_ (B3.out.trans (hb.mono B3.out.size))
         clear hb B3 R8 Hsg m0 m1 m2
         go_wp2_with fail
         refine cm_ (D1.out _) ?_
         rintro e W5 ⟨rfl,hb⟩
         have B5:=hd_ (B4.out.trans (hb.mono B4.out.size))
         clear hb B4
         go_wp2_with fail
         refine cm_ (D2.out _) ?_
         rintro e W6 ⟨rfl,hb⟩
         have B6:=hd_ (B5.out.trans (hb.mono B5.out.size))
         clear hb B5
         go_wp2_with fail
         go_ret2
         exact ⟨q1,q1 == q2,rfl,fun h=>Hq.out (by simpa using h),B6.out⟩
     ·by_cases hy2:Y1≤0
      ·clear HXx HYy HDd HGg
       go_enter Tryz.func191,Tryz.ntmps191
       go_wp2_with fail
       generalize (w.alloc (.cells (tcells x1 e1 x2 e2 n d) 141)).alloc (.cells (tcells y1 g1 y2 g2 m g) 141)=W0 at *
       refine cm_ (Hnx.out _ B0.out) ?_
       rintro e W1 ⟨rfl,hb⟩
       have B1:=hd_ (B0.out.trans (hb.mono B0.out.size))
       have R3:=hd_ (heap_kept R1.out hb nr_)
       have R4:=hd_ (heap_kept R2.out hb nr_)
       clear hb B0 R1 R2 Hnx
       obtain ⟨k0,k1,k2,-⟩:=obj_cells3 R3.out
       obtain ⟨m0,m1,m2,-⟩:=obj_cells3 R4.out
       go_wp2_with fail
       refine cm_ (Hny.out _ B1.out) ?_
       rintro e W2 ⟨rfl,hb⟩
       have B2:=hd_ (B1.out.trans (hb.mono B1.out.size))
       have R5:=hd_ (heap_kept R3.out hb nr_)
       have R6:=hd_ (heap_kept R4.out hb nr_)
       clear hb B1 R3 R4 Hny k0 k1 k2 m0 m1 m2
       obtain ⟨k0,k1,k2,-⟩:=obj_cells3 R5.out
       go_wp2_with fail
       refine cm_ (Hsd.out _ B2.out) ?_
       rintro e W3 ⟨rfl,hb⟩
       have B3:=hd_ (B2.out.trans (hb.mono B2.out.size))
       have R8:=hd_ (heap_kept R6.out hb nr_)
       clear hb B2 R5 R6 Hsd k0 k1 k2
       obtain ⟨m0,m1,m2,-⟩:=obj_cells3 R8.out
       go_wp2_with fail
       refine cm_ (Hsg.out _ B3.out) ?_
       rintro e W4 ⟨rfl,hb⟩
       have B4:=hd_ (B3.out.trans (hb.mono B3.out.size))
       clear hb B3 R8 Hsg m0 m1 m2
       go_wp2_with fail
       go_ret2
       exact ⟨0,false,rfl,fun h=>(by cases h),B4.out⟩
      ·skip
       by_cases hx1:X1 < 0
       ·by_cases hx2:X2 < 0
        ·skip
         have r1:(X1 * G).natAbs≤300000000000000 * 10000:=by rw [Int.natAbs_mul]; exact Nat.mul_le_mul (by omega) (by omega)
         have r2:(X2 * G).natAbs≤300000000000000 * 10000:=by rw [Int.natAbs_mul]; exact Nat.mul_le_mul (by omega) (by omega)
         have r3:(Y1 * D).natAbs≤300000000000000 * 10000:=by rw [Int.natAbs_mul]; exact Nat.mul_le_mul (by omega) (by omega)
         have r4:(Y2 * D).natAbs≤300000000000000 * 10000:=by rw [Int.natAbs_mul]; exact Nat.mul_le_mul (by omega) (by omega)
         have p3:0 < Y1 * D:=Int.mul_pos (by omega) hD3
         have p4:0 < Y2 * D:=Int.mul_pos (by omega) hD3
         have w1:IntKind.i64.wrap (X1 * G)=X1 * G:=iw_ _ (by omega)
         have w2:IntKind.i64.wrap (X2 * G)=X2 * G:=iw_ _ (by omega)
         have w3:IntKind.i64.wrap (Y1 * D)=Y1 * D:=iw_ _ (by omega)
         have w4:IntKind.i64.wrap (Y2 * D)=Y2 * D:=iw_ _ (by omega)
         have D1:Hid (∀ W,Gives Tryz.prog 222 #[.int .i64 (X1 * G),.int .i64 (Y1 * D)] W (.int .i64 (X1 * G / (Y1 * D)))):=fun W=>downward_any W _ _ (by omega) p3 (by omega)
         have D2:Hid (∀ W,Gives Tryz.prog 222 #[.int .i64 (X2 * G),.int .i64 (Y2 * D)] W (.int .i64 (X2 * G / (Y2 * D)))):=fun W=>downward_any W _ _ (by omega) p4 (by omega)
         have q5:((X1 * G / (Y1 * D)).natAbs:Int)≤4000000000000000000:=by
          have:=Int.natAbs_ediv_le_natAbs (X1 * G) (Y1 * D)
          omega
         have Hq:Hid (X1 * G / (Y1 * D)=X2 * G / (Y2 * D)→QuoT tx ty d g (X1 * G / (Y1 * D))):=fun h=>by
          obtain ⟨o1,o2,o3⟩:=HXx.out
          obtain ⟨u1,u2,u3⟩:=HYy.out
          refine ⟨o1,u1,?_,by omega,by omega⟩
          rw [← o2,← o3,← u2,← u3,← HDd.out,← HGg.out]
          refine .inl ⟨by omega,?_,?_⟩
          ·unfold LN.quoL
           rw [if_pos (by omega)]
          ·unfold LN.quoH
           rw [if_pos (by omega)]
           exact h.symm
         clear r1 r2 r3 r4 p3 p4 q5 HXx HYy HDd HGg
         obtain ⟨q1,hq1⟩:∃ q,X1 * G / (Y1 * D)=q:=⟨_,rfl⟩
         obtain ⟨q2,hq2⟩:∃ q,X2 * G / (Y2 * D)=q:=⟨_,rfl⟩
         rw [hq1] at D1 Hq
         rw [hq2] at D2 Hq
         clear hq1 hq2
         go_enter Tryz.func191,Tryz.ntmps191
         go_wp2_with fail
         generalize (w.alloc (.cells (tcells x1 e1 x2 e2 n d) 141)).alloc (.cells (tcells y1 g1 y2 g2 m g) 141)=W0 at *
         refine cm_ (Hnx.out _ B0.out) ?_
         rintro e W1 ⟨rfl,hb⟩
         have B1:=hd_ (B0.out.trans (hb.mono B0.out.size))
         have R3:=hd_ (heap_kept R1.out hb nr_)
         have R4:=hd_ (heap_kept R2.out hb nr_)
         clear hb B0 R1 R2 Hnx
         obtain ⟨k0,k1,k2,-⟩:=obj_cells3 R3.out
         obtain ⟨m0,m1,m2,-⟩:=obj_cells3 R4.out
         go_wp2_with fail
         refine cm_ (Hny.out _ B1.out) ?_
         rintro e W2 ⟨rfl,hb⟩
         have B2:=hd_ (B1.out.trans (hb.mono B1.out.size))
         have R5:=hd_ (heap_kept R3.out hb nr_)
         have R6:=hd_ (heap_kept R4.out hb nr_)
         clear hb B1 R3 R4 Hny k0 k1 k2 m0 m1 m2
         obtain ⟨k0,k1,k2,-⟩:=obj_cells3 R5.out
         go_wp2_with fail
         refine cm_ (Hsd.out _ B2.out) ?_
         rintro e W3 ⟨rfl,hb⟩
         have B3:=hd_ (B2.out.trans (hb.mono B2.out.size))
         have R8:=hd_ (heap_kept R6.out hb nr_)
         clear hb B2 R5 R6 Hsd k0 k1 k2
         obtain ⟨m0,m1,m2,-⟩:=obj_cells3 R8.out
         go_wp2_with fail
         refine cm_ (Hsg.out _ B3.out) ?_
         rintro e W4 ⟨rfl,hb⟩
         have B4:=hd_ (B3.out.trans (hb.mono B3.out.size))
         clear hb B3 R8 Hsg m0 m1 m2
         go_wp2_with fail
         refine cm_ (D1.out _) ?_
         rintro e W5 ⟨rfl,hb⟩
         have B5:=hd_ (B4.out.trans (hb.mono B4.out.size))
         clear hb B4
         go_wp2_with fail
         refine cm_ (D2.out _) ?_
         rintro e W6 ⟨rfl,hb⟩
         have B6:=hd_ (B5.out.trans (hb.mono B5.out.size))
         clear hb B5
         go_wp2_with fail
         go_ret2
         exact ⟨q1,q1 == q2,rfl,fun h=>Hq.out (by simpa using h),B6.out⟩
        ·skip
         have r1:(X1 * G).natAbs≤300000000000000 * 10000:=by rw [Int.natAbs_mul]; exact Nat.mul_le_mul (by omega) (by omega)
         have r2:(X2 * G).natAbs≤300000000000000 * 10000:=by rw [Int.natAbs_mul]; exact Nat.mul_le_mul (by omega) (by omega)
         have r3:(Y1 * D).natAbs≤300000000000000 * 10000:=by rw [Int.natAbs_mul]; exact Nat.mul_le_mul (by omega) (by omega)
         have r4:(Y1 * D).natAbs≤300000000000000 * 10000:=by rw [Int.natAbs_mul]; exact Nat.mul_le_mul (by omega) (by omega)
         have p3:0 < Y1 * D:=Int.mul_pos (by omega) hD3
         have p4:0 < Y1 * D:=Int.mul_pos (by omega) hD3
         have w1:IntKind.i64.wrap (X1 * G)=X1 * G:=iw_ _ (by omega)
         have w2:IntKind.i64.wrap (X2 * G)=X2 * G:=iw_ _ (by omega)
         have w3:IntKind.i64.wrap (Y1 * D)=Y1 * D:=iw_ _ (by omega)
         have w4:IntKind.i64.wrap (Y1 * D)=Y1 * D:=iw_ _ (by omega)
         have D1:Hid (∀ W,Gives Tryz.prog 222 #[.int .i64 (X1 * G),.int .i64 (Y1 * D)] W (.int .i64 (X1 * G / (Y1 * D)))):=fun W=>downward_any W _ _ (by omega) p3 (by omega)
         have D2:Hid (∀ W,Gives Tryz.prog 222 #[.int .i64 (X2 * G),.int .i64 (Y1 * D)] W (.int .i64 (X2 * G / (Y1 * D)))):=fun W=>downward_any W _ _ (by omega) p4 (by omega)
         have q5:((X1 * G / (Y1 * D)).natAbs:Int)≤4000000000000000000:=by
          have:=Int.natAbs_ediv_le_natAbs (X1 * G) (Y1 * D)
          omega
         have Hq:Hid (X1 * G / (Y1 * D)=X2 * G / (Y1 * D)→QuoT tx ty d g (X1 * G / (Y1 * D))):=fun h=>by
          obtain ⟨o1,o2,o3⟩:=HXx.out
          obtain ⟨u1,u2,u3⟩:=HYy.out
          refine ⟨o1,u1,?_,by omega,by omega⟩
          rw [← o2,← o3,← u2,← u3,← HDd.out,← HGg.out]
          refine .inl ⟨by omega,?_,?_⟩
          ·unfold LN.quoL
           rw [if_pos (by omega)]
          ·unfold LN.quoH
           rw [if_neg (by omega)]
           exact h.symm
         clear r1 r2 r3 r4 p3 p4 q5 HXx HYy HDd HGg
         obtain ⟨q1,hq1⟩:∃ q,X1 * G / (Y1 * D)=q:=⟨_,rfl⟩
         obtain ⟨q2,hq2⟩:∃ q,X2 * G / (Y1 * D)=q:=⟨_,rfl⟩
         rw [hq1] at D1 Hq
         rw [hq2] at D2 Hq
         clear hq1 hq2
         go_enter Tryz.func191,Tryz.ntmps191
         go_wp2_with fail
         generalize (w.alloc (.cells (tcells x1 e1 x2 e2 n d) 141)).alloc (.cells (tcells y1 g1 y2 g2 m g) 141)=W0 at *
         refine cm_ (Hnx.out _ B0.out) ?_
         rintro e W1 ⟨rfl,hb⟩
         have B1:=hd_ (B0.out.trans (hb.mono B0.out.size))
         have R3:=hd_ (heap_kept R1.out hb nr_)
         have R4:=hd_ (heap_kept R2.out hb nr_)
         clear hb B0 R1 R2 Hnx
         obtain ⟨k0,k1,k2,-⟩:=obj_cells3 R3.out
         obtain ⟨m0,m1,m2,-⟩:=obj_cells3 R4.out
         go_wp2_with fail
         refine cm_ (Hny.out _ B1.out) ?_
         rintro e W2 ⟨rfl,hb⟩
         have B2:=hd_ (B1.out.trans (hb.mono B1.out.size))
         have R5:=hd_ (heap_kept R3.out hb nr_)
         have R6:=hd_ (heap_kept R4.out hb nr_)
         clear hb B1 R3 R4 Hny k0 k1 k2 m0 m1 m2
         obtain ⟨k0,k1,k2,-⟩:=obj_cells3 R5.out
         go_wp2_with fail
         refine cm_ (Hsd.out _ B2.out) ?_
         rintro e W3 ⟨rfl,hb⟩
         have B3:=hd_ (B2.out.trans (hb.mono B2.out.size))
         have R8:=hd_ (heap_kept R6.out hb nr_)
         clear hb B2 R5 R6 Hsd k0 k1 k2
         obtain ⟨m0,m1,m2,-⟩:=obj_cells3 R8.out
         go_wp2_with fail
         refine cm_ (Hsg.out _ B3.out) ?_
         rintro e W4 ⟨rfl,hb⟩
         have B4:=hd_ (B3.out.trans (hb.mono B3.out.size))
         clear hb B3 R8 Hsg m0 m1 m2
         go_wp2_with fail
         refine cm_ (D1.out _) ?_
         rintro e W5 ⟨rfl,hb⟩
         have B5:=hd_ (B4.out.trans (hb.mono B4.out.size))
         clear hb B4
         go_wp2_with fail
         refine cm_ (D2.out _) ?_
         rintro e W6 ⟨rfl,hb⟩
         have B6:=hd_ (B5.out.trans (hb.mono B5.out.size))
         clear hb B5
         go_wp2_with fail
         go_ret2
         exact ⟨q1,q1 == q2,rfl,fun h=>Hq.out (by simpa using h),B6.out⟩
       ·by_cases hx2:X2 < 0
        ·skip
         have r1:(X1 * G).natAbs≤300000000000000 * 10000:=by rw [Int.natAbs_mul]; exact Nat.mul_le_mul (by omega) (by omega)
         have r2:(X2 * G).natAbs≤300000000000000 * 10000:=by rw [Int.natAbs_mul]; exact Nat.mul_le_mul (by omega) (by omega)
         have r3:(Y2 * D).natAbs≤300000000000000 * 10000:=by rw [Int.natAbs_mul]; exact Nat.mul_le_mul (by omega) (by omega)
         have r4:(Y2 * D).natAbs≤300000000000000 * 10000:=by rw [Int.natAbs_mul]; exact Nat.mul_le_mul (by omega) (by omega)
         have p3:0 < Y2 * D:=Int.mul_pos (by omega) hD3
         have p4:0 < Y2 * D:=Int.mul_pos (by omega) hD3
         have w1:IntKind.i64.wrap (X1 * G)=X1 * G:=iw_ _ (by omega)
         have w2:IntKind.i64.wrap (X2 * G)=X2 * G:=iw_ _ (by omega)
         have w3:IntKind.i64.wrap (Y2 * D)=Y2 * D:=iw_ _ (by omega)
         have w4:IntKind.i64.wrap (Y2 * D)=Y2 * D:=iw_ _ (by omega)
         have D1:Hid (∀ W,Gives Tryz.prog 222 #[.int .i64 (X1 * G),.int .i64 (Y2 * D)] W (.int .i64 (X1 * G / (Y2 * D)))):=fun W=>downward_any W _ _ (by omega) p3 (by omega)
         have D2:Hid (∀ W,Gives Tryz.prog 222 #[.int .i64 (X2 * G),.int .i64 (Y2 * D)] W (.int .i64 (X2 * G / (Y2 * D)))):=fun W=>downward_any W _ _ (by omega) p4 (by omega)
         have q5:((X1 * G / (Y2 * D)).natAbs:Int)≤4000000000000000000:=by
          have:=Int.natAbs_ediv_le_natAbs (X1 * G) (Y2 * D)
          omega
         have Hq:Hid (X1 * G / (Y2 * D)=X2 * G / (Y2 * D)→QuoT tx ty d g (X1 * G / (Y2 * D))):=fun h=>by
          obtain ⟨o1,o2,o3⟩:=HXx.out
          obtain ⟨u1,u2,u3⟩:=HYy.out
          refine ⟨o1,u1,?_,by omega,by omega⟩
          rw [← o2,← o3,← u2,← u3,← HDd.out,← HGg.out]
          refine .inl ⟨by omega,?_,?_⟩
          ·unfold LN.quoL
           rw [if_neg (by omega)]
          ·unfold LN.quoH
           rw [if_pos (by omega)]
           exact h.symm
         clear r1 r2 r3 r4 p3 p4 q5 HXx HYy HDd HGg
         obtain ⟨q1,hq1⟩:∃ q,X1 * G / (Y2 * D)=q:=⟨_,rfl⟩
         obtain ⟨q2,hq2⟩:∃ q,X2 * G / (Y2 * D)=q:=⟨_,rfl⟩
         rw [hq1] at D1 Hq
         rw [hq2] at D2 Hq
         clear hq1 hq2
         go_enter Tryz.func191,Tryz.ntmps191
         go_wp2_with fail
         generalize (w.alloc (.cells (tcells x1 e1 x2 e2 n d) 141)).alloc (.cells (tcells y1 g1 y2 g2 m g) 141)=W0 at *
         refine cm_ (Hnx.out _ B0.out) ?_
         rintro e W1 ⟨rfl,hb⟩
         have B1:=hd_ (B0.out.trans (hb.mono B0.out.size))
         have R3:=hd_ (heap_kept R1.out hb nr_)
         have R4:=hd_ (heap_kept R2.out hb nr_)
         clear hb B0 R1 R2 Hnx
         obtain ⟨k0,k1,k2,-⟩:=obj_cells3 R3.out
         obtain ⟨m0,m1,m2,-⟩:=obj_cells3 R4.out
         go_wp2_with fail
         refine cm_ (Hny.out _ B1.out) ?_
         rintro e W2 ⟨rfl,hb⟩
         have B2:=hd_ (B1.out.trans (hb.mono B1.out.size))
         have R5:=hd_ (heap_kept R3.out hb nr_)
         have R6:=hd_ (heap_kept R4.out hb nr_)
         clear hb B1 R3 R4 Hny k0 k1 k2 m0 m1 m2
         obtain ⟨k0,k1,k2,-⟩:=obj_cells3 R5.out
         go_wp2_with fail
         refine cm_ (Hsd.out _ B2.out) ?_
         rintro e W3 ⟨rfl,hb⟩
         have B3:=hd_ (B2.out.trans (hb.mono B2.out.size))
         have R8:=hd_ (heap_kept R6.out hb nr_)
         clear hb B2 R5 R6 Hsd k0 k1 k2
         obtain ⟨m0,m1,m2,-⟩:=obj_cells3 R8.out
         go_wp2_with fail
         refine cm_ (Hsg.out _ B3.out) ?_
         rintro e W4 ⟨rfl,hb⟩
         have B4:=hd_ (B3.out.trans (hb.mono B3.out.size))
         clear hb B3 R8 Hsg m0 m1 m2
         go_wp2_with fail
         refine cm_ (D1.out _) ?_
         rintro e W5 ⟨rfl,hb⟩
         have B5:=hd_ (B4.out.trans (hb.mono B4.out.size))
         clear hb B4
         go_wp2_with fail
         refine cm_ (D2.out _) ?_
         rintro e W6 ⟨rfl,hb⟩
         have B6:=hd_ (B5.out.trans (hb.mono B5.out.size))
         clear hb B5
         go_wp2_with fail
         go_ret2
         exact ⟨q1,q1 == q2,rfl,fun h=>Hq.out (by simpa using h),B6.out⟩
        ·skip
         have r1:(X1 * G).natAbs≤300000000000000 * 10000:=by rw [Int.natAbs_mul]; exact Nat.mul_le_mul (by omega) (by omega)
         have r2:(X2 * G).natAbs≤300000000000000 * 10000:=by rw [Int.natAbs_mul]; exact Nat.mul_le_mul (by omega) (by omega)
         have r3:(Y2 * D).natAbs≤300000000000000 * 10000:=by rw [Int.natAbs_mul]; exact Nat.mul_le_mul (by omega) (by omega)
         have r4:(Y1 * D).natAbs≤300000000000000 * 10000:=by rw [Int.natAbs_mul]; exact Nat.mul_le_mul (by omega) (by omega)
         have p3:0 < Y2 * D:=Int.mul_pos (by omega) hD3
         have p4:0 < Y1 * D:=Int.mul_pos (by omega) hD3
         have w1:IntKind.i64.wrap (X1 * G)=X1 * G:=iw_ _ (by omega)
         have w2:IntKind.i64.wrap (X2 * G)=X2 * G:=iw_ _ (by omega)
         have w3:IntKind.i64.wrap (Y2 * D)=Y2 * D:=iw_ _ (by omega)
         have w4:IntKind.i64.wrap (Y1 * D)=Y1 * D:=iw_ _ (by omega)
         have D1:Hid (∀ W,Gives Tryz.prog 222 #[.int .i64 (X1 * G),.int .i64 (Y2 * D)] W (.int .i64 (X1 * G / (Y2 * D)))):=fun W=>downward_any W _ _ (by omega) p3 (by omega)
         have D2:Hid (∀ W,Gives Tryz.prog 222 #[.int .i64 (X2 * G),.int .i64 (Y1 * D)] W (.int .i64 (X2 * G / (Y1 * D)))):=fun W=>downward_any W _ _ (by omega) p4 (by omega)
         have q5:((X1 * G / (Y2 * D)).natAbs:Int)≤4000000000000000000:=by
          have:=Int.natAbs_ediv_le_natAbs (X1 * G) (Y2 * D)
          omega
         have Hq:Hid (X1 * G / (Y2 * D)=X2 * G / (Y1 * D)→QuoT tx ty d g (X1 * G / (Y2 * D))):=fun h=>by
          obtain ⟨o1,o2,o3⟩:=HXx.out
          obtain ⟨u1,u2,u3⟩:=HYy.out
          refine ⟨o1,u1,?_,by omega,by omega⟩
          rw [← o2,← o3,← u2,← u3,← HDd.out,← HGg.out]
          refine .inl ⟨by omega,?_,?_⟩
          ·unfold LN.quoL
           rw [if_neg (by omega)]
          ·unfold LN.quoH
           rw [if_neg (by omega)]
           exact h.symm
         clear r1 r2 r3 r4 p3 p4 q5 HXx HYy HDd HGg
         obtain ⟨q1,hq1⟩:∃ q,X1 * G / (Y2 * D)=q:=⟨_,rfl⟩
         obtain ⟨q2,hq2⟩:∃ q,X2 * G / (Y1 * D)=q:=⟨_,rfl⟩
         rw [hq1] at D1 Hq
         rw [hq2] at D2 Hq
         clear hq1 hq2
         go_enter Tryz.func191,Tryz.ntmps191
         go_wp2_with fail
         generalize (w.alloc (.cells (tcells x1 e1 x2 e2 n d) 141)).alloc (.cells (tcells y1 g1 y2 g2 m g) 141)=W0 at *
         refine cm_ (Hnx.out _ B0.out) ?_
         rintro e W1 ⟨rfl,hb⟩
         have B1:=hd_ (B0.out.trans (hb.mono B0.out.size))
         have R3:=hd_ (heap_kept R1.out hb nr_)
         have R4:=hd_ (heap_kept R2.out hb nr_)
         clear hb B0 R1 R2 Hnx
         obtain ⟨k0,k1,k2,-⟩:=obj_cells3 R3.out
         obtain ⟨m0,m1,m2,-⟩:=obj_cells3 R4.out
         go_wp2_with fail
         refine cm_ (Hny.out _ B1.out) ?_
         rintro e W2 ⟨rfl,hb⟩
         have B2:=hd_ (B1.out.trans (hb.mono B1.out.size))
         have R5:=hd_ (heap_kept R3.out hb nr_)
         have R6:=hd_ (heap_kept R4.out hb nr_)
         clear hb B1 R3 R4 Hny k0 k1 k2 m0 m1 m2
         obtain ⟨k0,k1,k2,-⟩:=obj_cells3 R5.out
         go_wp2_with fail
         refine cm_ (Hsd.out _ B2.out) ?_
         rintro e W3 ⟨rfl,hb⟩
         have B3:=hd_ (B2.out.trans (hb.mono B2.out.size))
         have R8:=hd_ (heap_kept R6.out hb nr_)
         clear hb B2 R5 R6 Hsd k0 k1 k2
         obtain ⟨m0,m1,m2,-⟩:=obj_cells3 R8.out
         go_wp2_with fail
         refine cm_ (Hsg.out _ B3.out) ?_
         rintro e W4 ⟨rfl,hb⟩
         have B4:=hd_ (B3.out.trans (hb.mono B3.out.size))
         clear hb B3 R8 Hsg m0 m1 m2
         go_wp2_with fail
         refine cm_ (D1.out _) ?_
         rintro e W5 ⟨rfl,hb⟩
         have B5:=hd_ (B4.out.trans (hb.mono B4.out.size))
         clear hb B4
         go_wp2_with fail
         refine cm_ (D2.out _) ?_
         rintro e W6 ⟨rfl,hb⟩
         have B6:=hd_ (B5.out.trans (hb.mono B5.out.size))
         clear hb B5
         go_wp2_with fail
         go_ret2
         exact ⟨q1,q1 == q2,rfl,fun h=>Hq.out (by simpa using h),B6.out⟩
end Go.Proofs.YtkoicfghplmghaaGreatDoor

namespace Go.Proofs.YtkoicfghplmghaaGreatDoor
open Go.RowKit
def flE (xl xh yl yh g d:Int):Option Int:=if yl≤0 then none else if LN.quoL xl yl yh g d=LN.quoH xh yl yh g d then some (LN.quoL xl yl yh g d) else none
def flS (xl xh yl yh g d:Int):Option Int:=if yh≤0 then flE (-xh) (-xl) (-yh) (-yl) g d else flE xl xh yl yh g d
def flAt (n:Nat) (tx ty:List (Int×Int)) (d g:Nat):Option Int:=flS (LN.eLo (lf n) tx) (LN.eHi (lf n) tx) (LN.eLo (lf n) ty) (LN.eHi (lf n) ty) g d
theorem eLo_le (f:Int→Nat):∀ l:List (Int×Int),LN.eLo f l≤LN.eHi f l
 | []=>Int.le_refl _
 | x :: l=>by
  have ih:=eLo_le f l
  have e1:LN.eLo f (x :: l)=(if x.2 < 0 then x.2 * (LN.hiL f x.1:Int) else x.2 * (f x.1:Int)) + LN.eLo f l:=by simp [LN.eLo]
  have e2:LN.eHi f (x :: l)=(if x.2 < 0 then x.2 * (f x.1:Int) else x.2 * (LN.hiL f x.1:Int)) + LN.eHi f l:=by simp [LN.eHi]
  have hle:f x.1≤LN.hiL f x.1:=by unfold LN.hiL; split <;> omega
  rw [e1,e2]
  by_cases hk:x.2 < 0
  ·have h1:x.2 * (LN.hiL f x.1:Int)≤x.2 * (f x.1:Int):=Int.mul_le_mul_of_nonpos_left (by omega) (by omega)
   rw [if_pos hk,if_pos hk]; omega
  ·have h1:x.2 * (f x.1:Int)≤x.2 * (LN.hiL f x.1:Int):=Int.mul_le_mul_of_nonneg_left (by omega) (by omega)
   rw [if_neg hk,if_neg hk]; omega
theorem flE_some {xl xh yl yh g d q:Int} (h:flE xl xh yl yh g d=some q):0 < yl∧LN.quoL xl yl yh g d=q∧LN.quoH xh yl yh g d=q:=by
 unfold flE at h
 split at h
 ·cases h
 ·rename_i h1
  split at h
  ·rename_i h2
   have h3:LN.quoL xl yl yh g d=q:=by simpa using h
   exact ⟨by omega,h3,by rw [← h2]; exact h3⟩
  ·cases h
theorem allP_log {ps:List Int} (h:∀ p∈ps,p∈allP) {n:Nat} (hn:n≤1056):∀ p∈ps,LN.LogAt n p (lf n p):=fun p hp=>by
 obtain ⟨q,rfl,hq⟩:=allP_pr (h p hp)
 exact lgN_at hq hn
theorem allP_pos' {ps:List Int} (h:∀ p∈ps,p∈allP):∀ p∈ps,0 < p:=fun p hp=>by
 have key:∀ q∈allP,0 < q:=by decide
 exact key p (h p hp)
theorem flAt_floor {ps:List Int} {la lb:List Rat} (h:∀ p∈ps,p∈allP) (hl:la.length=lb.length) {n:Nat} (hn:n≤1056) {q:Int} (hq:flAt n (tlQ ps la) (tlQ ps lb) (tden la) (tden lb)=some q):LN.FloorOf ps la lb q:=by
 unfold flAt flS at hq
 have hy:=eLo_le (lf n) (tlQ ps lb)
 split at hq
 ·obtain ⟨h1,h2,h3⟩:=flE_some hq
  exact LN.floor_neg (allP_pos' h) hl (allP_log h hn) rfl rfl rfl rfl (by show LN.eHi (lf n) (tlQ ps lb) < 0; omega) hy h2 h3
 ·obtain ⟨h1,h2,h3⟩:=flE_some hq
  exact LN.floor_pos (allP_pos' h) hl (allP_log h hn) rfl rfl rfl rfl h1 hy h2 h3
theorem quoT_floor {ps:List Int} {la lb:List Rat} (h:∀ p∈ps,p∈allP) (hl:la.length=lb.length) {q:Int} (hq:QuoT (tlQ ps la) (tlQ ps lb) (tden la) (tden lb) q):LN.FloorOf ps la lb q:=by
 have pa:PrT (tlQ ps la):=fun x hx=>allP_pr (h _ (tlist_mem hx).1)
 have pb:PrT (tlQ ps lb):=fun x hx=>allP_pr (h _ (tlist_mem hx).1)
 obtain ⟨a1,a2⟩:=lowT_eq _ pa hq.okx
 obtain ⟨b1,b2⟩:=lowT_eq _ pb hq.oky
 have hr:=hq.r
 rw [a1,a2,b1,b2] at hr
 have hy:=eLo_le (lf 26) (tlQ ps lb)
 rcases hr with ⟨h1,h2,h3⟩ | ⟨h1,h2,h3⟩
 ·exact LN.floor_pos (allP_pos' h) hl (allP_log h (by decide)) rfl rfl rfl rfl h1 hy h2 h3
 ·exact LN.floor_neg (allP_pos' h) hl (allP_log h (by decide)) rfl rfl rfl rfl h1 hy h2 h3
theorem ratio_floor {ps:List Int} {la lb:List Rat} (h:∀ p∈ps,p∈allP) (h1:la.length=ps.length) (h2:lb.length=ps.length) {k:Rat} (hr:ratioB la lb ps.length k=true) (h0:LN.sz ps lb≠0):LN.FloorOf ps la lb k.floor:=by
 refine LN.floor_mult (allP_pos' h) (k:=k) ?_ h0
 have hr':=of_decide_eq_true hr
 refine List.ext_getElem (by simp; omega) fun i i1 i2=>?_
 have:=hr' i (by omega)
 rw [List.getElem_map]
 rw [List.getD_eq_getElem?_getD,List.getD_eq_getElem?_getD,List.getElem?_eq_getElem (by omega),List.getElem?_eq_getElem i1] at this
 exact this.symm
theorem divZ (w:World) (a b:Int) (K:Nat) (hK:K < 90000) (ha:a.natAbs < 2 ^ K) (hb:b.natAbs < 2 ^ K) (h0:0 < b) (L:Laid w):Gives Tryz.prog 133 #[.string (itx a),.string (itx b)] w (.tuple #[.string (itx (a / b)),.string (itx (a % b)),.int .i64 0]):=by
 obtain ⟨n,rfl⟩:=Int.eq_ofNat_of_zero_le (Int.le_of_lt h0)
 have hs:Num (a.natAbs + 1):=num_two (K:=K + 1) (by rw [Nat.pow_succ]; omega) (by omega)
 have:=divmodz_any w a n (num_two ha (by omega)) (num_two hb (by omega)) (by omega) hs L
 rw [itx_nat]
 exact this
theorem same_itx (a b:Int):((itx a).toList == (itx b).toList)=decide (a=b):=by
 by_cases h:a=b
 ·subst h; simp
 ·rw [decide_eq_false h,beq_eq_false_iff_ne]
  intro e
  rw [toList_lb,toList_lb] at e
  exact h (itx_inj (by
   have h1:(itx a).data.toList=(itx b).data.toList:=e
   exact ByteArray.ext (Array.toList_inj.1 h1)))
def FlrPost (ps:List Int) (la lb:List Rat) (e:Ending):Prop:=∃ q,e = .returned (.string (itx q))∧LN.FloorOf ps la lb q
structure FlrOk (ps:List Int) (la lb:List Rat) (E:Nat):Prop where
 pr:∀ p∈ps,p∈allP
 n6:ps.length≤6
 kx:∀ x∈tlQ ps la,x.2.natAbs < 2 ^ E
 ky:∀ x∈tlQ ps lb,x.2.natAbs < 2 ^ E
 d:tden la < 2 ^ E
 g:tden lb < 2 ^ E
 e:E≤3000
 nz:LN.sz ps lb≠0
 dec:ratioB la lb ps.length (ratioK la lb ps.length)=false→flAt 1024 (tlQ ps la) (tlQ ps lb) (tden la) (tden lb)≠none
theorem floor_any (w:World) (ps:List Int) (a0 a1 a2:Option Addr) (c0 c1 c2 D E:Nat) (la lb:List Rat) (A:SizeOk w ps a0 a1 la D) (B:SizeOk w ps a0 a2 lb D) (hD0:0 < D) (F:FlrOk ps la lb E) (L:Laid w) :
  Calls Tryz.prog 154 #[.slice a0 ps.length c0,.slice a1 la.length c1,.slice a2 lb.length c2] w fun e w'=>FlrPost ps la lb e∧Below w.heap.size w w':=by
 cases hr:ratioB la lb ps.length (ratioK la lb ps.length) with
 | true =>
  refine Calls.mono (floor_ratio w ps a0 a1 a2 c0 c1 c2 D la lb A B hD0 L hr) ?_
  rintro e w' ⟨rfl,hb⟩
  exact ⟨⟨_,rfl,ratio_floor F.pr A.len B.len hr F.nz⟩,hb⟩
 | false =>
  have hn:=A.n
  have hdd:=A.d
  have HL:=hd_ L
  have HF:=hd_ F
  have Hdec:=hd_ (F.dec hr)
  have Hra:=hd_ (ratio_any w a1 a2 c1 c2 ps.length D la lb A.rl B.rl A.len B.len A.sm B.sm (by omega) hD0 hdd L)
  rw [hr] at Hra
  have Ht1:Hid (∀ W,Below w.heap.size w W→Calls Tryz.prog 82 #[.slice a0 ps.length c0,.slice a1 ps.length c1] W fun e w'=>∃ b1 d1 b2 d2,e = .returned (.agg (tcells b1 d1 b2 d2 (tlQ ps la).length (tden la)))∧TermsAt w' (tlQ ps la) b1 b2∧Below W.heap.size W w'):=fun W hW=>by
   have:=terms_ok (c0:=c0) (c:=c1) (A.below hW) (L.below hW)
   rw [A.len] at this
   exact this
  have Ht2:Hid (∀ W,Below w.heap.size w W→Calls Tryz.prog 82 #[.slice a0 ps.length c0,.slice a2 ps.length c2] W fun e w'=>∃ b1 d1 b2 d2,e = .returned (.agg (tcells b1 d1 b2 d2 (tlQ ps lb).length (tden lb)))∧TermsAt w' (tlQ ps lb) b1 b2∧Below W.heap.size W w'):=fun W hW=>by
   have:=terms_ok (c0:=c0) (c:=c2) (B.below hW) (L.below hW)
   rw [B.len] at this
   exact this
  have hE:=F.e
  have lx:(tlQ ps la).length≤6:=Nat.le_trans (by have:=(tlist_fst (tden la) ps la).length_le; rw [List.length_map] at this; exact this) F.n6
  have ly:(tlQ ps lb).length≤6:=Nat.le_trans (by have:=(tlist_fst (tden lb) ps lb).length_le; rw [List.length_map] at this; exact this) F.n6
  have hd0:=LN.tden_pos' la
  have hg0:=LN.tden_pos' lb
  have px:PrT (tlQ ps la):=fun x hx=>allP_pr (F.pr _ (tlist_mem hx).1)
  have py:PrT (tlQ ps lb):=fun x hx=>allP_pr (F.pr _ (tlist_mem hx).1)
  have hll:la.length=lb.length:=A.len.trans B.len.symm
  have Hqu:Hid (∀ W x1 x2 y1 y2 e1 e2 g1 g2,TermsAt W (tlQ ps la) x1 x2→TermsAt W (tlQ ps lb) y1 y2→Laid W→Calls Tryz.prog 191 #[.agg (tcells x1 e1 x2 e2 (tlQ ps la).length (tden la)),.agg (tcells y1 g1 y2 g2 (tlQ ps lb).length (tden lb))] W fun e w'=>∃ q b,e = .returned (.tuple #[.int .i64 q,.bool b])∧(b=true→QuoT (tlQ ps la) (tlQ ps lb) (tden la) (tden lb) q)∧Below W.heap.size W w'):=fun W x1 x2 y1 y2 e1 e2 g1 g2 X Y LW =>
   quotient_any W x1 x2 y1 y2 e1 e2 g1 g2 _ _ _ _ X Y lx ly (num_two F.d (by omega)) (num_two F.g (by omega)) hd0 hg0 LW
  have Hof:Hid (∀ W q,-9223372036854775808≤q→q≤9223372036854775807→Below w.heap.size w W→Gives Tryz.prog 85 #[.int .i64 q] W (.string (itx q))):=fun W q h1 h2 hW=>ofz_any W q h1 h2 (L.below hW)
  have HqF:Hid (∀ q,QuoT (tlQ ps la) (tlQ ps lb) (tden la) (tden lb) q→LN.FloorOf ps la lb q):=fun q h=>quoT_floor F.pr hll h
  have HfF:Hid (∀ n q,n≤1056→flAt n (tlQ ps la) (tlQ ps lb) (tden la) (tden lb)=some q→LN.FloorOf ps la lb q):=fun n q hn h=>flAt_floor F.pr hll hn h
  have Hen1:Hid (∀ (n:Nat) W x1 x2 e1 e2,n≤1056→TermsAt W (tlQ ps la) x1 x2→Laid W→Gives Tryz.prog 136 #[.agg (tcells x1 e1 x2 e2 (tlQ ps la).length (tden la)),.int .i64 n] W (.tuple #[.string (itx (LN.eLo (lf n) (tlQ ps la))),.string (itx (LN.eHi (lf n) (tlQ ps la)))])):=fun n W x1 x2 e1 e2 hn T LW =>
   ends_any W x1 x2 e1 e2 _ n E _ T px (by omega) F.kx hn LW
  have Hen2:Hid (∀ (n:Nat) W x1 x2 e1 e2,n≤1056→TermsAt W (tlQ ps lb) x1 x2→Laid W→Gives Tryz.prog 136 #[.agg (tcells x1 e1 x2 e2 (tlQ ps lb).length (tden lb)),.int .i64 n] W (.tuple #[.string (itx (LN.eLo (lf n) (tlQ ps lb))),.string (itx (LN.eHi (lf n) (tlQ ps lb)))])):=fun n W x1 x2 e1 e2 hn T LW =>
   ends_any W x1 x2 e1 e2 _ n E _ T py (by omega) F.ky hn LW
  obtain ⟨K,hK⟩:∃ K:Nat,K=E + 1060 + 10:=⟨_,rfl⟩
  have Hbx:Hid (∀ n:Nat,n≤1024→(LN.eLo (lf n) (tlQ ps la)).natAbs < 2 ^ K∧(LN.eHi (lf n) (tlQ ps la)).natAbs < 2 ^ K):=fun n hn=>by
   obtain ⟨h1,h2⟩:=eSum_num (n:=n) (E:=E) (by omega) (tlQ ps la) (by omega) px F.kx
   exact ⟨Nat.lt_of_lt_of_le h1 (Nat.pow_le_pow_right (by decide) (by omega)),Nat.lt_of_lt_of_le h2 (Nat.pow_le_pow_right (by decide) (by omega))⟩
  have Hby:Hid (∀ n:Nat,n≤1024→(LN.eLo (lf n) (tlQ ps lb)).natAbs < 2 ^ K∧(LN.eHi (lf n) (tlQ ps lb)).natAbs < 2 ^ K):=fun n hn=>by
   obtain ⟨h1,h2⟩:=eSum_num (n:=n) (E:=E) (by omega) (tlQ ps lb) (by omega) py F.ky
   exact ⟨Nat.lt_of_lt_of_le h1 (Nat.pow_le_pow_right (by decide) (by omega)),Nat.lt_of_lt_of_le h2 (Nat.pow_le_pow_right (by decide) (by omega))⟩
  have hKK:K + K < 90000:=by omega
  have hdK:tden la < 2 ^ K:=Nat.lt_of_lt_of_le F.d (Nat.pow_le_pow_right (by decide) (by omega))
  have hgK:tden lb < 2 ^ K:=Nat.lt_of_lt_of_le F.g (Nat.pow_le_pow_right (by decide) (by omega))
  have HS:Hid (∀ (z:Int) W,Gives Tryz.prog 137 #[.string (itx z)] W (.int .i64 z.sign)):=fun z W=>sign_any W z
  have HN:Hid (∀ (z:Int) W,z.natAbs < 2 ^ K→Gives Tryz.prog 175 #[.string (itx z)] W (.string (itx (-z)))):=fun z W hz=>neg_any W z (num_two hz (by omega))
  have HMd:Hid (∀ (a:Int) W,a.natAbs < 2 ^ K→Below w.heap.size w W→Gives Tryz.prog 134 #[.string (itx a),.string (dec (tden la))] W (.string (itx (a * (tden la:Int))))):=fun a W ha hW=>by
   have:=mulZ W a (tden la:Int) K K hKK ha (by rw [Int.natAbs_natCast]; exact hdK) (L.below hW)
   rw [itx_nat] at this; exact this
  have HMg:Hid (∀ (a:Int) W,a.natAbs < 2 ^ K→Below w.heap.size w W→Gives Tryz.prog 134 #[.string (itx a),.string (dec (tden lb))] W (.string (itx (a * (tden lb:Int))))):=fun a W ha hW=>by
   have:=mulZ W a (tden lb:Int) K K hKK ha (by rw [Int.natAbs_natCast]; exact hgK) (L.below hW)
   rw [itx_nat] at this; exact this
  have HDv:Hid (∀ (a b:Int) W,a.natAbs < 2 ^ K→b.natAbs < 2 ^ K→0 < b→Below w.heap.size w W→Gives Tryz.prog 133 #[.string (itx (a * (tden lb:Int))),.string (itx (b * (tden la:Int)))] W (.tuple #[.string (itx (a * (tden lb:Int) / (b * (tden la:Int)))),.string (itx (a * (tden lb:Int) % (b * (tden la:Int)))),.int .i64 0])):=fun a b W ha hb hb0 hW =>
   divZ W _ _ (K + K) hKK (abs_mul_lt ha hgK) (abs_mul_lt hb hdK) (Int.mul_pos hb0 (by omega)) (L.below hW)
  have Hfl:Hid (∀ n,flAt n (tlQ ps la) (tlQ ps lb) (tden la) (tden lb)=flS (LN.eLo (lf n) (tlQ ps la)) (LN.eHi (lf n) (tlQ ps la)) (LN.eLo (lf n) (tlQ ps lb)) (LN.eHi (lf n) (tlQ ps lb)) (tden lb) (tden la)):=fun n=>rfl
  unfold fr fv at Hra
  rw [A.len,B.len]
  clear A B L hr F hn hdd hE lx ly hd0 hg0 px py hll hK hKK hdK hgK hD0
  generalize ratioK la lb ps.length=k at *
  generalize tlQ ps la=tx at *
  generalize tlQ ps lb=ty at *
  generalize tden la=dx at *
  generalize tden lb=dy at *
  go_enter Tryz.func154,Tryz.ntmps154
  go_wp2_with fail
  refine cm_ Hra.out ?_
  rintro e w1 ⟨rfl,hb⟩
  have B2:=hd_ (hb.alloc hb.size (.cells #[.string (itx k.num),.string (dec k.den)] 58))
  clear hb Hra
  go_wp2_with fail
  generalize w1.alloc (.cells #[.string (itx k.num),.string (dec k.den)] 58)=w2 at *
  refine cm_ (Ht1.out _ B2.out) ?_
  rintro e w3 ⟨b1,d1,b2,d2,rfl,X,hb⟩
  have B3:=hd_ (B2.out.trans (hb.mono B2.out.size))
  have HX:=hd_ X
  clear hb Ht1 X B2
  go_wp2_with fail
  refine cm_ (Ht2.out _ B3.out) ?_
  rintro e w4 ⟨b3,d3,b4,d4,rfl,Y,hb⟩
  have B4:=hd_ (B3.out.trans (hb.mono B3.out.size))
  have HX4:=hd_ (HX.out.below hb)
  have HY:=hd_ Y
  clear hb Ht2 Y B3 HX
  go_wp2_with fail
  have Bx:=hd_ (((Below.refl w4.heap.size w4).alloc nr_ (.cells #[.slice b1 tx.length d1,.slice b2 tx.length d2,.string (dec dx)] 141)).alloc ((Below.refl w4.heap.size w4).alloc nr_ (.cells #[.slice b1 tx.length d1,.slice b2 tx.length d2,.string (dec dx)] 141)).size (.cells #[.slice b3 ty.length d3,.slice b4 ty.length d4,.string (dec dy)] 141))
  have S1:=hd_ (heap_old (heap_at w4 #[.slice b1 tx.length d1,.slice b2 tx.length d2,.string (dec dx)] 141 _ rfl) (.cells #[.slice b3 ty.length d3,.slice b4 ty.length d4,.string (dec dy)] 141))
  have S2:=hd_ (heap_at (w4.alloc (.cells #[.slice b1 tx.length d1,.slice b2 tx.length d2,.string (dec dx)] 141)) #[.slice b3 ty.length d3,.slice b4 ty.length d4,.string (dec dy)] 141 (w4.heap.size + 1) (by show (w4.heap.push _).size=_; exact Array.size_push ..))
  have HX5:=hd_ (HX4.out.below Bx.out)
  have HY5:=hd_ (HY.out.below Bx.out)
  have B5:=hd_ (B4.out.trans (Bx.out.mono B4.out.size))
  clear HX4 HY Bx
  generalize hN:w4.heap.size=N9 at *
  generalize (w4.alloc (.cells #[.slice b1 tx.length d1,.slice b2 tx.length d2,.string (dec dx)] 141)).alloc (.cells #[.slice b3 ty.length d3,.slice b4 ty.length d4,.string (dec dy)] 141)=w5 at *
  clear hN B4
  refine cm_ (Hqu.out _ _ _ _ _ d1 d2 d3 d4 HX5.out HY5.out (HL.out.below B5.out)) ?_
  rintro e w6 ⟨q0,bq,rfl,hq0,hb⟩
  have B6:=hd_ (B5.out.trans (hb.mono B5.out.size))
  have T1:=hd_ (heap_kept S1.out hb nr_)
  have T2:=hd_ (heap_kept S2.out hb nr_)
  have HX6:=hd_ (HX5.out.below hb)
  have HY6:=hd_ (HY5.out.below hb)
  have Hq0:=hd_ hq0
  clear hb Hqu HX5 HY5 S1 S2 B5 hq0
  cases bq with
  | true =>
   have hqt:=Hq0.out rfl
   have Hfo:=hd_ (HqF.out q0 hqt)
   have Hoq:=hd_ (Hof.out w6 q0 (by have:=hqt.lo; omega) (by have:=hqt.hi; omega) B6.out)
   clear hqt
   go_wp2_with fail
   refine cm_ Hoq.out ?_
   rintro e w7 ⟨rfl,hb⟩
   have B7:=hd_ (B6.out.trans (hb.mono B6.out.size))
   clear hb Hoq
   go_wp2_with fail
   go_ret
   exact ⟨⟨q0,rfl,Hfo.out⟩,B7.out⟩
  | false =>
   clear Hq0 HqF Hof
   go_wp2_with fail
   go_loopw [13] (fun a wr=>∃ (n:Nat),Hid (Pw n)∧n≤1024∧a = .int .i64 n∧Hid (Below w.heap.size w wr)∧Hid (wr.heap[N9]?=some (.cells #[.slice b1 tx.length d1,.slice b2 tx.length d2,.string (dec dx)] 141 (0,0)))∧Hid (wr.heap[N9 + 1]?=some (.cells #[.slice b3 ty.length d3,.slice b4 ty.length d4,.string (dec dy)] 141 (0,0)))∧Hid (TermsAt wr tx b1 b2)∧Hid (TermsAt wr ty b3 b4)) (fun a _=>1024 - (intOf a).toNat)
   case atStart=>exact ⟨64,.inl rfl,by decide,rfl,B6,T1,T2,HX6,HY6⟩
   case round =>
    clear B6 T1 T2 HX6 HY6
    obtain ⟨n,Hp,hn,rfl,B1,T1,T2,HX,HY⟩:=hrel
    obtain ⟨vx1,vx2⟩:=Hbx.out n hn
    obtain ⟨vy1,vy2⟩:=Hby.out n hn
    have HE1:=hd_ (Hen1.out n wr b1 b2 d1 d2 (by omega) HX.out (HL.out.below B1.out))
    have HE2:Hid (∀ W,Below wr.heap.size wr W→Gives Tryz.prog 136 #[.agg (tcells b3 d3 b4 d4 ty.length dy),.int .i64 n] W (.tuple #[.string (itx (LN.eLo (lf n) ty)),.string (itx (LN.eHi (lf n) ty))])):=fun W hW=>Hen2.out n W b3 b4 d3 d4 (by omega) (HY.out.below hW) (HL.out.below (B1.out.trans (hW.mono B1.out.size)))
    have Hf:=hd_ (Hfl.out n)
    have Hspec:Hid (∀ q,flAt n tx ty dx dy=some q→LN.FloorOf ps la lb q):=fun q h=>HfF.out n q (by omega) h
    have hn0:0 < n:=by rcases Hp.out with h | h | h | h | h <;> omega
    have Hnx:Hid (flAt n tx ty dx dy=none→n * 2≤1024∧Pw (n * 2)):=fun h=>by
     rcases Hp.out with e | e | e | e | e
     ·subst e; exact ⟨by decide,.inr (.inl rfl)⟩
     ·subst e; exact ⟨by decide,.inr (.inr (.inl rfl))⟩
     ·subst e; exact ⟨by decide,.inr (.inr (.inr (.inl rfl)))⟩
     ·subst e; exact ⟨by decide,.inr (.inr (.inr (.inr rfl)))⟩
     ·subst e; exact absurd h Hdec.out
    clear Hen1 Hen2 Hfl HfF Hdec Hbx Hby
    have hyy:=eLo_le (lf n) ty
    generalize flAt n tx ty dx dy=fl at *
    generalize LN.eLo (lf n) tx=xl at *
    generalize LN.eHi (lf n) tx=xh at *
    generalize LN.eLo (lf n) ty=yl at *
    generalize LN.eHi (lf n) ty=yh at *
    have hwn:IntKind.i64.wrap ((n:Int) * 2)=((n * 2:Nat):Int):=by rw [show (n:Int) * 2=((n * 2:Nat):Int) by omega]; exact iw_ _ (by omega)
    obtain ⟨m0,m1,m2,-⟩:=obj_cells3 T1.out
    go_wp2_with fail
    refine cm_ HE1.out ?_
    rintro e_ w2 ⟨rfl,hb⟩
    replace HE2:=hd_ (HE2.out w2 hb)
    have B2:=hd_ (B1.out.trans (hb.mono B1.out.size))
    replace T1:=hd_ (heap_kept T1.out hb nr_)
    replace T2:=hd_ (heap_kept T2.out hb nr_)
    replace HX:=hd_ (HX.out.below hb)
    replace HY:=hd_ (HY.out.below hb)
    clear hb HE1 B1 m0 m1 m2
    obtain ⟨m0,m1,m2,-⟩:=obj_cells3 T2.out
    go_wp2_with fail
    clear m0 m1 m2
    refine cm_ (HE2.out) ?_
    rintro e_ w3 ⟨rfl,hb⟩
    have B3:=hd_ (B2.out.trans (hb.mono B2.out.size))
    replace T1:=hd_ (heap_kept T1.out hb nr_)
    replace T2:=hd_ (heap_kept T2.out hb nr_)
    replace HX:=hd_ (HX.out.below hb)
    replace HY:=hd_ (HY.out.below hb)
    clear hb B2
    clear HE2
    go_wp2_with fail
    refine cm_ (HS.out yh _) ?_
    rintro e_ w4 ⟨rfl,hb⟩
    have B4:=hd_ (B3.out.trans (hb.mono B3.out.size))
    replace T1:=hd_ (heap_kept T1.out hb nr_)
    replace T2:=hd_ (heap_kept T2.out hb nr_)
    replace HX:=hd_ (HX.out.below hb)
    replace HY:=hd_ (HY.out.below hb)
    clear hb B3
    by_cases hyh:yh≤0
    ·have hsg0:yh.sign≤0:=by have:=sign_cases yh; omega
     generalize yh.sign=sg0 at *
     go_wp2_with fail
     refine cm_ (HN.out xh _ (by omega)) ?_
     rintro e_ w5 ⟨rfl,hb⟩
     have B5:=hd_ (B4.out.trans (hb.mono B4.out.size))
     replace T1:=hd_ (heap_kept T1.out hb nr_)
     replace T2:=hd_ (heap_kept T2.out hb nr_)
     replace HX:=hd_ (HX.out.below hb)
     replace HY:=hd_ (HY.out.below hb)
     clear hb B4
     go_wp2_with fail
     refine cm_ (HN.out xl _ (by omega)) ?_
     rintro e_ w6 ⟨rfl,hb⟩
     have B6:=hd_ (B5.out.trans (hb.mono B5.out.size))
     replace T1:=hd_ (heap_kept T1.out hb nr_)
     replace T2:=hd_ (heap_kept T2.out hb nr_)
     replace HX:=hd_ (HX.out.below hb)
     replace HY:=hd_ (HY.out.below hb)
     clear hb B5
     go_wp2_with fail
     refine cm_ (HN.out yh _ (by omega)) ?_
     rintro e_ w7 ⟨rfl,hb⟩
     have B7:=hd_ (B6.out.trans (hb.mono B6.out.size))
     replace T1:=hd_ (heap_kept T1.out hb nr_)
     replace T2:=hd_ (heap_kept T2.out hb nr_)
     replace HX:=hd_ (HX.out.below hb)
     replace HY:=hd_ (HY.out.below hb)
     clear hb B6
     go_wp2_with fail
     refine cm_ (HN.out yl _ (by omega)) ?_
     rintro e_ w8 ⟨rfl,hb⟩
     have B8:=hd_ (B7.out.trans (hb.mono B7.out.size))
     replace T1:=hd_ (heap_kept T1.out hb nr_)
     replace T2:=hd_ (heap_kept T2.out hb nr_)
     replace HX:=hd_ (HX.out.below hb)
     replace HY:=hd_ (HY.out.below hb)
     clear hb B7
     go_wp2_with fail
     refine cm_ (HS.out (-yh) _) ?_
     rintro e_ w9 ⟨rfl,hb⟩
     have B9:=hd_ (B8.out.trans (hb.mono B8.out.size))
     replace T1:=hd_ (heap_kept T1.out hb nr_)
     replace T2:=hd_ (heap_kept T2.out hb nr_)
     replace HX:=hd_ (HX.out.below hb)
     replace HY:=hd_ (HY.out.below hb)
     clear hb B8
     by_cases hyl2:(-yh)≤0
     ·have hsg:(-yh).sign≤0:=by have:=sign_cases (-yh); omega
      have hfl:fl=none:=by
       rw [Hf.out]
       unfold flS
       rw [if_pos (by omega)]
       unfold flE
       rw [if_pos (by omega)]
      obtain ⟨hn2,hp2⟩:=Hnx.out hfl
      have Hp2:=hd_ hp2
      clear hfl Hspec Hnx hp2 Hf
      generalize (-yh).sign=sg at *
      go_wp2_with fail
      go_roundw
      case rel=>exact ⟨n * 2,Hp2,hn2,rfl,B9,T1,T2,HX,HY⟩
      case measure=>simp [intOf]; omega
     ·have hsg:0 < (-yh).sign:=by have:=sign_cases (-yh); omega
      generalize (-yh).sign=sg at *
      go_wp2_with fail
      clear hsg
      refine cm_ (HS.out (-xh) _) ?_
      rintro e_ w10 ⟨rfl,hb⟩
      have B10:=hd_ (B9.out.trans (hb.mono B9.out.size))
      replace T1:=hd_ (heap_kept T1.out hb nr_)
      replace T2:=hd_ (heap_kept T2.out hb nr_)
      replace HX:=hd_ (HX.out.below hb)
      replace HY:=hd_ (HY.out.below hb)
      clear hb B9
      by_cases hx1:(-xh) < 0
      ·have hsg:(-xh).sign < 0:=by have:=sign_cases (-xh); omega
       generalize (-xh).sign=sg at *
       go_wp2_with fail
       clear hsg
       refine cm_ (HS.out (-xl) _) ?_
       rintro e_ w11 ⟨rfl,hb⟩
       have B11:=hd_ (B10.out.trans (hb.mono B10.out.size))
       replace T1:=hd_ (heap_kept T1.out hb nr_)
       replace T2:=hd_ (heap_kept T2.out hb nr_)
       replace HX:=hd_ (HX.out.below hb)
       replace HY:=hd_ (HY.out.below hb)
       clear hb B10
       by_cases hx2:(-xl) < 0
       ·have hsg:(-xl).sign < 0:=by have:=sign_cases (-xl); omega
        generalize (-xl).sign=sg at *
        obtain ⟨k0,k1,k2,-⟩:=obj_cells3 T1.out
        obtain ⟨m0,m1,m2,-⟩:=obj_cells3 T2.out
        have s2:=BW.cell k2
        have r2:=BW.cell m2
        have hnon:Nonempty (BW w11):=⟨⟨w11,Below.refl _ _⟩⟩
        have I:Hid (Below w11.heap.size w11 w11.drew):=(Below.refl _ _).drew
        go_wp2_with fail
        clear k0 k1 k2 m0 m1 m2
        refine RY.wp_region_readers 15 [(1,0),(1,1),(1,2),(1,4),(1,5),(1,6),(0,3),(0,7),(0,8),(2,9),(2,10),(2,11),(2,12),(0,13),(0,14),(0,15)] (fun w'=>∃ p:BW w11,w'=p.w) (by kernel_rfl) (by kernel_rfl) ?_ ?_
        ·exact ⟨⟨_,I.out⟩,rfl⟩
        iterate 6 (refine RY.walkR_read ?_; simp only [dsc_,dz_,tsc_,tz_]; go_big_quiet_step (fail); refine wpQuiet_nil ?_)
        clear hnon s2 r2
        refine RY.walkR_move ?_
        simp only [dsc_,dz_,tsc_,tz_]
        go_wp2_with fail
        refine cm_ (HMg.out (-xh) _ (by omega) (B11.out.drew)) ?_
        rintro e_ wa ⟨rfl,hb⟩
        have Wa:Hid (Below w11.heap.size w11 wa):=(Below.refl w11.heap.size w11).drew.trans hb
        clear hb I
        go_wp2_with fail
        refine ⟨⟨⟨_,Wa.out⟩,rfl⟩,?_⟩
        refine RY.walkR_move ?_
        simp only [dsc_,dz_,tsc_,tz_]
        go_wp2_with fail
        refine cm_ (HMd.out (-yh) _ (by omega) (B11.out.trans (Wa.out.mono B11.out.size))) ?_
        rintro e_ wb ⟨rfl,hb⟩
        have Wb:=hd_ (Wa.out.trans (hb.mono Wa.out.size))
        clear hb Wa
        go_wp2_with fail
        refine ⟨⟨⟨_,Wb.out⟩,rfl⟩,?_⟩
        refine RY.walkR_move ?_
        simp only [dsc_,dz_,tsc_,tz_]
        go_wp2_with fail
        refine cm_ (HDv.out (-xh) (-yh) _ (by omega) (by omega) (by omega) (B11.out.trans (Wb.out.mono B11.out.size))) ?_
        rintro e_ wc ⟨rfl,hb⟩
        have Wc:=hd_ (Wb.out.trans (hb.mono Wb.out.size))
        clear hb Wb
        go_wp2_with fail
        refine ⟨⟨⟨_,Wc.out⟩,rfl⟩,?_⟩
        refine RY.walkR_any ?_
        simp only [dsc_,dz_,tsc_,tz_]
        go_big_quiet_step (fail)
        refine wpQuiet_nil ?_
        refine RY.walkR_any ?_
        simp only [dsc_,dz_,tsc_,tz_]
        go_big_quiet_step (fail)
        refine wpQuiet_nil ?_
        refine RY.walkR_any ?_
        simp only [dsc_,dz_,tsc_,tz_]
        go_big_quiet_step (fail)
        refine wpQuiet_nil ?_
        refine RY.walkR_any ?_
        simp only [dsc_,dz_,tsc_,tz_]
        go_big_quiet_step (fail)
        refine wpQuiet_nil ?_
        refine RY.walkR_move ?_
        simp only [dsc_,dz_,tsc_,tz_]
        go_wp2_with fail
        refine ⟨⟨⟨_,Wc.out⟩,rfl⟩,?_⟩
        refine RY.walkR_move ?_
        simp only [dsc_,dz_,tsc_,tz_]
        go_wp2_with fail
        refine ⟨⟨⟨_,Wc.out⟩,rfl⟩,?_⟩
        refine RY.walkR_move ?_
        simp only [dsc_,dz_,tsc_,tz_]
        go_wp2_with fail
        simp only [RY.walkR]
        have hb:=Wc.out
        have B12:=hd_ (B11.out.trans (hb.mono B11.out.size))
        replace T1:=hd_ (heap_kept T1.out hb nr_)
        replace T2:=hd_ (heap_kept T2.out hb nr_)
        replace HX:=hd_ (HX.out.below hb)
        replace HY:=hd_ (HY.out.below hb)
        clear hb Wc B11
        generalize wc=w12 at *
        go_wp2_with fail
        obtain ⟨k0,k1,k2,-⟩:=obj_cells3 T1.out
        obtain ⟨m0,m1,m2,-⟩:=obj_cells3 T2.out
        have s2:=BW.cell k2
        have r2:=BW.cell m2
        have hnon:Nonempty (BW w12):=⟨⟨w12,Below.refl _ _⟩⟩
        have I:Hid (Below w12.heap.size w12 w12.drew):=(Below.refl _ _).drew
        go_wp2_with fail
        clear k0 k1 k2 m0 m1 m2
        refine RY.wp_region_readers 15 [(1,0),(1,1),(1,2),(1,4),(1,5),(1,6),(0,3),(0,7),(0,8),(2,9),(2,10),(2,11),(2,12),(0,13),(0,14),(0,15)] (fun w'=>∃ p:BW w12,w'=p.w) (by kernel_rfl) (by kernel_rfl) ?_ ?_
        ·exact ⟨⟨_,I.out⟩,rfl⟩
        iterate 6 (refine RY.walkR_read ?_; simp only [dsc_,dz_,tsc_,tz_]; go_big_quiet_step (fail); refine wpQuiet_nil ?_)
        clear hnon s2 r2
        refine RY.walkR_move ?_
        simp only [dsc_,dz_,tsc_,tz_]
        go_wp2_with fail
        refine cm_ (HMg.out (-xl) _ (by omega) (B12.out.drew)) ?_
        rintro e_ wa ⟨rfl,hb⟩
        have Wa:Hid (Below w12.heap.size w12 wa):=(Below.refl w12.heap.size w12).drew.trans hb
        clear hb I
        go_wp2_with fail
        refine ⟨⟨⟨_,Wa.out⟩,rfl⟩,?_⟩
        refine RY.walkR_move ?_
        simp only [dsc_,dz_,tsc_,tz_]
        go_wp2_with fail
        refine cm_ (HMd.out (-yl) _ (by omega) (B12.out.trans (Wa.out.mono B12.out.size))) ?_
        rintro e_ wb ⟨rfl,hb⟩
        have Wb:=hd_ (Wa.out.trans (hb.mono Wa.out.size))
        clear hb Wa
        go_wp2_with fail
        refine ⟨⟨⟨_,Wb.out⟩,rfl⟩,?_⟩
        refine RY.walkR_move ?_
        simp only [dsc_,dz_,tsc_,tz_]
        go_wp2_with fail
        refine cm_ (HDv.out (-xl) (-yl) _ (by omega) (by omega) (by omega) (B12.out.trans (Wb.out.mono B12.out.size))) ?_
        rintro e_ wc ⟨rfl,hb⟩
        have Wc:=hd_ (Wb.out.trans (hb.mono Wb.out.size))
        clear hb Wb
        go_wp2_with fail
        refine ⟨⟨⟨_,Wc.out⟩,rfl⟩,?_⟩
        refine RY.walkR_any ?_
        simp only [dsc_,dz_,tsc_,tz_]
        go_big_quiet_step (fail)
        refine wpQuiet_nil ?_
        refine RY.walkR_any ?_
        simp only [dsc_,dz_,tsc_,tz_]
        go_big_quiet_step (fail)
        refine wpQuiet_nil ?_
        refine RY.walkR_any ?_
        simp only [dsc_,dz_,tsc_,tz_]
        go_big_quiet_step (fail)
        refine wpQuiet_nil ?_
        refine RY.walkR_any ?_
        simp only [dsc_,dz_,tsc_,tz_]
        go_big_quiet_step (fail)
        refine wpQuiet_nil ?_
        refine RY.walkR_move ?_
        simp only [dsc_,dz_,tsc_,tz_]
        go_wp2_with fail
        refine ⟨⟨⟨_,Wc.out⟩,rfl⟩,?_⟩
        refine RY.walkR_move ?_
        simp only [dsc_,dz_,tsc_,tz_]
        go_wp2_with fail
        refine ⟨⟨⟨_,Wc.out⟩,rfl⟩,?_⟩
        refine RY.walkR_move ?_
        simp only [dsc_,dz_,tsc_,tz_]
        go_wp2_with fail
        simp only [RY.walkR]
        have hb:=Wc.out
        have B13:=hd_ (B12.out.trans (hb.mono B12.out.size))
        replace T1:=hd_ (heap_kept T1.out hb nr_)
        replace T2:=hd_ (heap_kept T2.out hb nr_)
        replace HX:=hd_ (HX.out.below hb)
        replace HY:=hd_ (HY.out.below hb)
        clear hb Wc B12
        generalize wc=w13 at *
        have hfl:fl=if (-xh) * (dy:Int) / ((-yh) * (dx:Int))=(-xl) * (dy:Int) / ((-yl) * (dx:Int)) then some ((-xh) * (dy:Int) / ((-yh) * (dx:Int))) else none:=by
         rw [Hf.out]
         unfold flS
         rw [if_pos (show yh≤0 by omega)]
         unfold flE LN.quoL LN.quoH
         rw [if_neg (show ¬ (-yh)≤0 by omega),if_pos (show (-xh) < 0 by omega),if_pos (show (-xl) < 0 by omega)]
        have hsame:=same_itx ((-xh) * (dy:Int) / ((-yh) * (dx:Int))) ((-xl) * (dy:Int) / ((-yl) * (dx:Int)))
        clear Hf
        generalize (-xh) * (dy:Int) / ((-yh) * (dx:Int))=q1 at *
        generalize (-xl) * (dy:Int) / ((-yl) * (dx:Int))=q2 at *
        by_cases hqq:q1=q2
        ·rw [if_pos hqq] at hfl
         rw [decide_eq_true hqq] at hsame
         have Hans:=hd_ (Hspec.out _ hfl)
         clear hfl hqq Hspec Hnx
         go_wp2_with fail
         go_ret
         exact ⟨⟨q1,rfl,Hans.out⟩,B13.out⟩
        ·rw [if_neg hqq] at hfl
         rw [decide_eq_false hqq] at hsame
         obtain ⟨hn2,hp2⟩:=Hnx.out hfl
         have Hp2:=hd_ hp2
         clear hfl hqq Hspec Hnx hp2
         go_wp2_with fail
         go_roundw
         case rel=>exact ⟨n * 2,Hp2,hn2,rfl,B13,T1,T2,HX,HY⟩
         case measure=>simp [intOf]; omega
       ·have hsg:¬ (-xl).sign < 0:=by have:=sign_cases (-xl); omega
        generalize (-xl).sign=sg at *
        obtain ⟨k0,k1,k2,-⟩:=obj_cells3 T1.out
        obtain ⟨m0,m1,m2,-⟩:=obj_cells3 T2.out
        have s2:=BW.cell k2
        have r2:=BW.cell m2
        have hnon:Nonempty (BW w11):=⟨⟨w11,Below.refl _ _⟩⟩
        have I:Hid (Below w11.heap.size w11 w11.drew):=(Below.refl _ _).drew
        go_wp2_with fail
        clear k0 k1 k2 m0 m1 m2
        refine RY.wp_region_readers 15 [(1,0),(1,1),(1,2),(1,4),(1,5),(1,6),(0,3),(0,7),(0,8),(2,9),(2,10),(2,11),(2,12),(0,13),(0,14),(0,15)] (fun w'=>∃ p:BW w11,w'=p.w) (by kernel_rfl) (by kernel_rfl) ?_ ?_
        ·exact ⟨⟨_,I.out⟩,rfl⟩
        iterate 6 (refine RY.walkR_read ?_; simp only [dsc_,dz_,tsc_,tz_]; go_big_quiet_step (fail); refine wpQuiet_nil ?_)
        clear hnon s2 r2
        refine RY.walkR_move ?_
        simp only [dsc_,dz_,tsc_,tz_]
        go_wp2_with fail
        refine cm_ (HMg.out (-xh) _ (by omega) (B11.out.drew)) ?_
        rintro e_ wa ⟨rfl,hb⟩
        have Wa:Hid (Below w11.heap.size w11 wa):=(Below.refl w11.heap.size w11).drew.trans hb
        clear hb I
        go_wp2_with fail
        refine ⟨⟨⟨_,Wa.out⟩,rfl⟩,?_⟩
        refine RY.walkR_move ?_
        simp only [dsc_,dz_,tsc_,tz_]
        go_wp2_with fail
        refine cm_ (HMd.out (-yh) _ (by omega) (B11.out.trans (Wa.out.mono B11.out.size))) ?_
        rintro e_ wb ⟨rfl,hb⟩
        have Wb:=hd_ (Wa.out.trans (hb.mono Wa.out.size))
        clear hb Wa
        go_wp2_with fail
        refine ⟨⟨⟨_,Wb.out⟩,rfl⟩,?_⟩
        refine RY.walkR_move ?_
        simp only [dsc_,dz_,tsc_,tz_]
        go_wp2_with fail
        refine cm_ (HDv.out (-xh) (-yh) _ (by omega) (by omega) (by omega) (B11.out.trans (Wb.out.mono B11.out.size))) ?_
        rintro e_ wc ⟨rfl,hb⟩
        have Wc:=hd_ (Wb.out.trans (hb.mono Wb.out.size))
        clear hb Wb
        go_wp2_with fail
        refine ⟨⟨⟨_,Wc.out⟩,rfl⟩,?_⟩
        refine RY.walkR_any ?_
        simp only [dsc_,dz_,tsc_,tz_]
        go_big_quiet_step (fail)
        refine wpQuiet_nil ?_
        refine RY.walkR_any ?_
        simp only [dsc_,dz_,tsc_,tz_]
        go_big_quiet_step (fail)
        refine wpQuiet_nil ?_
        refine RY.walkR_any ?_
        simp only [dsc_,dz_,tsc_,tz_]
        go_big_quiet_step (fail)
        refine wpQuiet_nil ?_
        refine RY.walkR_any ?_
        simp only [dsc_,dz_,tsc_,tz_]
        go_big_quiet_step (fail)
        refine wpQuiet_nil ?_
        refine RY.walkR_move ?_
        simp only [dsc_,dz_,tsc_,tz_]
        go_wp2_with fail
        refine ⟨⟨⟨_,Wc.out⟩,rfl⟩,?_⟩
        refine RY.walkR_move ?_
        simp only [dsc_,dz_,tsc_,tz_]
        go_wp2_with fail
        refine ⟨⟨⟨_,Wc.out⟩,rfl⟩,?_⟩
        refine RY.walkR_move ?_
        simp only [dsc_,dz_,tsc_,tz_]
        go_wp2_with fail
        simp only [RY.walkR]
        have hb:=Wc.out
        have B12:=hd_ (B11.out.trans (hb.mono B11.out.size))
        replace T1:=hd_ (heap_kept T1.out hb nr_)
        replace T2:=hd_ (heap_kept T2.out hb nr_)
        replace HX:=hd_ (HX.out.below hb)
        replace HY:=hd_ (HY.out.below hb)
        clear hb Wc B11
        generalize wc=w12 at *
        go_wp2_with fail
        obtain ⟨k0,k1,k2,-⟩:=obj_cells3 T1.out
        obtain ⟨m0,m1,m2,-⟩:=obj_cells3 T2.out
        have s2:=BW.cell k2
        have r2:=BW.cell m2
        have hnon:Nonempty (BW w12):=⟨⟨w12,Below.refl _ _⟩⟩
        have I:Hid (Below w12.heap.size w12 w12.drew):=(Below.refl _ _).drew
        go_wp2_with fail
        clear k0 k1 k2 m0 m1 m2
        refine RY.wp_region_readers 15 [(1,0),(1,1),(1,2),(1,4),(1,5),(1,6),(0,3),(0,7),(0,8),(2,9),(2,10),(2,11),(2,12),(0,13),(0,14),(0,15)] (fun w'=>∃ p:BW w12,w'=p.w) (by kernel_rfl) (by kernel_rfl) ?_ ?_
        ·exact ⟨⟨_,I.out⟩,rfl⟩
        iterate 6 (refine RY.walkR_read ?_; simp only [dsc_,dz_,tsc_,tz_]; go_big_quiet_step (fail); refine wpQuiet_nil ?_)
        clear hnon s2 r2
        refine RY.walkR_move ?_
        simp only [dsc_,dz_,tsc_,tz_]
        go_wp2_with fail
        refine cm_ (HMg.out (-xl) _ (by omega) (B12.out.drew)) ?_
        rintro e_ wa ⟨rfl,hb⟩
        have Wa:Hid (Below w12.heap.size w12 wa):=(Below.refl w12.heap.size w12).drew.trans hb
        clear hb I
        go_wp2_with fail
        refine ⟨⟨⟨_,Wa.out⟩,rfl⟩,?_⟩
        refine RY.walkR_move ?_
        simp only [dsc_,dz_,tsc_,tz_]
        go_wp2_with fail
        refine cm_ (HMd.out (-yh) _ (by omega) (B12.out.trans (Wa.out.mono B12.out.size))) ?_
        rintro e_ wb ⟨rfl,hb⟩
        have Wb:=hd_ (Wa.out.trans (hb.mono Wa.out.size))
        clear hb Wa
        go_wp2_with fail
        refine ⟨⟨⟨_,Wb.out⟩,rfl⟩,?_⟩
        refine RY.walkR_move ?_
        simp only [dsc_,dz_,tsc_,tz_]
        go_wp2_with fail
        refine cm_ (HDv.out (-xl) (-yh) _ (by omega) (by omega) (by omega) (B12.out.trans (Wb.out.mono B12.out.size))) ?_
        rintro e_ wc ⟨rfl,hb⟩
        have Wc:=hd_ (Wb.out.trans (hb.mono Wb.out.size))
        clear hb Wb
        go_wp2_with fail
        refine ⟨⟨⟨_,Wc.out⟩,rfl⟩,?_⟩
        refine RY.walkR_any ?_
        simp only [dsc_,dz_,tsc_,tz_]
        go_big_quiet_step (fail)
        refine wpQuiet_nil ?_
        refine RY.walkR_any ?_
        simp only [dsc_,dz_,tsc_,tz_]
        go_big_quiet_step (fail)
        refine wpQuiet_nil ?_
        refine RY.walkR_any ?_
        simp only [dsc_,dz_,tsc_,tz_]
        go_big_quiet_step (fail)
        refine wpQuiet_nil ?_
        refine RY.walkR_any ?_
        simp only [dsc_,dz_,tsc_,tz_]
        go_big_quiet_step (fail)
        refine wpQuiet_nil ?_
        refine RY.walkR_move ?_
        simp only [dsc_,dz_,tsc_,tz_]
        go_wp2_with fail
        refine ⟨⟨⟨_,Wc.out⟩,rfl⟩,?_⟩
        refine RY.walkR_move ?_
        simp only [dsc_,dz_,tsc_,tz_]
        go_wp2_with fail
        refine ⟨⟨⟨_,Wc.out⟩,rfl⟩,?_⟩
        refine RY.walkR_move ?_
        simp only [dsc_,dz_,tsc_,tz_]
        go_wp2_with fail
        simp only [RY.walkR]
        have hb:=Wc.out
        have B13:=hd_ (B12.out.trans (hb.mono B12.out.size))
        replace T1:=hd_ (heap_kept T1.out hb nr_)
        replace T2:=hd_ (heap_kept T2.out hb nr_)
        replace HX:=hd_ (HX.out.below hb)
        replace HY:=hd_ (HY.out.below hb)
        clear hb Wc B12
        generalize wc=w13 at *
        have hfl:fl=if (-xh) * (dy:Int) / ((-yh) * (dx:Int))=(-xl) * (dy:Int) / ((-yh) * (dx:Int)) then some ((-xh) * (dy:Int) / ((-yh) * (dx:Int))) else none:=by
         rw [Hf.out]
         unfold flS
         rw [if_pos (show yh≤0 by omega)]
         unfold flE LN.quoL LN.quoH
         rw [if_neg (show ¬ (-yh)≤0 by omega),if_pos (show (-xh) < 0 by omega),if_neg (show ¬ (-xl) < 0 by omega)]
        have hsame:=same_itx ((-xh) * (dy:Int) / ((-yh) * (dx:Int))) ((-xl) * (dy:Int) / ((-yh) * (dx:Int)))
        clear Hf
        generalize (-xh) * (dy:Int) / ((-yh) * (dx:Int))=q1 at *
        generalize (-xl) * (dy:Int) / ((-yh) * (dx:Int))=q2 at *
        by_cases hqq:q1=q2
        ·rw [if_pos hqq] at hfl
         rw [decide_eq_true hqq] at hsame
         have Hans:=hd_ (Hspec.out _ hfl)
         clear hfl hqq Hspec Hnx
         go_wp2_with fail
         go_ret
         exact ⟨⟨q1,rfl,Hans.out⟩,B13.out⟩
        ·rw [if_neg hqq] at hfl
         rw [decide_eq_false hqq] at hsame
         obtain ⟨hn2,hp2⟩:=Hnx.out hfl
         have Hp2:=hd_ hp2
         clear hfl hqq Hspec Hnx hp2
         go_wp2_with fail
         go_roundw
         case rel=>exact ⟨n * 2,Hp2,hn2,rfl,B13,T1,T2,HX,HY⟩
         case measure=>simp [intOf]; omega
      ·have hsg:¬ (-xh).sign < 0:=by have:=sign_cases (-xh); omega
       generalize (-xh).sign=sg at *
       go_wp2_with fail
       clear hsg
       refine cm_ (HS.out (-xl) _) ?_
       rintro e_ w11 ⟨rfl,hb⟩
       have B11:=hd_ (B10.out.trans (hb.mono B10.out.size))
       replace T1:=hd_ (heap_kept T1.out hb nr_)
       replace T2:=hd_ (heap_kept T2.out hb nr_)
       replace HX:=hd_ (HX.out.below hb)
       replace HY:=hd_ (HY.out.below hb)
       clear hb B10
       by_cases hx2:(-xl) < 0
       ·have hsg:(-xl).sign < 0:=by have:=sign_cases (-xl); omega
        generalize (-xl).sign=sg at *
        obtain ⟨k0,k1,k2,-⟩:=obj_cells3 T1.out
        obtain ⟨m0,m1,m2,-⟩:=obj_cells3 T2.out
        have s2:=BW.cell k2
        have r2:=BW.cell m2
        have hnon:Nonempty (BW w11):=⟨⟨w11,Below.refl _ _⟩⟩
        have I:Hid (Below w11.heap.size w11 w11.drew):=(Below.refl _ _).drew
        go_wp2_with fail
        clear k0 k1 k2 m0 m1 m2
        refine RY.wp_region_readers 15 [(1,0),(1,1),(1,2),(1,4),(1,5),(1,6),(0,3),(0,7),(0,8),(2,9),(2,10),(2,11),(2,12),(0,13),(0,14),(0,15)] (fun w'=>∃ p:BW w11,w'=p.w) (by kernel_rfl) (by kernel_rfl) ?_ ?_
        ·exact ⟨⟨_,I.out⟩,rfl⟩
        iterate 6 (refine RY.walkR_read ?_; simp only [dsc_,dz_,tsc_,tz_]; go_big_quiet_step (fail); refine wpQuiet_nil ?_)
        clear hnon s2 r2
        refine RY.walkR_move ?_
        simp only [dsc_,dz_,tsc_,tz_]
        go_wp2_with fail
        refine cm_ (HMg.out (-xh) _ (by omega) (B11.out.drew)) ?_
        rintro e_ wa ⟨rfl,hb⟩
        have Wa:Hid (Below w11.heap.size w11 wa):=(Below.refl w11.heap.size w11).drew.trans hb
        clear hb I
        go_wp2_with fail
        refine ⟨⟨⟨_,Wa.out⟩,rfl⟩,?_⟩
        refine RY.walkR_move ?_
        simp only [dsc_,dz_,tsc_,tz_]
        go_wp2_with fail
        refine cm_ (HMd.out (-yl) _ (by omega) (B11.out.trans (Wa.out.mono B11.out.size))) ?_
        rintro e_ wb ⟨rfl,hb⟩
        have Wb:=hd_ (Wa.out.trans (hb.mono Wa.out.size))
        clear hb Wa
        go_wp2_with fail
        refine ⟨⟨⟨_,Wb.out⟩,rfl⟩,?_⟩
        refine RY.walkR_move ?_
        simp only [dsc_,dz_,tsc_,tz_]
        go_wp2_with fail
        refine cm_ (HDv.out (-xh) (-yl) _ (by omega) (by omega) (by omega) (B11.out.trans (Wb.out.mono B11.out.size))) ?_
        rintro e_ wc ⟨rfl,hb⟩
        have Wc:=hd_ (Wb.out.trans (hb.mono Wb.out.size))
        clear hb Wb
        go_wp2_with fail
        refine ⟨⟨⟨_,Wc.out⟩,rfl⟩,?_⟩
        refine RY.walkR_any ?_
        simp only [dsc_,dz_,tsc_,tz_]
        go_big_quiet_step (fail)
        refine wpQuiet_nil ?_
        refine RY.walkR_any ?_
        simp only [dsc_,dz_,tsc_,tz_]
        go_big_quiet_step (fail)
        refine wpQuiet_nil ?_
        refine RY.walkR_any ?_
        simp only [dsc_,dz_,tsc_,tz_]
        go_big_quiet_step (fail)
        refine wpQuiet_nil ?_
        refine RY.walkR_any ?_
        simp only [dsc_,dz_,tsc_,tz_]
        go_big_quiet_step (fail)
        refine wpQuiet_nil ?_
        refine RY.walkR_move ?_
        simp only [dsc_,dz_,tsc_,tz_]
        go_wp2_with fail
        refine ⟨⟨⟨_,Wc.out⟩,rfl⟩,?_⟩
        refine RY.walkR_move ?_
        simp only [dsc_,dz_,tsc_,tz_]
        go_wp2_with fail
        refine ⟨⟨⟨_,Wc.out⟩,rfl⟩,?_⟩
        refine RY.walkR_move ?_
        simp only [dsc_,dz_,tsc_,tz_]
        go_wp2_with fail
        simp only [RY.walkR]
        have hb:=Wc.out
        have B12:=hd_ (B11.out.trans (hb.mono B11.out.size))
        replace T1:=hd_ (heap_kept T1.out hb nr_)
        replace T2:=hd_ (heap_kept T2.out hb nr_)
        replace HX:=hd_ (HX.out.below hb)
        replace HY:=hd_ (HY.out.below hb)
        clear hb Wc B11
        generalize wc=w12 at *
        go_wp2_with fail
        obtain ⟨k0,k1,k2,-⟩:=obj_cells3 T1.out
        obtain ⟨m0,m1,m2,-⟩:=obj_cells3 T2.out
        have s2:=BW.cell k2
        have r2:=BW.cell m2
        have hnon:Nonempty (BW w12):=⟨⟨w12,Below.refl _ _⟩⟩
        have I:Hid (Below w12.heap.size w12 w12.drew):=(Below.refl _ _).drew
        go_wp2_with fail
        clear k0 k1 k2 m0 m1 m2
        refine RY.wp_region_readers 15 [(1,0),(1,1),(1,2),(1,4),(1,5),(1,6),(0,3),(0,7),(0,8),(2,9),(2,10),(2,11),(2,12),(0,13),(0,14),(0,15)] (fun w'=>∃ p:BW w12,w'=p.w) (by kernel_rfl) (by kernel_rfl) ?_ ?_
        ·exact ⟨⟨_,I.out⟩,rfl⟩
        iterate 6 (refine RY.walkR_read ?_; simp only [dsc_,dz_,tsc_,tz_]; go_big_quiet_step (fail); refine wpQuiet_nil ?_)
        clear hnon s2 r2
        refine RY.walkR_move ?_
        simp only [dsc_,dz_,tsc_,tz_]
        go_wp2_with fail
        refine cm_ (HMg.out (-xl) _ (by omega) (B12.out.drew)) ?_
        rintro e_ wa ⟨rfl,hb⟩
        have Wa:Hid (Below w12.heap.size w12 wa):=(Below.refl w12.heap.size w12).drew.trans hb
        clear hb I
        go_wp2_with fail
        refine ⟨⟨⟨_,Wa.out⟩,rfl⟩,?_⟩
        refine RY.walkR_move ?_
        simp only [dsc_,dz_,tsc_,tz_]
        go_wp2_with fail
        refine cm_ (HMd.out (-yl) _ (by omega) (B12.out.trans (Wa.out.mono B12.out.size))) ?_
        rintro e_ wb ⟨rfl,hb⟩
        have Wb:=hd_ (Wa.out.trans (hb.mono Wa.out.size))
        clear hb Wa
        go_wp2_with fail
        refine ⟨⟨⟨_,Wb.out⟩,rfl⟩,?_⟩
        refine RY.walkR_move ?_
        simp only [dsc_,dz_,tsc_,tz_]
        go_wp2_with fail
        refine cm_ (HDv.out (-xl) (-yl) _ (by omega) (by omega) (by omega) (B12.out.trans (Wb.out.mono B12.out.size))) ?_
        rintro e_ wc ⟨rfl,hb⟩
        have Wc:=hd_ (Wb.out.trans (hb.mono Wb.out.size))
        clear hb Wb
        go_wp2_with fail
        refine ⟨⟨⟨_,Wc.out⟩,rfl⟩,?_⟩
        refine RY.walkR_any ?_
        simp only [dsc_,dz_,tsc_,tz_]
        go_big_quiet_step (fail)
        refine wpQuiet_nil ?_
        refine RY.walkR_any ?_
        simp only [dsc_,dz_,tsc_,tz_]
        go_big_quiet_step (fail)
        refine wpQuiet_nil ?_
        refine RY.walkR_any ?_
        simp only [dsc_,dz_,tsc_,tz_]
        go_big_quiet_step (fail)
        refine wpQuiet_nil ?_
        refine RY.walkR_any ?_
        simp only [dsc_,dz_,tsc_,tz_]
        go_big_quiet_step (fail)
        refine wpQuiet_nil ?_
        refine RY.walkR_move ?_
        simp only [dsc_,dz_,tsc_,tz_]
        go_wp2_with fail
        refine ⟨⟨⟨_,Wc.out⟩,rfl⟩,?_⟩
        refine RY.walkR_move ?_
        simp only [dsc_,dz_,tsc_,tz_]
        go_wp2_with fail
        refine ⟨⟨⟨_,Wc.out⟩,rfl⟩,?_⟩
        refine RY.walkR_move ?_
        simp only [dsc_,dz_,tsc_,tz_]
        go_wp2_with fail
        simp only [RY.walkR]
        have hb:=Wc.out
        have B13:=hd_ (B12.out.trans (hb.mono B12.out.size))
        replace T1:=hd_ (heap_kept T1.out hb nr_)
        replace T2:=hd_ (heap_kept T2.out hb nr_)
        replace HX:=hd_ (HX.out.below hb)
        replace HY:=hd_ (HY.out.below hb)
        clear hb Wc B12
        generalize wc=w13 at *
        have hfl:fl=if (-xh) * (dy:Int) / ((-yl) * (dx:Int))=(-xl) * (dy:Int) / ((-yl) * (dx:Int)) then some ((-xh) * (dy:Int) / ((-yl) * (dx:Int))) else none:=by
         rw [Hf.out]
         unfold flS
         rw [if_pos (show yh≤0 by omega)]
         unfold flE LN.quoL LN.quoH
         rw [if_neg (show ¬ (-yh)≤0 by omega),if_neg (show ¬ (-xh) < 0 by omega),if_pos (show (-xl) < 0 by omega)]
        have hsame:=same_itx ((-xh) * (dy:Int) / ((-yl) * (dx:Int))) ((-xl) * (dy:Int) / ((-yl) * (dx:Int)))
        clear Hf
        generalize (-xh) * (dy:Int) / ((-yl) * (dx:Int))=q1 at *
        generalize (-xl) * (dy:Int) / ((-yl) * (dx:Int))=q2 at *
        by_cases hqq:q1=q2
        ·rw [if_pos hqq] at hfl
         rw [decide_eq_true hqq] at hsame
         have Hans:=hd_ (Hspec.out _ hfl)
         clear hfl hqq Hspec Hnx
         go_wp2_with fail
         go_ret
         exact ⟨⟨q1,rfl,Hans.out⟩,B13.out⟩
        ·rw [if_neg hqq] at hfl
         rw [decide_eq_false hqq] at hsame
         obtain ⟨hn2,hp2⟩:=Hnx.out hfl
         have Hp2:=hd_ hp2
         clear hfl hqq Hspec Hnx hp2
         go_wp2_with fail
         go_roundw
         case rel=>exact ⟨n * 2,Hp2,hn2,rfl,B13,T1,T2,HX,HY⟩
         case measure=>simp [intOf]; omega
       ·have hsg:¬ (-xl).sign < 0:=by have:=sign_cases (-xl); omega
        generalize (-xl).sign=sg at *
        obtain ⟨k0,k1,k2,-⟩:=obj_cells3 T1.out
        obtain ⟨m0,m1,m2,-⟩:=obj_cells3 T2.out
        have s2:=BW.cell k2
        have r2:=BW.cell m2
        have hnon:Nonempty (BW w11):=⟨⟨w11,Below.refl _ _⟩⟩
        have I:Hid (Below w11.heap.size w11 w11.drew):=(Below.refl _ _).drew
        go_wp2_with fail
        clear k0 k1 k2 m0 m1 m2
        refine RY.wp_region_readers 15 [(1,0),(1,1),(1,2),(1,4),(1,5),(1,6),(0,3),(0,7),(0,8),(2,9),(2,10),(2,11),(2,12),(0,13),(0,14),(0,15)] (fun w'=>∃ p:BW w11,w'=p.w) (by kernel_rfl) (by kernel_rfl) ?_ ?_
        ·exact ⟨⟨_,I.out⟩,rfl⟩
        iterate 6 (refine RY.walkR_read ?_; simp only [dsc_,dz_,tsc_,tz_]; go_big_quiet_step (fail); refine wpQuiet_nil ?_)
        clear hnon s2 r2
        refine RY.walkR_move ?_
        simp only [dsc_,dz_,tsc_,tz_]
        go_wp2_with fail
        refine cm_ (HMg.out (-xh) _ (by omega) (B11.out.drew)) ?_
        rintro e_ wa ⟨rfl,hb⟩
        have Wa:Hid (Below w11.heap.size w11 wa):=(Below.refl w11.heap.size w11).drew.trans hb
        clear hb I
        go_wp2_with fail
        refine ⟨⟨⟨_,Wa.out⟩,rfl⟩,?_⟩
        refine RY.walkR_move ?_
        simp only [dsc_,dz_,tsc_,tz_]
        go_wp2_with fail
        refine cm_ (HMd.out (-yl) _ (by omega) (B11.out.trans (Wa.out.mono B11.out.size))) ?_
        rintro e_ wb ⟨rfl,hb⟩
        have Wb:=hd_ (Wa.out.trans (hb.mono Wa.out.size))
        clear hb Wa
        go_wp2_with fail
        refine ⟨⟨⟨_,Wb.out⟩,rfl⟩,?_⟩
        refine RY.walkR_move ?_
        simp only [dsc_,dz_,tsc_,tz_]
        go_wp2_with fail
        refine cm_ (HDv.out (-xh) (-yl) _ (by omega) (by omega) (by omega) (B11.out.trans (Wb.out.mono B11.out.size))) ?_
        rintro e_ wc ⟨rfl,hb⟩
        have Wc:=hd_ (Wb.out.trans (hb.mono Wb.out.size))
        clear hb Wb
        go_wp2_with fail
        refine ⟨⟨⟨_,Wc.out⟩,rfl⟩,?_⟩
        refine RY.walkR_any ?_
        simp only [dsc_,dz_,tsc_,tz_]
        go_big_quiet_step (fail)
        refine wpQuiet_nil ?_
        refine RY.walkR_any ?_
        simp only [dsc_,dz_,tsc_,tz_]
        go_big_quiet_step (fail)
        refine wpQuiet_nil ?_
        refine RY.walkR_any ?_
        simp only [dsc_,dz_,tsc_,tz_]
        go_big_quiet_step (fail)
        refine wpQuiet_nil ?_
        refine RY.walkR_any ?_
        simp only [dsc_,dz_,tsc_,tz_]
        go_big_quiet_step (fail)
        refine wpQuiet_nil ?_
        refine RY.walkR_move ?_
        simp only [dsc_,dz_,tsc_,tz_]
        go_wp2_with fail
        refine ⟨⟨⟨_,Wc.out⟩,rfl⟩,?_⟩
        refine RY.walkR_move ?_
        simp only [dsc_,dz_,tsc_,tz_]
        go_wp2_with fail
        refine ⟨⟨⟨_,Wc.out⟩,rfl⟩,?_⟩
        refine RY.walkR_move ?_
        simp only [dsc_,dz_,tsc_,tz_]
        go_wp2_with fail
        simp only [RY.walkR]
        have hb:=Wc.out
        have B12:=hd_ (B11.out.trans (hb.mono B11.out.size))
        replace T1:=hd_ (heap_kept T1.out hb nr_)
        replace T2:=hd_ (heap_kept T2.out hb nr_)
        replace HX:=hd_ (HX.out.below hb)
        replace HY:=hd_ (HY.out.below hb)
        clear hb Wc B11
        generalize wc=w12 at *
        go_wp2_with fail
        obtain ⟨k0,k1,k2,-⟩:=obj_cells3 T1.out
        obtain ⟨m0,m1,m2,-⟩:=obj_cells3 T2.out
        have s2:=BW.cell k2
        have r2:=BW.cell m2
        have hnon:Nonempty (BW w12):=⟨⟨w12,Below.refl _ _⟩⟩
        have I:Hid (Below w12.heap.size w12 w12.drew):=(Below.refl _ _).drew
        go_wp2_with fail
        clear k0 k1 k2 m0 m1 m2
        refine RY.wp_region_readers 15 [(1,0),(1,1),(1,2),(1,4),(1,5),(1,6),(0,3),(0,7),(0,8),(2,9),(2,10),(2,11),(2,12),(0,13),(0,14),(0,15)] (fun w'=>∃ p:BW w12,w'=p.w) (by kernel_rfl) (by kernel_rfl) ?_ ?_
        ·exact ⟨⟨_,I.out⟩,rfl⟩
        iterate 6 (refine RY.walkR_read ?_; simp only [dsc_,dz_,tsc_,tz_]; go_big_quiet_step (fail); refine wpQuiet_nil ?_)
        clear hnon s2 r2
        refine RY.walkR_move ?_
        simp only [dsc_,dz_,tsc_,tz_]
        go_wp2_with fail
        refine cm_ (HMg.out (-xl) _ (by omega) (B12.out.drew)) ?_
        rintro e_ wa ⟨rfl,hb⟩
        have Wa:Hid (Below w12.heap.size w12 wa):=(Below.refl w12.heap.size w12).drew.trans hb
        clear hb I
        go_wp2_with fail
        refine ⟨⟨⟨_,Wa.out⟩,rfl⟩,?_⟩
        refine RY.walkR_move ?_
        simp only [dsc_,dz_,tsc_,tz_]
        go_wp2_with fail
        refine cm_ (HMd.out (-yh) _ (by omega) (B12.out.trans (Wa.out.mono B12.out.size))) ?_
        rintro e_ wb ⟨rfl,hb⟩
        have Wb:=hd_ (Wa.out.trans (hb.mono Wa.out.size))
        clear hb Wa
        go_wp2_with fail
        refine ⟨⟨⟨_,Wb.out⟩,rfl⟩,?_⟩
        refine RY.walkR_move ?_
        simp only [dsc_,dz_,tsc_,tz_]
        go_wp2_with fail
        refine cm_ (HDv.out (-xl) (-yh) _ (by omega) (by omega) (by omega) (B12.out.trans (Wb.out.mono B12.out.size))) ?_
        rintro e_ wc ⟨rfl,hb⟩
        have Wc:=hd_ (Wb.out.trans (hb.mono Wb.out.size))
        clear hb Wb
        go_wp2_with fail
        refine ⟨⟨⟨_,Wc.out⟩,rfl⟩,?_⟩
        refine RY.walkR_any ?_
        simp only [dsc_,dz_,tsc_,tz_]
        go_big_quiet_step (fail)
        refine wpQuiet_nil ?_
        refine RY.walkR_any ?_
        simp only [dsc_,dz_,tsc_,tz_]
        go_big_quiet_step (fail)
        refine wpQuiet_nil ?_
        refine RY.walkR_any ?_
        simp only [dsc_,dz_,tsc_,tz_]
        go_big_quiet_step (fail)
        refine wpQuiet_nil ?_
        refine RY.walkR_any ?_
        simp only [dsc_,dz_,tsc_,tz_]
        go_big_quiet_step (fail)
        refine wpQuiet_nil ?_
        refine RY.walkR_move ?_
        simp only [dsc_,dz_,tsc_,tz_]
        go_wp2_with fail
        refine ⟨⟨⟨_,Wc.out⟩,rfl⟩,?_⟩
        refine RY.walkR_move ?_
        simp only [dsc_,dz_,tsc_,tz_]
        go_wp2_with fail
        refine ⟨⟨⟨_,Wc.out⟩,rfl⟩,?_⟩
        refine RY.walkR_move ?_
        simp only [dsc_,dz_,tsc_,tz_]
        go_wp2_with fail
        simp only [RY.walkR]
        have hb:=Wc.out
        have B13:=hd_ (B12.out.trans (hb.mono B12.out.size))
        replace T1:=hd_ (heap_kept T1.out hb nr_)
        replace T2:=hd_ (heap_kept T2.out hb nr_)
        replace HX:=hd_ (HX.out.below hb)
        replace HY:=hd_ (HY.out.below hb)
        clear hb Wc B12
        generalize wc=w13 at *
        have hfl:fl=if (-xh) * (dy:Int) / ((-yl) * (dx:Int))=(-xl) * (dy:Int) / ((-yh) * (dx:Int)) then some ((-xh) * (dy:Int) / ((-yl) * (dx:Int))) else none:=by
         rw [Hf.out]
         unfold flS
         rw [if_pos (show yh≤0 by omega)]
         unfold flE LN.quoL LN.quoH
         rw [if_neg (show ¬ (-yh)≤0 by omega),if_neg (show ¬ (-xh) < 0 by omega),if_neg (show ¬ (-xl) < 0 by omega)]
        have hsame:=same_itx ((-xh) * (dy:Int) / ((-yl) * (dx:Int))) ((-xl) * (dy:Int) / ((-yh) * (dx:Int)))
        clear Hf
        generalize (-xh) * (dy:Int) / ((-yl) * (dx:Int))=q1 at *
        generalize (-xl) * (dy:Int) / ((-yh) * (dx:Int))=q2 at *
        by_cases hqq:q1=q2
        ·rw [if_pos hqq] at hfl
         rw [decide_eq_true hqq] at hsame
         have Hans:=hd_ (Hspec.out _ hfl)
         clear hfl hqq Hspec Hnx
         go_wp2_with fail
         go_ret
         exact ⟨⟨q1,rfl,Hans.out⟩,B13.out⟩
        ·rw [if_neg hqq] at hfl
         rw [decide_eq_false hqq] at hsame
         obtain ⟨hn2,hp2⟩:=Hnx.out hfl
         have Hp2:=hd_ hp2
         clear hfl hqq Hspec Hnx hp2
         go_wp2_with fail
         go_roundw
         case rel=>exact ⟨n * 2,Hp2,hn2,rfl,B13,T1,T2,HX,HY⟩
         case measure=>simp [intOf]; omega
    ·have hsg0:¬ yh.sign≤0:=by have:=sign_cases yh; omega
     generalize yh.sign=sg0 at *
     go_wp2_with fail
     refine cm_ (HS.out yl _) ?_
     rintro e_ w5 ⟨rfl,hb⟩
     have B5:=hd_ (B4.out.trans (hb.mono B4.out.size))
     replace T1:=hd_ (heap_kept T1.out hb nr_)
     replace T2:=hd_ (heap_kept T2.out hb nr_)
     replace HX:=hd_ (HX.out.below hb)
     replace HY:=hd_ (HY.out.below hb)
     clear hb B4
     by_cases hyl2:yl≤0
     ·have hsg:yl.sign≤0:=by have:=sign_cases yl; omega
      have hfl:fl=none:=by
       rw [Hf.out]
       unfold flS
       rw [if_neg (by omega)]
       unfold flE
       rw [if_pos (by omega)]
      obtain ⟨hn2,hp2⟩:=Hnx.out hfl
      have Hp2:=hd_ hp2
      clear hfl Hspec Hnx hp2 Hf
      generalize yl.sign=sg at *
      go_wp2_with fail
      go_roundw
      case rel=>exact ⟨n * 2,Hp2,hn2,rfl,B5,T1,T2,HX,HY⟩
      case measure=>simp [intOf]; omega
     ·have hsg:0 < yl.sign:=by have:=sign_cases yl; omega
      generalize yl.sign=sg at *
      go_wp2_with fail
      clear hsg
      refine cm_ (HS.out xl _) ?_
      rintro e_ w6 ⟨rfl,hb⟩
      have B6:=hd_ (B5.out.trans (hb.mono B5.out.size))
      replace T1:=hd_ (heap_kept T1.out hb nr_)
      replace T2:=hd_ (heap_kept T2.out hb nr_)
      replace HX:=hd_ (HX.out.below hb)
      replace HY:=hd_ (HY.out.below hb)
      clear hb B5
      by_cases hx1:xl < 0
      ·have hsg:xl.sign < 0:=by have:=sign_cases xl; omega
       generalize xl.sign=sg at *
       go_wp2_with fail
       clear hsg
       refine cm_ (HS.out xh _) ?_
       rintro e_ w7 ⟨rfl,hb⟩
       have B7:=hd_ (B6.out.trans (hb.mono B6.out.size))
       replace T1:=hd_ (heap_kept T1.out hb nr_)
       replace T2:=hd_ (heap_kept T2.out hb nr_)
       replace HX:=hd_ (HX.out.below hb)
       replace HY:=hd_ (HY.out.below hb)
       clear hb B6
       by_cases hx2:xh < 0
       ·have hsg:xh.sign < 0:=by have:=sign_cases xh; omega
        generalize xh.sign=sg at *
        obtain ⟨k0,k1,k2,-⟩:=obj_cells3 T1.out
        obtain ⟨m0,m1,m2,-⟩:=obj_cells3 T2.out
        have s2:=BW.cell k2
        have r2:=BW.cell m2
        have hnon:Nonempty (BW w7):=⟨⟨w7,Below.refl _ _⟩⟩
        have I:Hid (Below w7.heap.size w7 w7.drew):=(Below.refl _ _).drew
        go_wp2_with fail
        clear k0 k1 k2 m0 m1 m2
        refine RY.wp_region_readers 15 [(1,0),(1,1),(1,2),(1,4),(1,5),(1,6),(0,3),(0,7),(0,8),(2,9),(2,10),(2,11),(2,12),(0,13),(0,14),(0,15)] (fun w'=>∃ p:BW w7,w'=p.w) (by kernel_rfl) (by kernel_rfl) ?_ ?_
        ·exact ⟨⟨_,I.out⟩,rfl⟩
        iterate 6 (refine RY.walkR_read ?_; simp only [dsc_,dz_,tsc_,tz_]; go_big_quiet_step (fail); refine wpQuiet_nil ?_)
        clear hnon s2 r2
        refine RY.walkR_move ?_
        simp only [dsc_,dz_,tsc_,tz_]
        go_wp2_with fail
        refine cm_ (HMg.out xl _ (by omega) (B7.out.drew)) ?_
        rintro e_ wa ⟨rfl,hb⟩
        have Wa:Hid (Below w7.heap.size w7 wa):=(Below.refl w7.heap.size w7).drew.trans hb
        clear hb I
        go_wp2_with fail
        refine ⟨⟨⟨_,Wa.out⟩,rfl⟩,?_⟩
        refine RY.walkR_move ?_
        simp only [dsc_,dz_,tsc_,tz_]
        go_wp2_with fail
        refine cm_ (HMd.out yl _ (by omega) (B7.out.trans (Wa.out.mono B7.out.size))) ?_
        rintro e_ wb ⟨rfl,hb⟩
        have Wb:=hd_ (Wa.out.trans (hb.mono Wa.out.size))
        clear hb Wa
        go_wp2_with fail
        refine ⟨⟨⟨_,Wb.out⟩,rfl⟩,?_⟩
        refine RY.walkR_move ?_
        simp only [dsc_,dz_,tsc_,tz_]
        go_wp2_with fail
        refine cm_ (HDv.out xl yl _ (by omega) (by omega) (by omega) (B7.out.trans (Wb.out.mono B7.out.size))) ?_
        rintro e_ wc ⟨rfl,hb⟩
        have Wc:=hd_ (Wb.out.trans (hb.mono Wb.out.size))
        clear hb Wb
        go_wp2_with fail
        refine ⟨⟨⟨_,Wc.out⟩,rfl⟩,?_⟩
        refine RY.walkR_any ?_
        simp only [dsc_,dz_,tsc_,tz_]
        go_big_quiet_step (fail)
        refine wpQuiet_nil ?_
        refine RY.walkR_any ?_
        simp only [dsc_,dz_,tsc_,tz_]
        go_big_quiet_step (fail)
        refine wpQuiet_nil ?_
        refine RY.walkR_any ?_
        simp only [dsc_,dz_,tsc_,tz_]
        go_big_quiet_step (fail)
        refine wpQuiet_nil ?_
        refine RY.walkR_any ?_
        simp only [dsc_,dz_,tsc_,tz_]
        go_big_quiet_step (fail)
        refine wpQuiet_nil ?_
        refine RY.walkR_move ?_
        simp only [dsc_,dz_,tsc_,tz_]
        go_wp2_with fail
        refine ⟨⟨⟨_,Wc.out⟩,rfl⟩,?_⟩
        refine RY.walkR_move ?_
        simp only [dsc_,dz_,tsc_,tz_]
        go_wp2_with fail
        refine ⟨⟨⟨_,Wc.out⟩,rfl⟩,?_⟩
        refine RY.walkR_move ?_
        simp only [dsc_,dz_,tsc_,tz_]
        go_wp2_with fail
        simp only [RY.walkR]
        have hb:=Wc.out
        have B8:=hd_ (B7.out.trans (hb.mono B7.out.size))
        replace T1:=hd_ (heap_kept T1.out hb nr_)
        replace T2:=hd_ (heap_kept T2.out hb nr_)
        replace HX:=hd_ (HX.out.below hb)
        replace HY:=hd_ (HY.out.below hb)
        clear hb Wc B7
        generalize wc=w8 at *
        go_wp2_with fail
        obtain ⟨k0,k1,k2,-⟩:=obj_cells3 T1.out
        obtain ⟨m0,m1,m2,-⟩:=obj_cells3 T2.out
        have s2:=BW.cell k2
        have r2:=BW.cell m2
        have hnon:Nonempty (BW w8):=⟨⟨w8,Below.refl _ _⟩⟩
        have I:Hid (Below w8.heap.size w8 w8.drew):=(Below.refl _ _).drew
        go_wp2_with fail
        clear k0 k1 k2 m0 m1 m2
        refine RY.wp_region_readers 15 [(1,0),(1,1),(1,2),(1,4),(1,5),(1,6),(0,3),(0,7),(0,8),(2,9),(2,10),(2,11),(2,12),(0,13),(0,14),(0,15)] (fun w'=>∃ p:BW w8,w'=p.w) (by kernel_rfl) (by kernel_rfl) ?_ ?_
        ·exact ⟨⟨_,I.out⟩,rfl⟩
        iterate 6 (refine RY.walkR_read ?_; simp only [dsc_,dz_,tsc_,tz_]; go_big_quiet_step (fail); refine wpQuiet_nil ?_)
        clear hnon s2 r2
        refine RY.walkR_move ?_
        simp only [dsc_,dz_,tsc_,tz_]
        go_wp2_with fail
        refine cm_ (HMg.out xh _ (by omega) (B8.out.drew)) ?_
        rintro e_ wa ⟨rfl,hb⟩
        have Wa:Hid (Below w8.heap.size w8 wa):=(Below.refl w8.heap.size w8).drew.trans hb
        clear hb I
        go_wp2_with fail
        refine ⟨⟨⟨_,Wa.out⟩,rfl⟩,?_⟩
        refine RY.walkR_move ?_
        simp only [dsc_,dz_,tsc_,tz_]
        go_wp2_with fail
        refine cm_ (HMd.out yh _ (by omega) (B8.out.trans (Wa.out.mono B8.out.size))) ?_
        rintro e_ wb ⟨rfl,hb⟩
        have Wb:=hd_ (Wa.out.trans (hb.mono Wa.out.size))
        clear hb Wa
        go_wp2_with fail
        refine ⟨⟨⟨_,Wb.out⟩,rfl⟩,?_⟩
        refine RY.walkR_move ?_
        simp only [dsc_,dz_,tsc_,tz_]
        go_wp2_with fail
        refine cm_ (HDv.out xh yh _ (by omega) (by omega) (by omega) (B8.out.trans (Wb.out.mono B8.out.size))) ?_
        rintro e_ wc ⟨rfl,hb⟩
        have Wc:=hd_ (Wb.out.trans (hb.mono Wb.out.size))
        clear hb Wb
        go_wp2_with fail
        refine ⟨⟨⟨_,Wc.out⟩,rfl⟩,?_⟩
        refine RY.walkR_any ?_
        simp only [dsc_,dz_,tsc_,tz_]
        go_big_quiet_step (fail)
        refine wpQuiet_nil ?_
        refine RY.walkR_any ?_
        simp only [dsc_,dz_,tsc_,tz_]
        go_big_quiet_step (fail)
        refine wpQuiet_nil ?_
        refine RY.walkR_any ?_
        simp only [dsc_,dz_,tsc_,tz_]
        go_big_quiet_step (fail)
        refine wpQuiet_nil ?_
        refine RY.walkR_any ?_
        simp only [dsc_,dz_,tsc_,tz_]
        go_big_quiet_step (fail)
        refine wpQuiet_nil ?_
        refine RY.walkR_move ?_
        simp only [dsc_,dz_,tsc_,tz_]
        go_wp2_with fail
        refine ⟨⟨⟨_,Wc.out⟩,rfl⟩,?_⟩
        refine RY.walkR_move ?_
        simp only [dsc_,dz_,tsc_,tz_]
        go_wp2_with fail
        refine ⟨⟨⟨_,Wc.out⟩,rfl⟩,?_⟩
        refine RY.walkR_move ?_
        simp only [dsc_,dz_,tsc_,tz_]
        go_wp2_with fail
        simp only [RY.walkR]
        have hb:=Wc.out
        have B9:=hd_ (B8.out.trans (hb.mono B8.out.size))
        replace T1:=hd_ (heap_kept T1.out hb nr_)
        replace T2:=hd_ (heap_kept T2.out hb nr_)
        replace HX:=hd_ (HX.out.below hb)
        replace HY:=hd_ (HY.out.below hb)
        clear hb Wc B8
        generalize wc=w9 at *
        have hfl:fl=if xl * (dy:Int) / (yl * (dx:Int))=xh * (dy:Int) / (yh * (dx:Int)) then some (xl * (dy:Int) / (yl * (dx:Int))) else none:=by
         rw [Hf.out]
         unfold flS
         rw [if_neg (show ¬ yh≤0 by omega)]
         unfold flE LN.quoL LN.quoH
         rw [if_neg (show ¬ yl≤0 by omega),if_pos (show xl < 0 by omega),if_pos (show xh < 0 by omega)]
        have hsame:=same_itx (xl * (dy:Int) / (yl * (dx:Int))) (xh * (dy:Int) / (yh * (dx:Int)))
        clear Hf
        generalize xl * (dy:Int) / (yl * (dx:Int))=q1 at *
        generalize xh * (dy:Int) / (yh * (dx:Int))=q2 at *
        by_cases hqq:q1=q2
        ·rw [if_pos hqq] at hfl
         rw [decide_eq_true hqq] at hsame
         have Hans:=hd_ (Hspec.out _ hfl)
         clear hfl hqq Hspec Hnx
         go_wp2_with fail
         go_ret
         exact ⟨⟨q1,rfl,Hans.out⟩,B9.out⟩
        ·rw [if_neg hqq] at hfl
         rw [decide_eq_false hqq] at hsame
         obtain ⟨hn2,hp2⟩:=Hnx.out hfl
         have Hp2:=hd_ hp2
         clear hfl hqq Hspec Hnx hp2
         go_wp2_with fail
         go_roundw
         case rel=>exact ⟨n * 2,Hp2,hn2,rfl,B9,T1,T2,HX,HY⟩
         case measure=>simp [intOf]; omega
       ·have hsg:¬ xh.sign < 0:=by have:=sign_cases xh; omega
        generalize xh.sign=sg at *
        obtain ⟨k0,k1,k2,-⟩:=obj_cells3 T1.out
        obtain ⟨m0,m1,m2,-⟩:=obj_cells3 T2.out
        have s2:=BW.cell k2
        have r2:=BW.cell m2
        have hnon:Nonempty (BW w7):=⟨⟨w7,Below.refl _ _⟩⟩
        have I:Hid (Below w7.heap.size w7 w7.drew):=(Below.refl _ _).drew
        go_wp2_with fail
        clear k0 k1 k2 m0 m1 m2
        refine RY.wp_region_readers 15 [(1,0),(1,1),(1,2),(1,4),(1,5),(1,6),(0,3),(0,7),(0,8),(2,9),(2,10),(2,11),(2,12),(0,13),(0,14),(0,15)] (fun w'=>∃ p:BW w7,w'=p.w) (by kernel_rfl) (by kernel_rfl) ?_ ?_
        ·exact ⟨⟨_,I.out⟩,rfl⟩
        iterate 6 (refine RY.walkR_read ?_; simp only [dsc_,dz_,tsc_,tz_]; go_big_quiet_step (fail); refine wpQuiet_nil ?_)
        clear hnon s2 r2
        refine RY.walkR_move ?_
        simp only [dsc_,dz_,tsc_,tz_]
        go_wp2_with fail
        refine cm_ (HMg.out xl _ (by omega) (B7.out.drew)) ?_
        rintro e_ wa ⟨rfl,hb⟩
        have Wa:Hid (Below w7.heap.size w7 wa):=(Below.refl w7.heap.size w7).drew.trans hb
        clear hb I
        go_wp2_with fail
        refine ⟨⟨⟨_,Wa.out⟩,rfl⟩,?_⟩
        refine RY.walkR_move ?_
        simp only [dsc_,dz_,tsc_,tz_]
        go_wp2_with fail
        refine cm_ (HMd.out yl _ (by omega) (B7.out.trans (Wa.out.mono B7.out.size))) ?_
        rintro e_ wb ⟨rfl,hb⟩
        have Wb:=hd_ (Wa.out.trans (hb.mono Wa.out.size))
        clear hb Wa
        go_wp2_with fail
        refine ⟨⟨⟨_,Wb.out⟩,rfl⟩,?_⟩
        refine RY.walkR_move ?_
        simp only [dsc_,dz_,tsc_,tz_]
        go_wp2_with fail
        refine cm_ (HDv.out xl yl _ (by omega) (by omega) (by omega) (B7.out.trans (Wb.out.mono B7.out.size))) ?_
        rintro e_ wc ⟨rfl,hb⟩
        have Wc:=hd_ (Wb.out.trans (hb.mono Wb.out.size))
        clear hb Wb
        go_wp2_with fail
        refine ⟨⟨⟨_,Wc.out⟩,rfl⟩,?_⟩
        refine RY.walkR_any ?_
        simp only [dsc_,dz_,tsc_,tz_]
        go_big_quiet_step (fail)
        refine wpQuiet_nil ?_
        refine RY.walkR_any ?_
        simp only [dsc_,dz_,tsc_,tz_]
        go_big_quiet_step (fail)
        refine wpQuiet_nil ?_
        refine RY.walkR_any ?_
        simp only [dsc_,dz_,tsc_,tz_]
        go_big_quiet_step (fail)
        refine wpQuiet_nil ?_
        refine RY.walkR_any ?_
        simp only [dsc_,dz_,tsc_,tz_]
        go_big_quiet_step (fail)
        refine wpQuiet_nil ?_
        refine RY.walkR_move ?_
        simp only [dsc_,dz_,tsc_,tz_]
        go_wp2_with fail
        refine ⟨⟨⟨_,Wc.out⟩,rfl⟩,?_⟩
        refine RY.walkR_move ?_
        simp only [dsc_,dz_,tsc_,tz_]
        go_wp2_with fail
        refine ⟨⟨⟨_,Wc.out⟩,rfl⟩,?_⟩
        refine RY.walkR_move ?_
        simp only [dsc_,dz_,tsc_,tz_]
        go_wp2_with fail
        simp only [RY.walkR]
        have hb:=Wc.out
        have B8:=hd_ (B7.out.trans (hb.mono B7.out.size))
        replace T1:=hd_ (heap_kept T1.out hb nr_)
        replace T2:=hd_ (heap_kept T2.out hb nr_)
        replace HX:=hd_ (HX.out.below hb)
        replace HY:=hd_ (HY.out.below hb)
        clear hb Wc B7
        generalize wc=w8 at *
        go_wp2_with fail
        obtain ⟨k0,k1,k2,-⟩:=obj_cells3 T1.out
        obtain ⟨m0,m1,m2,-⟩:=obj_cells3 T2.out
        have s2:=BW.cell k2
        have r2:=BW.cell m2
        have hnon:Nonempty (BW w8):=⟨⟨w8,Below.refl _ _⟩⟩
        have I:Hid (Below w8.heap.size w8 w8.drew):=(Below.refl _ _).drew
        go_wp2_with fail
        clear k0 k1 k2 m0 m1 m2
        refine RY.wp_region_readers 15 [(1,0),(1,1),(1,2),(1,4),(1,5),(1,6),(0,3),(0,7),(0,8),(2,9),(2,10),(2,11),(2,12),(0,13),(0,14),(0,15)] (fun w'=>∃ p:BW w8,w'=p.w) (by kernel_rfl) (by kernel_rfl) ?_ ?_
        ·exact ⟨⟨_,I.out⟩,rfl⟩
        iterate 6 (refine RY.walkR_read ?_; simp only [dsc_,dz_,tsc_,tz_]; go_big_quiet_step (fail); refine wpQuiet_nil ?_)
        clear hnon s2 r2
        refine RY.walkR_move ?_
        simp only [dsc_,dz_,tsc_,tz_]
        go_wp2_with fail
        refine cm_ (HMg.out xh _ (by omega) (B8.out.drew)) ?_
        rintro e_ wa ⟨rfl,hb⟩
        have Wa:Hid (Below w8.heap.size w8 wa):=(Below.refl w8.heap.size w8).drew.trans hb
        clear hb I
        go_wp2_with fail
        refine ⟨⟨⟨_,Wa.out⟩,rfl⟩,?_⟩
        refine RY.walkR_move ?_
        simp only [dsc_,dz_,tsc_,tz_]
        go_wp2_with fail
        refine cm_ (HMd.out yl _ (by omega) (B8.out.trans (Wa.out.mono B8.out.size))) ?_
        rintro e_ wb ⟨rfl,hb⟩
        have Wb:=hd_ (Wa.out.trans (hb.mono Wa.out.size))
        clear hb Wa
        go_wp2_with fail
        refine ⟨⟨⟨_,Wb.out⟩,rfl⟩,?_⟩
        refine RY.walkR_move ?_
        simp only [dsc_,dz_,tsc_,tz_]
        go_wp2_with fail
        refine cm_ (HDv.out xh yl _ (by omega) (by omega) (by omega) (B8.out.trans (Wb.out.mono B8.out.size))) ?_
        rintro e_ wc ⟨rfl,hb⟩
        have Wc:=hd_ (Wb.out.trans (hb.mono Wb.out.size))
        clear hb Wb
        go_wp2_with fail
        refine ⟨⟨⟨_,Wc.out⟩,rfl⟩,?_⟩
        refine RY.walkR_any ?_
        simp only [dsc_,dz_,tsc_,tz_]
        go_big_quiet_step (fail)
        refine wpQuiet_nil ?_
        refine RY.walkR_any ?_
        simp only [dsc_,dz_,tsc_,tz_]
        go_big_quiet_step (fail)
        refine wpQuiet_nil ?_
        refine RY.walkR_any ?_
        simp only [dsc_,dz_,tsc_,tz_]
        go_big_quiet_step (fail)
        refine wpQuiet_nil ?_
        refine RY.walkR_any ?_
        simp only [dsc_,dz_,tsc_,tz_]
        go_big_quiet_step (fail)
        refine wpQuiet_nil ?_
        refine RY.walkR_move ?_
        simp only [dsc_,dz_,tsc_,tz_]
        go_wp2_with fail
        refine ⟨⟨⟨_,Wc.out⟩,rfl⟩,?_⟩
        refine RY.walkR_move ?_
        simp only [dsc_,dz_,tsc_,tz_]
        go_wp2_with fail
        refine ⟨⟨⟨_,Wc.out⟩,rfl⟩,?_⟩
        refine RY.walkR_move ?_
        simp only [dsc_,dz_,tsc_,tz_]
        go_wp2_with fail
        simp only [RY.walkR]
        have hb:=Wc.out
        have B9:=hd_ (B8.out.trans (hb.mono B8.out.size))
        replace T1:=hd_ (heap_kept T1.out hb nr_)
        replace T2:=hd_ (heap_kept T2.out hb nr_)
        replace HX:=hd_ (HX.out.below hb)
        replace HY:=hd_ (HY.out.below hb)
        clear hb Wc B8
        generalize wc=w9 at *
        have hfl:fl=if xl * (dy:Int) / (yl * (dx:Int))=xh * (dy:Int) / (yl * (dx:Int)) then some (xl * (dy:Int) / (yl * (dx:Int))) else none:=by
         rw [Hf.out]
         unfold flS
         rw [if_neg (show ¬ yh≤0 by omega)]
         unfold flE LN.quoL LN.quoH
         rw [if_neg (show ¬ yl≤0 by omega),if_pos (show xl < 0 by omega),if_neg (show ¬ xh < 0 by omega)]
        have hsame:=same_itx (xl * (dy:Int) / (yl * (dx:Int))) (xh * (dy:Int) / (yl * (dx:Int)))
        clear Hf
        generalize xl * (dy:Int) / (yl * (dx:Int))=q1 at *
        generalize xh * (dy:Int) / (yl * (dx:Int))=q2 at *
        by_cases hqq:q1=q2
        ·rw [if_pos hqq] at hfl
         rw [decide_eq_true hqq] at hsame
         have Hans:=hd_ (Hspec.out _ hfl)
         clear hfl hqq Hspec Hnx
         go_wp2_with fail
         go_ret
         exact ⟨⟨q1,rfl,Hans.out⟩,B9.out⟩
        ·rw [if_neg hqq] at hfl
         rw [decide_eq_false hqq] at hsame
         obtain ⟨hn2,hp2⟩:=Hnx.out hfl
         have Hp2:=hd_ hp2
         clear hfl hqq Hspec Hnx hp2
         go_wp2_with fail
         go_roundw
         case rel=>exact ⟨n * 2,Hp2,hn2,rfl,B9,T1,T2,HX,HY⟩
         case measure=>simp [intOf]; omega
      ·have hsg:¬ xl.sign < 0:=by have:=sign_cases xl; omega
       generalize xl.sign=sg at *
       go_wp2_with fail
       clear hsg
       refine cm_ (HS.out xh _) ?_
       rintro e_ w7 ⟨rfl,hb⟩
       have B7:=hd_ (B6.out.trans (hb.mono B6.out.size))
       replace T1:=hd_ (heap_kept T1.out hb nr_)
       replace T2:=hd_ (heap_kept T2.out hb nr_)
       replace HX:=hd_ (HX.out.below hb)
       replace HY:=hd_ (HY.out.below hb)
       clear hb B6
       by_cases hx2:xh < 0
       ·have hsg:xh.sign < 0:=by have:=sign_cases xh; omega
        generalize xh.sign=sg at *
        obtain ⟨k0,k1,k2,-⟩:=obj_cells3 T1.out
        obtain ⟨m0,m1,m2,-⟩:=obj_cells3 T2.out
        have s2:=BW.cell k2
        have r2:=BW.cell m2
        have hnon:Nonempty (BW w7):=⟨⟨w7,Below.refl _ _⟩⟩
        have I:Hid (Below w7.heap.size w7 w7.drew):=(Below.refl _ _).drew
        go_wp2_with fail
        clear k0 k1 k2 m0 m1 m2
        refine RY.wp_region_readers 15 [(1,0),(1,1),(1,2),(1,4),(1,5),(1,6),(0,3),(0,7),(0,8),(2,9),(2,10),(2,11),(2,12),(0,13),(0,14),(0,15)] (fun w'=>∃ p:BW w7,w'=p.w) (by kernel_rfl) (by kernel_rfl) ?_ ?_
        ·exact ⟨⟨_,I.out⟩,rfl⟩
        iterate 6 (refine RY.walkR_read ?_; simp only [dsc_,dz_,tsc_,tz_]; go_big_quiet_step (fail); refine wpQuiet_nil ?_)
        clear hnon s2 r2
        refine RY.walkR_move ?_
        simp only [dsc_,dz_,tsc_,tz_]
        go_wp2_with fail
        refine cm_ (HMg.out xl _ (by omega) (B7.out.drew)) ?_
        rintro e_ wa ⟨rfl,hb⟩
        have Wa:Hid (Below w7.heap.size w7 wa):=(Below.refl w7.heap.size w7).drew.trans hb
        clear hb I
        go_wp2_with fail
        refine ⟨⟨⟨_,Wa.out⟩,rfl⟩,?_⟩
        refine RY.walkR_move ?_
        simp only [dsc_,dz_,tsc_,tz_]
        go_wp2_with fail
        refine cm_ (HMd.out yh _ (by omega) (B7.out.trans (Wa.out.mono B7.out.size))) ?_
        rintro e_ wb ⟨rfl,hb⟩
        have Wb:=hd_ (Wa.out.trans (hb.mono Wa.out.size))
        clear hb Wa
        go_wp2_with fail
        refine ⟨⟨⟨_,Wb.out⟩,rfl⟩,?_⟩
        refine RY.walkR_move ?_
        simp only [dsc_,dz_,tsc_,tz_]
        go_wp2_with fail
        refine cm_ (HDv.out xl yh _ (by omega) (by omega) (by omega) (B7.out.trans (Wb.out.mono B7.out.size))) ?_
        rintro e_ wc ⟨rfl,hb⟩
        have Wc:=hd_ (Wb.out.trans (hb.mono Wb.out.size))
        clear hb Wb
        go_wp2_with fail
        refine ⟨⟨⟨_,Wc.out⟩,rfl⟩,?_⟩
        refine RY.walkR_any ?_
        simp only [dsc_,dz_,tsc_,tz_]
        go_big_quiet_step (fail)
        refine wpQuiet_nil ?_
        refine RY.walkR_any ?_
        simp only [dsc_,dz_,tsc_,tz_]
        go_big_quiet_step (fail)
        refine wpQuiet_nil ?_
        refine RY.walkR_any ?_
        simp only [dsc_,dz_,tsc_,tz_]
        go_big_quiet_step (fail)
        refine wpQuiet_nil ?_
        refine RY.walkR_any ?_
        simp only [dsc_,dz_,tsc_,tz_]
        go_big_quiet_step (fail)
        refine wpQuiet_nil ?_
        refine RY.walkR_move ?_
        simp only [dsc_,dz_,tsc_,tz_]
        go_wp2_with fail
        refine ⟨⟨⟨_,Wc.out⟩,rfl⟩,?_⟩
        refine RY.walkR_move ?_
        simp only [dsc_,dz_,tsc_,tz_]
        go_wp2_with fail
        refine ⟨⟨⟨_,Wc.out⟩,rfl⟩,?_⟩
        refine RY.walkR_move ?_
        simp only [dsc_,dz_,tsc_,tz_]
        go_wp2_with fail
        simp only [RY.walkR]
        have hb:=Wc.out
        have B8:=hd_ (B7.out.trans (hb.mono B7.out.size))
        replace T1:=hd_ (heap_kept T1.out hb nr_)
        replace T2:=hd_ (heap_kept T2.out hb nr_)
        replace HX:=hd_ (HX.out.below hb)
        replace HY:=hd_ (HY.out.below hb)
        clear hb Wc B7
        generalize wc=w8 at *
        go_wp2_with fail
        obtain ⟨k0,k1,k2,-⟩:=obj_cells3 T1.out
        obtain ⟨m0,m1,m2,-⟩:=obj_cells3 T2.out
        have s2:=BW.cell k2
        have r2:=BW.cell m2
        have hnon:Nonempty (BW w8):=⟨⟨w8,Below.refl _ _⟩⟩
        have I:Hid (Below w8.heap.size w8 w8.drew):=(Below.refl _ _).drew
        go_wp2_with fail
        clear k0 k1 k2 m0 m1 m2
        refine RY.wp_region_readers 15 [(1,0),(1,1),(1,2),(1,4),(1,5),(1,6),(0,3),(0,7),(0,8),(2,9),(2,10),(2,11),(2,12),(0,13),(0,14),(0,15)] (fun w'=>∃ p:BW w8,w'=p.w) (by kernel_rfl) (by kernel_rfl) ?_ ?_
        ·exact ⟨⟨_,I.out⟩,rfl⟩
        iterate 6 (refine RY.walkR_read ?_; simp only [dsc_,dz_,tsc_,tz_]; go_big_quiet_step (fail); refine wpQuiet_nil ?_)
        clear hnon s2 r2
        refine RY.walkR_move ?_
        simp only [dsc_,dz_,tsc_,tz_]
        go_wp2_with fail
        refine cm_ (HMg.out xh _ (by omega) (B8.out.drew)) ?_
        rintro e_ wa ⟨rfl,hb⟩
        have Wa:Hid (Below w8.heap.size w8 wa):=(Below.refl w8.heap.size w8).drew.trans hb
        clear hb I
        go_wp2_with fail
        refine ⟨⟨⟨_,Wa.out⟩,rfl⟩,?_⟩
        refine RY.walkR_move ?_
        simp only [dsc_,dz_,tsc_,tz_]
        go_wp2_with fail
        refine cm_ (HMd.out yh _ (by omega) (B8.out.trans (Wa.out.mono B8.out.size))) ?_
        rintro e_ wb ⟨rfl,hb⟩
        have Wb:=hd_ (Wa.out.trans (hb.mono Wa.out.size))
        clear hb Wa
        go_wp2_with fail
        refine ⟨⟨⟨_,Wb.out⟩,rfl⟩,?_⟩
        refine RY.walkR_move ?_
        simp only [dsc_,dz_,tsc_,tz_]
        go_wp2_with fail
        refine cm_ (HDv.out xh yh _ (by omega) (by omega) (by omega) (B8.out.trans (Wb.out.mono B8.out.size))) ?_
        rintro e_ wc ⟨rfl,hb⟩
        have Wc:=hd_ (Wb.out.trans (hb.mono Wb.out.size))
        clear hb Wb
        go_wp2_with fail
        refine ⟨⟨⟨_,Wc.out⟩,rfl⟩,?_⟩
        refine RY.walkR_any ?_
        simp only [dsc_,dz_,tsc_,tz_]
        go_big_quiet_step (fail)
        refine wpQuiet_nil ?_
        refine RY.walkR_any ?_
        simp only [dsc_,dz_,tsc_,tz_]
        go_big_quiet_step (fail)
        refine wpQuiet_nil ?_
        refine RY.walkR_any ?_
        simp only [dsc_,dz_,tsc_,tz_]
        go_big_quiet_step (fail)
        refine wpQuiet_nil ?_
        refine RY.walkR_any ?_
        simp only [dsc_,dz_,tsc_,tz_]
        go_big_quiet_step (fail)
        refine wpQuiet_nil ?_
        refine RY.walkR_move ?_
        simp only [dsc_,dz_,tsc_,tz_]
        go_wp2_with fail
        refine ⟨⟨⟨_,Wc.out⟩,rfl⟩,?_⟩
        refine RY.walkR_move ?_
        simp only [dsc_,dz_,tsc_,tz_]
        go_wp2_with fail
        refine ⟨⟨⟨_,Wc.out⟩,rfl⟩,?_⟩
        refine RY.walkR_move ?_
        simp only [dsc_,dz_,tsc_,tz_]
        go_wp2_with fail
        simp only [RY.walkR]
        have hb:=Wc.out
        have B9:=hd_ (B8.out.trans (hb.mono B8.out.size))
        replace T1:=hd_ (heap_kept T1.out hb nr_)
        replace T2:=hd_ (heap_kept T2.out hb nr_)
        replace HX:=hd_ (HX.out.below hb)
        replace HY:=hd_ (HY.out.below hb)
        clear hb Wc B8
        generalize wc=w9 at *
        have hfl:fl=if xl * (dy:Int) / (yh * (dx:Int))=xh * (dy:Int) / (yh * (dx:Int)) then some (xl * (dy:Int) / (yh * (dx:Int))) else none:=by
         rw [Hf.out]
         unfold flS
         rw [if_neg (show ¬ yh≤0 by omega)]
         unfold flE LN.quoL LN.quoH
         rw [if_neg (show ¬ yl≤0 by omega),if_neg (show ¬ xl < 0 by omega),if_pos (show xh < 0 by omega)]
        have hsame:=same_itx (xl * (dy:Int) / (yh * (dx:Int))) (xh * (dy:Int) / (yh * (dx:Int)))
        clear Hf
        generalize xl * (dy:Int) / (yh * (dx:Int))=q1 at *
        generalize xh * (dy:Int) / (yh * (dx:Int))=q2 at *
        by_cases hqq:q1=q2
        ·rw [if_pos hqq] at hfl
         rw [decide_eq_true hqq] at hsame
         have Hans:=hd_ (Hspec.out _ hfl)
         clear hfl hqq Hspec Hnx
         go_wp2_with fail
         go_ret
         exact ⟨⟨q1,rfl,Hans.out⟩,B9.out⟩
        ·rw [if_neg hqq] at hfl
         rw [decide_eq_false hqq] at hsame
         obtain ⟨hn2,hp2⟩:=Hnx.out hfl
         have Hp2:=hd_ hp2
         clear hfl hqq Hspec Hnx hp2
         go_wp2_with fail
         go_roundw
         case rel=>exact ⟨n * 2,Hp2,hn2,rfl,B9,T1,T2,HX,HY⟩
         case measure=>simp [intOf]; omega
       ·have hsg:¬ xh.sign < 0:=by have:=sign_cases xh; omega
        generalize xh.sign=sg at *
        obtain ⟨k0,k1,k2,-⟩:=obj_cells3 T1.out
        obtain ⟨m0,m1,m2,-⟩:=obj_cells3 T2.out
        have s2:=BW.cell k2
        have r2:=BW.cell m2
        have hnon:Nonempty (BW w7):=⟨⟨w7,Below.refl _ _⟩⟩
        have I:Hid (Below w7.heap.size w7 w7.drew):=(Below.refl _ _).drew
        go_wp2_with fail
        clear k0 k1 k2 m0 m1 m2
        refine RY.wp_region_readers 15 [(1,0),(1,1),(1,2),(1,4),(1,5),(1,6),(0,3),(0,7),(0,8),(2,9),(2,10),(2,11),(2,12),(0,13),(0,14),(0,15)] (fun w'=>∃ p:BW w7,w'=p.w) (by kernel_rfl) (by kernel_rfl) ?_ ?_
        ·exact ⟨⟨_,I.out⟩,rfl⟩
        iterate 6 (refine RY.walkR_read ?_; simp only [dsc_,dz_,tsc_,tz_]; go_big_quiet_step (fail); refine wpQuiet_nil ?_)
        clear hnon s2 r2
        refine RY.walkR_move ?_
        simp only [dsc_,dz_,tsc_,tz_]
        go_wp2_with fail
        refine cm_ (HMg.out xl _ (by omega) (B7.out.drew)) ?_
        rintro e_ wa ⟨rfl,hb⟩
        have Wa:Hid (Below w7.heap.size w7 wa):=(Below.refl w7.heap.size w7).drew.trans hb
        clear hb I
        go_wp2_with fail
        refine ⟨⟨⟨_,Wa.out⟩,rfl⟩,?_⟩
        refine RY.walkR_move ?_
        simp only [dsc_,dz_,tsc_,tz_]
        go_wp2_with fail
        refine cm_ (HMd.out yh _ (by omega) (B7.out.trans (Wa.out.mono B7.out.size))) ?_
        rintro e_ wb ⟨rfl,hb⟩
        have Wb:=hd_ (Wa.out.trans (hb.mono Wa.out.size))
        clear hb Wa
        go_wp2_with fail
        refine ⟨⟨⟨_,Wb.out⟩,rfl⟩,?_⟩
        refine RY.walkR_move ?_
        simp only [dsc_,dz_,tsc_,tz_]
        go_wp2_with fail
        refine cm_ (HDv.out xl yh _ (by omega) (by omega) (by omega) (B7.out.trans (Wb.out.mono B7.out.size))) ?_
        rintro e_ wc ⟨rfl,hb⟩
        have Wc:=hd_ (Wb.out.trans (hb.mono Wb.out.size))
        clear hb Wb
        go_wp2_with fail
        refine ⟨⟨⟨_,Wc.out⟩,rfl⟩,?_⟩
        refine RY.walkR_any ?_
        simp only [dsc_,dz_,tsc_,tz_]
        go_big_quiet_step (fail)
        refine wpQuiet_nil ?_
        refine RY.walkR_any ?_
        simp only [dsc_,dz_,tsc_,tz_]
        go_big_quiet_step (fail)
        refine wpQuiet_nil ?_
        refine RY.walkR_any ?_
        simp only [dsc_,dz_,tsc_,tz_]
        go_big_quiet_step (fail)
        refine wpQuiet_nil ?_
        refine RY.walkR_any ?_
        simp only [dsc_,dz_,tsc_,tz_]
        go_big_quiet_step (fail)
        refine wpQuiet_nil ?_
        refine RY.walkR_move ?_
        simp only [dsc_,dz_,tsc_,tz_]
        go_wp2_with fail
        refine ⟨⟨⟨_,Wc.out⟩,rfl⟩,?_⟩
        refine RY.walkR_move ?_
        simp only [dsc_,dz_,tsc_,tz_]
        go_wp2_with fail
        refine ⟨⟨⟨_,Wc.out⟩,rfl⟩,?_⟩
        refine RY.walkR_move ?_
        simp only [dsc_,dz_,tsc_,tz_]
        go_wp2_with fail
        simp only [RY.walkR]
        have hb:=Wc.out
        have B8:=hd_ (B7.out.trans (hb.mono B7.out.size))
        replace T1:=hd_ (heap_kept T1.out hb nr_)
        replace T2:=hd_ (heap_kept T2.out hb nr_)
        replace HX:=hd_ (HX.out.below hb)
        replace HY:=hd_ (HY.out.below hb)
        clear hb Wc B7
        generalize wc=w8 at *
        go_wp2_with fail
        obtain ⟨k0,k1,k2,-⟩:=obj_cells3 T1.out
        obtain ⟨m0,m1,m2,-⟩:=obj_cells3 T2.out
        have s2:=BW.cell k2
        have r2:=BW.cell m2
        have hnon:Nonempty (BW w8):=⟨⟨w8,Below.refl _ _⟩⟩
        have I:Hid (Below w8.heap.size w8 w8.drew):=(Below.refl _ _).drew
        go_wp2_with fail
        clear k0 k1 k2 m0 m1 m2
        refine RY.wp_region_readers 15 [(1,0),(1,1),(1,2),(1,4),(1,5),(1,6),(0,3),(0,7),(0,8),(2,9),(2,10),(2,11),(2,12),(0,13),(0,14),(0,15)] (fun w'=>∃ p:BW w8,w'=p.w) (by kernel_rfl) (by kernel_rfl) ?_ ?_
        ·exact ⟨⟨_,I.out⟩,rfl⟩
        iterate 6 (refine RY.walkR_read ?_; simp only [dsc_,dz_,tsc_,tz_]; go_big_quiet_step (fail); refine wpQuiet_nil ?_)
        clear hnon s2 r2
        refine RY.walkR_move ?_
        simp only [dsc_,dz_,tsc_,tz_]
        go_wp2_with fail
        refine cm_ (HMg.out xh _ (by omega) (B8.out.drew)) ?_
        rintro e_ wa ⟨rfl,hb⟩
        have Wa:Hid (Below w8.heap.size w8 wa):=(Below.refl w8.heap.size w8).drew.trans hb
        clear hb I
        go_wp2_with fail
        refine ⟨⟨⟨_,Wa.out⟩,rfl⟩,?_⟩
        refine RY.walkR_move ?_
        simp only [dsc_,dz_,tsc_,tz_]
        go_wp2_with fail
        refine cm_ (HMd.out yl _ (by omega) (B8.out.trans (Wa.out.mono B8.out.size))) ?_
        rintro e_ wb ⟨rfl,hb⟩
        have Wb:=hd_ (Wa.out.trans (hb.mono Wa.out.size))
        clear hb Wa
        go_wp2_with fail
        refine ⟨⟨⟨_,Wb.out⟩,rfl⟩,?_⟩
        refine RY.walkR_move ?_
        simp only [dsc_,dz_,tsc_,tz_]
        go_wp2_with fail
        refine cm_ (HDv.out xh yl _ (by omega) (by omega) (by omega) (B8.out.trans (Wb.out.mono B8.out.size))) ?_
        rintro e_ wc ⟨rfl,hb⟩
        have Wc:=hd_ (Wb.out.trans (hb.mono Wb.out.size))
        clear hb Wb
        go_wp2_with fail
        refine ⟨⟨⟨_,Wc.out⟩,rfl⟩,?_⟩
        refine RY.walkR_any ?_
        simp only [dsc_,dz_,tsc_,tz_]
        go_big_quiet_step (fail)
        refine wpQuiet_nil ?_
        refine RY.walkR_any ?_
        simp only [dsc_,dz_,tsc_,tz_]
        go_big_quiet_step (fail)
        refine wpQuiet_nil ?_
        refine RY.walkR_any ?_
        simp only [dsc_,dz_,tsc_,tz_]
        go_big_quiet_step (fail)
        refine wpQuiet_nil ?_
        refine RY.walkR_any ?_
        simp only [dsc_,dz_,tsc_,tz_]
        go_big_quiet_step (fail)
        refine wpQuiet_nil ?_
        refine RY.walkR_move ?_
        simp only [dsc_,dz_,tsc_,tz_]
        go_wp2_with fail
        refine ⟨⟨⟨_,Wc.out⟩,rfl⟩,?_⟩
        refine RY.walkR_move ?_
        simp only [dsc_,dz_,tsc_,tz_]
        go_wp2_with fail
        refine ⟨⟨⟨_,Wc.out⟩,rfl⟩,?_⟩
        refine RY.walkR_move ?_
        simp only [dsc_,dz_,tsc_,tz_]
        go_wp2_with fail
        simp only [RY.walkR]
        have hb:=Wc.out
        have B9:=hd_ (B8.out.trans (hb.mono B8.out.size))
        replace T1:=hd_ (heap_kept T1.out hb nr_)
        replace T2:=hd_ (heap_kept T2.out hb nr_)
        replace HX:=hd_ (HX.out.below hb)
        replace HY:=hd_ (HY.out.below hb)
        clear hb Wc B8
        generalize wc=w9 at *
        have hfl:fl=if xl * (dy:Int) / (yh * (dx:Int))=xh * (dy:Int) / (yl * (dx:Int)) then some (xl * (dy:Int) / (yh * (dx:Int))) else none:=by
         rw [Hf.out]
         unfold flS
         rw [if_neg (show ¬ yh≤0 by omega)]
         unfold flE LN.quoL LN.quoH
         rw [if_neg (show ¬ yl≤0 by omega),if_neg (show ¬ xl < 0 by omega),if_neg (show ¬ xh < 0 by omega)]
        have hsame:=same_itx (xl * (dy:Int) / (yh * (dx:Int))) (xh * (dy:Int) / (yl * (dx:Int)))
        clear Hf
        generalize xl * (dy:Int) / (yh * (dx:Int))=q1 at *
        generalize xh * (dy:Int) / (yl * (dx:Int))=q2 at *
        by_cases hqq:q1=q2
        ·rw [if_pos hqq] at hfl
         rw [decide_eq_true hqq] at hsame
         have Hans:=hd_ (Hspec.out _ hfl)
         clear hfl hqq Hspec Hnx
         go_wp2_with fail
         go_ret
         exact ⟨⟨q1,rfl,Hans.out⟩,B9.out⟩
        ·rw [if_neg hqq] at hfl
         rw [decide_eq_false hqq] at hsame
         obtain ⟨hn2,hp2⟩:=Hnx.out hfl
         have Hp2:=hd_ hp2
         clear hfl hqq Hspec Hnx hp2
         go_wp2_with fail
         go_roundw
         case rel=>exact ⟨n * 2,Hp2,hn2,rfl,B9,T1,T2,HX,HY⟩
         case measure=>simp [intOf]; omega
end Go.Proofs.YtkoicfghplmghaaGreatDoor

namespace Go.Proofs.YtkoicfghplmghaaGreatDoor
open Go.RowKit
theorem eLo_neg (f:Int→Nat) (l:List (Int×Int)):LN.eLo f (LN.negT l) = - LN.eHi f l∧LN.eHi f (LN.negT l) = - LN.eLo f l:=by
 rw [LN.eLo_eq,LN.eHi_eq,LN.eLo_eq,LN.eHi_eq,LN.negT_negT]
 omega
theorem sumT_neg (f:Int→Nat) (l:List (Int×Int)):LN.sumT f (LN.negT l) = - LN.sumT f l:=by
 rw [LN.sumT_eq,LN.sumT_eq,LN.negT_negT]
 omega
theorem ends_near (f:Int→Nat) (K:Nat) (l:List (Int×Int)) (h:∀ x∈l,x.2.natAbs≤K) :
  LN.eLo f l≤LN.sumT f l∧LN.sumT f l≤LN.eHi f l∧LN.eHi f l≤LN.sumT f l + (l.length * K:Nat)∧LN.sumT f l≤LN.eLo f l + (l.length * K:Nat):=by
 have h1:=LN.hiS_le f K l h
 have h2:=LN.hiS_le f K (LN.negT l) (by
  intro x hx
  obtain ⟨y,hy,rfl⟩:=List.mem_map.1 hx
  have:=h y hy
  show (-y.2).natAbs≤K
  omega)
 have e:(LN.negT l).length=l.length:=by simp [LN.negT]
 rw [e] at h2
 have h3:∀ l:List (Int×Int),LN.loS f l≤LN.hiS f l:=by
  intro l
  induction l with
  | nil=>exact Nat.le_refl _
  | cons x l ih =>
   rw [LN.loS,LN.hiS]
   refine Nat.add_le_add (Nat.mul_le_mul_left _ ?_) ih
   unfold LN.hiL; split <;> omega
 have h4:=h3 l
 have h5:=h3 (LN.negT l)
 rw [LN.eLo_eq,LN.eHi_eq,LN.sumT_eq]
 omega
theorem dotI_lin (a b:Int):∀ (u:List Int) (pr:List Int) (g h:Int→Int),LN.dotI u (pr.map fun p=>a * g p - b * h p)=a * LN.dotI u (pr.map g) - b * LN.dotI u (pr.map h)
 | [],_,_,_=>by simp [LN.dotI]
 | _ :: _,[],_,_=>by simp [LN.dotI]
 | c :: u,p :: pr,g,h=>by
  have ih:=dotI_lin a b u pr g h
  simp only [List.map_cons,LN.dotI]
  rw [ih]
  grind
theorem mul_abs_le {a b x y:Int} {W:Nat} (h1:x≤y + W) (h2:y≤x + W) (_:a=b):(a * x - b * y).natAbs≤a.natAbs * W:=by
 subst a
 rw [← Int.mul_sub,Int.natAbs_mul]
 exact Nat.mul_le_mul_left _ (by omega)
structure FNum (KA SA Kx Ky d g S R Wx Wy:Nat) (X:Nat):Prop where
 s:Wy < S
 r:X * g < R * (S - Wy)
 k:g * Kx + R * d * Ky≤KA
 t:g * Wx + R * d * Wy < SA
theorem quo_near {xl low Tx Ty:Int} {d g Wx Wy:Nat} (j:Int) (h1:Tx≤xl + Wx) (h2:xl≤Tx + Wx) (h3:Ty≤low + Wy) (h4:low≤Ty + Wy) (s:Bool) :
  (if s then j * (low * d)≤xl * g else xl * g < j * (low * d))→(if s then j * d * Ty≤g * Tx + (g * Wx + j.natAbs * d * Wy:Nat) else g * Tx - (g * Wx + j.natAbs * d * Wy:Nat)≤j * d * Ty):=by
 intro h
 have a1:=mul_abs_le (a:=(g:Int)) (b:=g) h1 h2 rfl
 have a2:=mul_abs_le (a:=j * (d:Int)) (b:=j * d) h3 h4 rfl
 rw [Int.natAbs_natCast] at a1
 rw [Int.natAbs_mul,Int.natAbs_natCast] at a2
 have e1:j * (low * (d:Int))=j * (d:Int) * low:=by grind
 have e2:xl * (g:Int)=(g:Int) * xl:=Int.mul_comm _ _
 rw [e1,e2] at h
 cases s with
 | true=>simp only [if_true] at h ⊢; omega
 | false =>
  rw [if_neg Bool.false_ne_true] at h ⊢
  omega
theorem flE_none {tx ty:List (Int×Int)} {f:Int→Nat} {KA SA Kx Ky d g S R X:Nat} (hd:0 < d) (hkx:∀ x∈tx,x.2.natAbs≤Kx) (hky:∀ x∈ty,x.2.natAbs≤Ky)
  (N:FNum KA SA Kx Ky d g S R (tx.length * Kx) (ty.length * Ky) X) (hS:(S:Int)≤LN.sumT f ty) (hX:(LN.eLo f tx).natAbs≤X∧(LN.eHi f tx).natAbs≤X)
  (hnone:flE (LN.eLo f tx) (LN.eHi f tx) (LN.eLo f ty) (LN.eHi f ty) g d=none):∃ j:Int,j.natAbs≤R∧(g * LN.sumT f tx - j * d * LN.sumT f ty).natAbs < SA:=by
 obtain ⟨x1,x2,x3,x4⟩:=ends_near f Kx tx hkx
 obtain ⟨y1,y2,y3,y4⟩:=ends_near f Ky ty hky
 have hs:=N.s
 have ht:=N.t
 generalize tx.length * Kx=Wx at *
 generalize ty.length * Ky=Wy at *
 generalize LN.eLo f tx=xl at *
 generalize LN.eHi f tx=xh at *
 generalize LN.eLo f ty=yl at *
 generalize LN.eHi f ty=yh at *
 generalize LN.sumT f tx=Tx at *
 generalize LN.sumT f ty=Ty at *
 have hyl:0 < yl:=by omega
 unfold flE at hnone
 rw [if_neg (by omega)] at hnone
 -- a quotient is not too great
 have hR:∀ (x low:Int),x.natAbs≤X→((S - Wy:Nat):Int)≤low→(x * g / (low * d)).natAbs≤R:=by
  intro x low hx hl
  have hr:=N.r
  have hp:0 < low * (d:Int):=Int.mul_pos (by omega) (by omega)
  have h1:=Int.ediv_mul_le (x * (g:Int)) (show low * (d:Int)≠0 by omega)
  have h2:=Int.lt_ediv_add_one_mul_self (x * (g:Int)) hp
  have h3:(x * (g:Int)).natAbs≤X * g:=by rw [Int.natAbs_mul,Int.natAbs_natCast]; exact Nat.mul_le_mul_right _ hx
  have h4:((S - Wy:Nat):Int)≤low * (d:Int):=by
   have:low * 1≤low * (d:Int):=Int.mul_le_mul_of_nonneg_left (by omega) (by omega)
   omega
  generalize x * (g:Int) / (low * (d:Int))=q at *
  generalize low * (d:Int)=m at *
  generalize x * (g:Int)=v at *
  generalize X * g=V at *
  have hr2:(V:Int) < (R:Int) * ((S - Wy:Nat):Int):=by rw [← Int.natCast_mul]; exact Int.ofNat_lt.2 hr
  have hr3:(R:Int) * ((S - Wy:Nat):Int)≤(R:Int) * m:=Int.mul_le_mul_of_nonneg_left h4 (by omega)
  refine Nat.le_of_not_lt fun hc=>?_
  rcases Int.lt_or_le q 0 with hq | hq
  ·have h5:(q + 1) * m≤(-(R:Int)) * m:=Int.mul_le_mul_of_nonneg_right (by omega) (by omega)
   rw [Int.neg_mul] at h5
   omega
  ·have h5:(R:Int) * m≤q * m:=Int.mul_le_mul_of_nonneg_right (by omega) (by omega)
   omega
 have fin:∀ j:Int,j.natAbs≤R→j * d * Ty≤g * Tx + (g * Wx + j.natAbs * d * Wy:Nat)→g * Tx - (g * Wx + j.natAbs * d * Wy:Nat)≤j * d * Ty→(g * Tx - j * d * Ty).natAbs < SA:=by
  intro j hj h1 h2
  have h3:j.natAbs * d * Wy≤R * d * Wy:=Nat.mul_le_mul_right _ (Nat.mul_le_mul_right _ hj)
  omega
 -- what low and high are
 obtain ⟨low,hlow,hl1,hl2,hl3⟩:∃ low,(if xl < 0 then yl else yh)=low∧Ty≤low + Wy∧low≤Ty + Wy∧((S - Wy:Nat):Int)≤low:=by
  by_cases h:xl < 0
  ·exact ⟨yl,if_pos h,by omega,by omega,by omega⟩
  ·exact ⟨yh,if_neg h,by omega,by omega,by omega⟩
 obtain ⟨high,hhigh,hh1,hh2,hh3⟩:∃ high,(if xh < 0 then yh else yl)=high∧Ty≤high + Wy∧high≤Ty + Wy∧((S - Wy:Nat):Int)≤high:=by
  by_cases h:xh < 0
  ·exact ⟨yh,if_pos h,by omega,by omega,by omega⟩
  ·exact ⟨yl,if_neg h,by omega,by omega,by omega⟩
 have hq:=hR xl low hX.1 hl3
 have hr:=hR xh high hX.2 hh3
 have p1:0 < low * (d:Int):=Int.mul_pos (by omega) (by omega)
 have p2:0 < high * (d:Int):=Int.mul_pos (by omega) (by omega)
 have q1:=Int.ediv_mul_le (xl * (g:Int)) (show low * (d:Int)≠0 by omega)
 have q2:=Int.lt_ediv_add_one_mul_self (xl * (g:Int)) p1
 have r1:=Int.ediv_mul_le (xh * (g:Int)) (show high * (d:Int)≠0 by omega)
 have r2:=Int.lt_ediv_add_one_mul_self (xh * (g:Int)) p2
 unfold LN.quoL LN.quoH at hnone
 rw [hlow,hhigh] at hnone
 generalize xl * (g:Int) / (low * (d:Int))=q at *
 generalize xh * (g:Int) / (high * (d:Int))=r at *
 have hne:q≠r:=fun e=>by rw [if_pos e] at hnone; cases hnone
 rcases Int.lt_or_gt_of_ne hne with h | h
 ·refine ⟨r,hr,fin r hr ?_ ?_⟩
  ·have:=quo_near (xl:=xh) (low:=high) (Tx:=Tx) (Ty:=Ty) (d:=d) (g:=g) (Wx:=Wx) (Wy:=Wy) r (by omega) (by omega) hh1 hh2 true (by simpa using r1)
   simpa using this
  ·have h5:(q + 1) * (low * (d:Int))≤r * (low * (d:Int)):=Int.mul_le_mul_of_nonneg_right (by omega) (by omega)
   have:=quo_near (xl:=xl) (low:=low) (Tx:=Tx) (Ty:=Ty) (d:=d) (g:=g) (Wx:=Wx) (Wy:=Wy) r (by omega) (by omega) hl1 hl2 false (by rw [if_neg Bool.false_ne_true]; omega)
   rw [if_neg Bool.false_ne_true] at this
   exact this
 ·refine ⟨q,hq,fin q hq ?_ ?_⟩
  ·have:=quo_near (xl:=xl) (low:=low) (Tx:=Tx) (Ty:=Ty) (d:=d) (g:=g) (Wx:=Wx) (Wy:=Wy) q (by omega) (by omega) hl1 hl2 true (by simpa using q1)
   simpa using this
  ·have h5:(r + 1) * (high * (d:Int))≤q * (high * (d:Int)):=Int.mul_le_mul_of_nonneg_right (by omega) (by omega)
   have:=quo_near (xl:=xh) (low:=high) (Tx:=Tx) (Ty:=Ty) (d:=d) (g:=g) (Wx:=Wx) (Wy:=Wy) q (by omega) (by omega) hh1 hh2 false (by rw [if_neg Bool.false_ne_true]; omega)
   rw [if_neg Bool.false_ne_true] at this
   exact this
end Go.Proofs.YtkoicfghplmghaaGreatDoor

namespace Go.Proofs.YtkoicfghplmghaaGreatDoor
open Go.RowKit
def GivesC (f:FuncId) (args:Array Value) (w:World) (code:Int) (l:List Rat):Prop :=
 Calls Tryz.prog f args w fun e w'=>∃ a c,e = .returned (.tuple #[.slice a (if code=0 then l.length else 0) c,.int .i64 code])∧(code=0→Rd w' a (cellsQ l))∧Below w.heap.size w w'
def sumCode (l:List Rat):Int:=if shortAll l=true then 0 else 4
theorem GivesSum.code {f:FuncId} {args:Array Value} {w:World} {l:List Rat} (h:GivesSum f args w l):GivesC f args w (sumCode l) l:=by
 unfold GivesSum at h
 unfold GivesC sumCode
 by_cases hs:shortAll l=true
 ·rw [if_pos hs] at h ⊢
  refine cm_ h ?_
  rintro e w' ⟨a,c,rfl,hr,hb⟩
  exact ⟨a,c,rfl,fun _=>hr,hb⟩
 ·rw [if_neg hs] at h ⊢
  refine cm_ h ?_
  rintro e w' ⟨rfl,hb⟩
  exact ⟨none,0,rfl,fun h4=>absurd h4 (by decide),hb⟩
theorem GivesErr.code {f:FuncId} {args:Array Value} {w:World} {code:Int} (hc:code≠0) (l:List Rat) (h:GivesErr f args w code):GivesC f args w code l:=by
 unfold GivesC
 rw [if_neg hc]
 refine cm_ h ?_
 rintro e w' ⟨rfl,hb⟩
 exact ⟨none,0,rfl,fun h4=>absurd h4 hc,hb⟩
theorem GivesC.lower {f:FuncId} {args:Array Value} {w:World} {code:Int} {l:List Rat} (h:GivesC f args w code l):∃ z:Nat,Calls Tryz.prog f args w fun e w'=>∃ a c,e = .returned (.tuple #[.slice a z c,.int .i64 code])∧(code=0→Rd w' a (cellsQ l))∧Below w.heap.size w w':=⟨_,h⟩
theorem add_gen (w:World) (ps:List Int) (a0 a1 a2:Option Addr) (c0 c1 c2:Nat) (la lb:List Rat) (rp:Rd w a0 (ints ps)) (hi:I64s ps) (hp:pcode ps=0) (r1:Rd w a1 (cellsQ la)) (r2:Rd w a2 (cellsQ lb)) (l1:la.length=ps.length) (l2:lb.length=ps.length)
  (s1:∀ q∈la,Sm 30 q) (s2:∀ q∈lb,Sm 30 q) (L:Laid w) :
  GivesC 54 #[.slice a0 ps.length c0,.slice a1 la.length c1,.slice a2 lb.length c2] w (sumCode (sumQ ps.length [la,lb] [1,((1:Int):Rat)])) (sumQ ps.length [la,lb] [1,((1:Int):Rat)]):=by
 obtain ⟨u,hu⟩:∃ q:Rat,q=1:=⟨_,rfl⟩
 obtain ⟨v,hv⟩:∃ q:Rat,q=((1:Int):Rat):=⟨_,rfl⟩
 rw [← hv,← hu]
 have Hc:Hid (∀ W g1 g2,Below w.heap.size w W→W.heap[g1]?=some (.cells #[.slice a1 la.length c1,.slice a2 lb.length c2] 47 (0,0))→W.heap[g2]?=some (.cells #[.string (itx u.num),.string (dec u.den),.string (itx v.num),.string (dec v.den)] 58 (0,0)) →
   GivesC 86 #[.slice a0 ps.length c0,.slice (some ⟨g1,0,none⟩) 2 2,.slice (some ⟨g2,0,none⟩) 2 2] W (sumCode (sumQ ps.length [la,lb] [u,v])) (sumQ ps.length [la,lb] [u,v])):=fun W g1 g2 hW h1 h2 =>
  (combine_fine W a0 _ _ c0 2 2 ps [la,lb] [u,v] (rp.below hW nr_) hi hp (rdl_two (l1:=la.map qs) (l2:=lb.map qs) (by rw [List.length_map,List.length_map]; exact h1) (r1.below hW nr_) (r2.below hW nr_)) (by simp)
   (by intro l hl; simp only [List.mem_cons,List.not_mem_nil,or_false] at hl; rcases hl with rfl | rfl; exact ⟨l1,s1⟩; exact ⟨l2,s2⟩) (rd_obj h2) rfl
   (by intro q hq; simp only [List.mem_cons,List.not_mem_nil,or_false] at hq; rcases hq with rfl | rfl; subst hu; exact Sm.le (D:=1) ⟨by decide +kernel,by decide +kernel⟩ (by decide); subst hv; exact Sm.le (D:=2) ⟨by decide +kernel,by decide +kernel⟩ (by decide)) (L.below hW)).code
 have N1:Hid (∀ W,Below w.heap.size w W→Gives Tryz.prog 79 #[.int .i64 1] W (fr u)):=fun W hW=>by subst hu; exact numberR W 1 (by decide) (by decide) (L.below hW)
 have N2:Hid (∀ W,Below w.heap.size w W→Gives Tryz.prog 79 #[.int .i64 1] W (fr v)):=fun W hW=>by subst hv; exact numberR W 1 (by decide) (by decide) (L.below hW)
 unfold fr fv at N1 N2
 unfold GivesC at Hc ⊢
 clear hu hv rp hi hp r1 r2 l1 l2 s1 s2 L
 generalize sumQ ps.length [la,lb] [u,v]=S at *
 generalize sumCode S=code at *
 generalize (if code=0 then S.length else 0)=z at *
 generalize ps.length=n at *
 generalize la.length=na at *
 generalize lb.length=nb at *
 have B0:=hd_ ((Below.refl w.heap.size w).alloc nr_ (.cells #[.slice a1 na c1,.slice a2 nb c2] 47))
 have K0:=hd_ (heap_at w #[.slice a1 na c1,.slice a2 nb c2] 47 _ rfl)
 go_enter Tryz.func54,Tryz.ntmps54
 go_wp2_with fail
 generalize w.alloc (.cells #[.slice a1 na c1,.slice a2 nb c2] 47)=w0 at *
 refine cm_ (N1.out _ B0.out) ?_
 rintro e w1 ⟨rfl,hb⟩
 have B1:=hd_ (B0.out.trans (hb.mono B0.out.size))
 have K1:=hd_ (heap_kept K0.out hb nr_)
 clear hb B0 K0
 go_wp2_with fail
 refine cm_ (N2.out _ B1.out) ?_
 rintro e w2 ⟨rfl,hb⟩
 have B2:=hd_ (B1.out.trans (hb.mono B1.out.size))
 have K2:=hd_ (heap_kept K1.out hb nr_)
 clear hb B1 K1 N1 N2
 go_wp2_with fail
 have B3:=hd_ (B2.out.alloc B2.out.size (.cells #[.string (itx u.num),.string (dec u.den),.string (itx v.num),.string (dec v.den)] 58))
 have K3:=hd_ (heap_old K2.out (.cells #[.string (itx u.num),.string (dec u.den),.string (itx v.num),.string (dec v.den)] 58))
 have M3:=hd_ (heap_at w2 #[.string (itx u.num),.string (dec u.den),.string (itx v.num),.string (dec v.den)] 58 _ rfl)
 generalize w2.alloc (.cells #[.string (itx u.num),.string (dec u.den),.string (itx v.num),.string (dec v.den)] 58)=w3 at *
 refine cm_ (Hc.out _ _ _ B3.out K3.out M3.out) ?_
 rintro e w4 ⟨a,c,rfl,hr,hb⟩
 have Hr:=hd_ hr
 have B4:=hd_ (B3.out.trans (hb.mono B3.out.size))
 clear hr hb Hc B2 K2 B3 K3 M3
 go_wp2_with fail
 go_ret2
 exact ⟨a,c,rfl,Hr.out,B4.out⟩
theorem sub_gen (w:World) (ps:List Int) (a0 a1 a2:Option Addr) (c0 c1 c2:Nat) (la lb:List Rat) (rp:Rd w a0 (ints ps)) (hi:I64s ps) (hp:pcode ps=0) (r1:Rd w a1 (cellsQ la)) (r2:Rd w a2 (cellsQ lb)) (l1:la.length=ps.length) (l2:lb.length=ps.length)
  (s1:∀ q∈la,Sm 30 q) (s2:∀ q∈lb,Sm 30 q) (L:Laid w) :
  GivesC 114 #[.slice a0 ps.length c0,.slice a1 la.length c1,.slice a2 lb.length c2] w (sumCode (sumQ ps.length [la,lb] [1,(((-1):Int):Rat)])) (sumQ ps.length [la,lb] [1,(((-1):Int):Rat)]):=by
 obtain ⟨u,hu⟩:∃ q:Rat,q=1:=⟨_,rfl⟩
 obtain ⟨v,hv⟩:∃ q:Rat,q=(((-1):Int):Rat):=⟨_,rfl⟩
 rw [← hv,← hu]
 have Hc:Hid (∀ W g1 g2,Below w.heap.size w W→W.heap[g1]?=some (.cells #[.slice a1 la.length c1,.slice a2 lb.length c2] 47 (0,0))→W.heap[g2]?=some (.cells #[.string (itx u.num),.string (dec u.den),.string (itx v.num),.string (dec v.den)] 58 (0,0)) →
   GivesC 86 #[.slice a0 ps.length c0,.slice (some ⟨g1,0,none⟩) 2 2,.slice (some ⟨g2,0,none⟩) 2 2] W (sumCode (sumQ ps.length [la,lb] [u,v])) (sumQ ps.length [la,lb] [u,v])):=fun W g1 g2 hW h1 h2 =>
  (combine_fine W a0 _ _ c0 2 2 ps [la,lb] [u,v] (rp.below hW nr_) hi hp (rdl_two (l1:=la.map qs) (l2:=lb.map qs) (by rw [List.length_map,List.length_map]; exact h1) (r1.below hW nr_) (r2.below hW nr_)) (by simp)
   (by intro l hl; simp only [List.mem_cons,List.not_mem_nil,or_false] at hl; rcases hl with rfl | rfl; exact ⟨l1,s1⟩; exact ⟨l2,s2⟩) (rd_obj h2) rfl
   (by intro q hq; simp only [List.mem_cons,List.not_mem_nil,or_false] at hq; rcases hq with rfl | rfl; subst hu; exact Sm.le (D:=1) ⟨by decide +kernel,by decide +kernel⟩ (by decide); subst hv; exact Sm.le (D:=2) ⟨by decide +kernel,by decide +kernel⟩ (by decide)) (L.below hW)).code
 have N1:Hid (∀ W,Below w.heap.size w W→Gives Tryz.prog 79 #[.int .i64 1] W (fr u)):=fun W hW=>by subst hu; exact numberR W 1 (by decide) (by decide) (L.below hW)
 have N2:Hid (∀ W,Below w.heap.size w W→Gives Tryz.prog 79 #[.int .i64 (-1)] W (fr v)):=fun W hW=>by subst hv; exact numberR W (-1) (by decide) (by decide) (L.below hW)
 unfold fr fv at N1 N2
 unfold GivesC at Hc ⊢
 clear hu hv rp hi hp r1 r2 l1 l2 s1 s2 L
 generalize sumQ ps.length [la,lb] [u,v]=S at *
 generalize sumCode S=code at *
 generalize (if code=0 then S.length else 0)=z at *
 generalize ps.length=n at *
 generalize la.length=na at *
 generalize lb.length=nb at *
 have B0:=hd_ ((Below.refl w.heap.size w).alloc nr_ (.cells #[.slice a1 na c1,.slice a2 nb c2] 47))
 have K0:=hd_ (heap_at w #[.slice a1 na c1,.slice a2 nb c2] 47 _ rfl)
 go_enter Tryz.func114,Tryz.ntmps114
 go_wp2_with fail
 generalize w.alloc (.cells #[.slice a1 na c1,.slice a2 nb c2] 47)=w0 at *
 refine cm_ (N1.out _ B0.out) ?_
 rintro e w1 ⟨rfl,hb⟩
 have B1:=hd_ (B0.out.trans (hb.mono B0.out.size))
 have K1:=hd_ (heap_kept K0.out hb nr_)
 clear hb B0 K0
 go_wp2_with fail
 refine cm_ (N2.out _ B1.out) ?_
 rintro e w2 ⟨rfl,hb⟩
 have B2:=hd_ (B1.out.trans (hb.mono B1.out.size))
 have K2:=hd_ (heap_kept K1.out hb nr_)
 clear hb B1 K1 N1 N2
 go_wp2_with fail
 have B3:=hd_ (B2.out.alloc B2.out.size (.cells #[.string (itx u.num),.string (dec u.den),.string (itx v.num),.string (dec v.den)] 58))
 have K3:=hd_ (heap_old K2.out (.cells #[.string (itx u.num),.string (dec u.den),.string (itx v.num),.string (dec v.den)] 58))
 have M3:=hd_ (heap_at w2 #[.string (itx u.num),.string (dec u.den),.string (itx v.num),.string (dec v.den)] 58 _ rfl)
 generalize w2.alloc (.cells #[.string (itx u.num),.string (dec u.den),.string (itx v.num),.string (dec v.den)] 58)=w3 at *
 refine cm_ (Hc.out _ _ _ B3.out K3.out M3.out) ?_
 rintro e w4 ⟨a,c,rfl,hr,hb⟩
 have Hr:=hd_ hr
 have B4:=hd_ (B3.out.trans (hb.mono B3.out.size))
 clear hr hb Hc B2 K2 B3 K3 M3
 go_wp2_with fail
 go_ret2
 exact ⟨a,c,rfl,Hr.out,B4.out⟩
end Go.Proofs.YtkoicfghplmghaaGreatDoor

namespace Go.Proofs.YtkoicfghplmghaaGreatDoor
open Go.RowKit
theorem sumQ_two (n:Nat) (la lb:List Rat) (f g:Rat) (h1:la.length=n) (h2:lb.length=n):sumQ n [la,lb] [f,g]=combineQ la lb f g:=by
 show addTo (addTo (List.replicate n 0) la f) lb g=_
 refine List.ext_getElem (by simp [addTo,combineQ,h1,h2]) fun i hi1 hi2=>?_
 simp only [addTo,combineQ,List.getElem_zipWith,List.getElem_replicate,Rat.zero_add]
theorem combineQ_sm {la lb:List Rat} {f g:Rat} {D E F G:Nat} (h1:∀ q∈la,Sm D q) (h2:∀ q∈lb,Sm E q) (hf:Sm F f) (hg:Sm G g):∀ q∈combineQ la lb f g,Sm ((D + F) + (E + G) + 1) q:=by
 intro q hq
 obtain ⟨i,hi,rfl⟩:=List.mem_iff_getElem.1 hq
 simp only [combineQ,List.getElem_zipWith]
 have hi':i < la.length∧i < lb.length:=by simp [combineQ] at hi; omega
 exact Sm.add (Sm.mul (h1 _ (List.getElem_mem hi'.1)) hf) (Sm.mul (h2 _ (List.getElem_mem hi'.2)) hg)
theorem shortAll_sm {l:List Rat} {D:Nat} (h:∀ q∈l,Sm D q) (hD:D≤30):shortAll l=true:=by
 unfold shortAll
 rw [List.all_eq_true]
 intro q hq
 exact decide_eq_true ((h q hq).le hD)
theorem sm_one:Sm 1 (1:Rat):=⟨by decide +kernel,by decide +kernel⟩
theorem sm_mone:Sm 1 (((-1:Int):Rat)):=⟨by decide +kernel,by decide +kernel⟩
theorem sumCode_small (la lb:List Rat) (g:Rat) (h1:∀ q∈la,Sm 2 q) (h2:∀ q∈lb,Sm 2 q) (hg:Sm 1 g):sumCode (combineQ la lb 1 g)=0:=by
 unfold sumCode
 rw [if_pos (shortAll_sm (combineQ_sm h1 h2 sm_one hg) (by decide))]
end Go.Proofs.YtkoicfghplmghaaGreatDoor

namespace Go.Proofs.YtkoicfghplmghaaGreatDoor
open Go.RowKit
def Sml (N M:Nat) (l:List Rat):Prop:=∀ q∈l,q.den ∣ M∧(LN.ex M q).natAbs≤N
theorem Sml.le {N K M:Nat} {l:List Rat} (h:Sml N M l) (hK:N≤K):Sml K M l:=fun q hq=>⟨(h q hq).1,Nat.le_trans (h q hq).2 hK⟩
theorem ex_den {M:Nat} {q:Rat} (z:Int) (hM:0 < M) (h:q * (M:Rat)=(z:Rat)):q.den ∣ M∧LN.ex M q=z:=by
 have hM':(M:Rat)≠0:=by have:=Rat.natCast_pos.2 hM; grind
 have e:q=mkRat z M:=by
  rw [Rat.mkRat_eq_div]
  have:=Rat.mul_div_cancel (a:=q) hM'
  rw [← h]; exact this.symm
 have hd:q.den ∣ M:=by
  rw [e,LN.mkRat_den' _ _ (by omega)]
  exact Nat.div_dvd_of_dvd (Nat.gcd_dvd_right _ _)
 refine ⟨hd,?_⟩
 rw [← Rat.intCast_inj,LN.ex_eq hd,h]
theorem Sml.comb {N K M:Nat} {la lb:List Rat} (hM:0 < M) (ha:Sml N M la) (hb:Sml K M lb) (f g:Int):Sml (N * f.natAbs + K * g.natAbs) M (combineQ la lb (f:Rat) (g:Rat)):=by
 intro q hq
 obtain ⟨i,hi,rfl⟩:=List.mem_iff_getElem.1 hq
 have hi':i < la.length∧i < lb.length:=by simp [combineQ] at hi; omega
 simp only [combineQ,List.getElem_zipWith]
 obtain ⟨d1,n1⟩:=ha _ (List.getElem_mem hi'.1)
 obtain ⟨d2,n2⟩:=hb _ (List.getElem_mem hi'.2)
 have h:(la[i]'hi'.1 * (f:Rat) + lb[i]'hi'.2 * (g:Rat)) * (M:Rat)=((LN.ex M (la[i]'hi'.1) * f + LN.ex M (lb[i]'hi'.2) * g:Int):Rat):=by
  rw [Rat.intCast_add,Rat.intCast_mul,Rat.intCast_mul,LN.ex_eq d1,LN.ex_eq d2]
  grind
 obtain ⟨r1,r2⟩:=ex_den _ hM h
 refine ⟨r1,?_⟩
 rw [r2]
 refine Nat.le_trans (Int.natAbs_add_le _ _) ?_
 rw [Int.natAbs_mul,Int.natAbs_mul]
 exact Nat.add_le_add (Nat.mul_le_mul_right _ n1) (Nat.mul_le_mul_right _ n2)
theorem Sml.good {N M:Nat} {ps:List Int} {l:List Rat} (hM:0 < M) (h:Sml N M l) (hN:N≤Kb) (h1:∀ p∈ps,p∈smallP) (h2:ps.Nodup):Good ps l:=by
 refine Good.small h1 h2 fun x hx=>?_
 obtain ⟨_,q,hq,_,he⟩:=tlist_mem hx
 have e:x.2=LN.ex (tden l) q:=he
 obtain ⟨m,hm⟩:=LN.tden_min (fun q hq=>(h q hq).1)
 have h3:=(h q hq).2
 rw [hm,Nat.mul_comm,LN.ex_mul (LN.tden_dvd hq),Int.natAbs_mul,Int.natAbs_natCast] at h3
 have hm0:0 < m:=by
  rcases Nat.eq_zero_or_pos m with h0 | h0
  ·rw [h0,Nat.mul_zero] at hm; omega
  ·exact h0
 rw [e]
 have h4:1 * (LN.ex (tden l) q).natAbs≤m * (LN.ex (tden l) q).natAbs:=Nat.mul_le_mul_right _ hm0
 omega
def difQ (la lb:List Rat):List Rat:=combineQ la lb ((1:Int):Rat) ((-1:Int):Rat)
theorem difQ_get (la lb:List Rat) (i:Nat) (h1:i < la.length) (h2:i < lb.length) (h:i < (difQ la lb).length):(difQ la lb)[i]=la[i] - lb[i]:=by
 simp only [difQ,combineQ,List.getElem_zipWith]
 grind
theorem difQ_length (la lb:List Rat) (h:la.length=lb.length):(difQ la lb).length=la.length:=combineQ_length _ _ _ _ h
theorem sz_swap {ps:List Int} (hp:∀ p∈ps,0 < p) {la lb:List Rat} (h:la.length=lb.length):LN.sz ps (difQ lb la) = - LN.sz ps (difQ la lb):=by
 rw [← LN.sz_neg hp]
 congr 1
 refine List.ext_getElem (by simp [difQ_length,h]) fun i h1 h2=>?_
 have i1:i < la.length:=by simp [difQ_length,h] at h2; omega
 rw [difQ_get lb la i (by omega) i1 h1,List.getElem_map,difQ_get la lb i i1 (by omega)]
 grind
theorem sz_ne {ps:List Int} {l:List Rat} (g:Good ps l) (hn:ps.length≤100) (hl:l.length=ps.length) (h:∃ q∈l,q≠0):LN.sz ps l≠0:=by
 have hne:tlQ ps l≠[]:=by
  obtain ⟨q,hq,h0⟩:=h
  obtain ⟨i,hi,rfl⟩:=List.mem_iff_getElem.1 hq
  intro e
  have hm:(ps[i]'(by omega),l[i].num * ((tden l / l[i].den:Nat):Int))∈tlQ ps l:=by
   unfold tlQ tlist
   refine List.mem_filterMap.2 ⟨(ps[i]'(by omega),l[i]),?_,?_⟩
   ·exact List.mem_iff_getElem.2 ⟨i,by simp; omega,by simp⟩
   ·rw [if_neg]
    intro hz
    exact h0 (Rat.num_eq_zero.1 hz)
  rw [e] at hm
  cases hm
 show LN.signT (tlQ ps l)≠0
 rcases g.dec hn hne with h | h
 ·rw [sign_of_lo g.trt (by decide) hne h]; decide
 ·rw [sign_of_hi g.trt (by decide) hne h]; decide
theorem dif_trans {la lb lc:List Rat} (h1:la.length=lb.length) (h2:lb.length=lc.length):difQ la lc=List.zipWith (· + ·) (difQ la lb) (difQ lb lc):=by
 refine List.ext_getElem (by simp [difQ_length,h1,h2]) fun i i1 i2=>?_
 have j1:i < la.length:=by rw [difQ_length _ _ (by omega)] at i1; exact i1
 rw [difQ_get la lc i j1 (by omega),List.getElem_zipWith,difQ_get la lb i j1 (by omega),difQ_get lb lc i (by omega) (by omega)]
 grind
theorem sz_trans_le {ps:List Int} (hp:∀ p∈ps,0 < p) {la lb lc:List Rat} (h1:la.length=lb.length) (h2:lb.length=lc.length) (a:LN.sz ps (difQ la lb)≤0) (b:LN.sz ps (difQ lb lc)≤0):LN.sz ps (difQ la lc)≤0 :=
 LN.sz_add_le hp (by rw [difQ_length _ _ h1,difQ_length _ _ h2,h1]) (dif_trans h1 h2) a b
end Go.Proofs.YtkoicfghplmghaaGreatDoor

namespace Go.Proofs.YtkoicfghplmghaaGreatDoor
open Go.RowKit
def ZeroB (pr:List Int) (K S:Nat):Prop:=∀ k:List Int,k.length=pr.length→(∀ x∈k,x.natAbs≤K)→(LN.dotI (pr.map fun p=>((lf 1024 p:Nat):Int)) k).natAbs < S→∀ x∈k,x=0
theorem coefs_small {pr:List Int} {KA SA:Nat} (hpd:pr.Nodup) (hZ:ZeroB pr KA SA) {tx ty:List (Int×Int)} {d g Kx Ky R:Nat} {j:Int} (mx:∀ x∈tx,x.1∈pr) (my:∀ x∈ty,x.1∈pr) (nx:(tx.map Prod.fst).Nodup) (ny:(ty.map Prod.fst).Nodup)
  (hkx:∀ x∈tx,x.2.natAbs≤Kx) (hky:∀ x∈ty,x.2.natAbs≤Ky) (hj:j.natAbs≤R) (hk:g * Kx + R * d * Ky≤KA)
  (h:(g * LN.sumT (lf 1024) tx - j * d * LN.sumT (lf 1024) ty).natAbs < SA):∀ p∈pr,(g:Int) * LN.coefP p tx=j * d * LN.coefP p ty:=by
 rw [← LN.dotI_coef (lf 1024) pr hpd tx mx,← LN.dotI_coef (lf 1024) pr hpd ty my,← dotI_lin] at h
 have hz:=hZ (pr.map fun p=>(g:Int) * LN.coefP p tx - j * d * LN.coefP p ty) (by simp) (by
  intro x hx
  obtain ⟨p,_,rfl⟩:=List.mem_map.1 hx
  have b1:=LN.coefP_le Kx tx nx hkx p
  have b2:=LN.coefP_le Ky ty ny hky p
  have c1:((g:Int) * LN.coefP p tx).natAbs≤g * Kx:=by rw [Int.natAbs_mul,Int.natAbs_natCast]; exact Nat.mul_le_mul_left _ b1
  have c2:(j * d * LN.coefP p ty).natAbs≤R * d * Ky:=by
   rw [Int.natAbs_mul,Int.natAbs_mul,Int.natAbs_natCast]
   exact Nat.mul_le_mul (Nat.mul_le_mul_right _ hj) b2
  omega) h
 intro p hp
 have:=hz _ (List.mem_map.2 ⟨p,hp,rfl⟩)
 omega
theorem coefP_tlist {D:Nat}:∀ (ps:List Int) (l:List Rat),ps.Nodup→l.length=ps.length→∀ (i:Nat) (h1:i < ps.length) (h2:i < l.length),LN.coefP ps[i] (tlist D ps l)=LN.ex D l[i]
 | [],_,_,_,i,h1,_=>absurd h1 (Nat.not_lt_zero i)
 | p :: ps,[],_,h,_,_,_=>by simp at h
 | p :: ps,q :: l,hd,hl,i,h1,h2=>by
  simp only [List.nodup_cons] at hd
  have key:tlist D (p :: ps) (q :: l)=(if q.num=0 then tlist D ps l else (p,LN.ex D q) :: tlist D ps l):=by
   unfold tlist
   rw [List.zip_cons_cons,List.filterMap_cons]
   by_cases h:q.num=0
   ·simp only [h,if_true]
   ·simp only [h,if_false]; rfl
  have hnot:LN.coefP p (tlist D ps l)=0:=LN.coefP_none p _ fun hm=>hd.1 ((tlist_fst D ps l).subset hm)
  rw [key]
  cases i with
  | zero =>
   simp only [List.getElem_cons_zero]
   by_cases h:q.num=0
   ·rw [if_pos h,hnot,LN.ex_zero q h]
   ·rw [if_neg h,LN.coefP,if_pos rfl,hnot]; simp
  | succ i =>
   simp only [List.getElem_cons_succ]
   have h1':i < ps.length:=by simpa using h1
   have h2':i < l.length:=by simpa using h2
   have ih:=coefP_tlist (D:=D) ps l hd.2 (by simpa using hl) i h1' h2'
   by_cases h:q.num=0
   ·rw [if_pos h]; exact ih
   ·rw [if_neg h,LN.coefP,if_neg (fun e:p=ps[i]=>hd.1 (by rw [e]; exact List.getElem_mem h1')),ih]; simp
theorem mult_of_coefs {pr ps:List Int} {la lb:List Rat} {j:Int} (hnd:ps.Nodup) (hps:∀ p∈ps,p∈pr) (l1:la.length=ps.length) (l2:lb.length=ps.length)
  (h:∀ p∈pr,((tden lb:Nat):Int) * LN.coefP p (tlQ ps la)=j * ((tden la:Nat):Int) * LN.coefP p (tlQ ps lb)):la=lb.map fun x=>(j:Rat) * x:=by
 refine List.ext_getElem (by simp; omega) fun i h1 h2=>?_
 have i2:i < lb.length:=by omega
 have i3:i < ps.length:=by omega
 have e:=h ps[i] (hps _ (List.getElem_mem i3))
 unfold tlQ at e
 rw [coefP_tlist ps la hnd l1 i i3 h1,coefP_tlist ps lb hnd l2 i i3 i2] at e
 rw [List.getElem_map]
 have e2:(((tden lb:Nat):Int) * LN.ex (tden la) la[i]:Int)=((j * ((tden la:Nat):Int) * LN.ex (tden lb) lb[i]:Int)):=e
 have e3:((((tden lb:Nat):Int) * LN.ex (tden la) la[i]:Int):Rat)=((j * ((tden la:Nat):Int) * LN.ex (tden lb) lb[i]:Int):Rat):=by rw [e2]
 rw [Rat.intCast_mul,Rat.intCast_mul,Rat.intCast_mul,LN.ex_eq (LN.tden_dvd (List.getElem_mem h1)),LN.ex_eq (LN.tden_dvd (List.getElem_mem i2)),Rat.intCast_natCast,Rat.intCast_natCast] at e3
 have n1:((tden la:Nat):Rat)≠0:=by have:=Rat.natCast_pos.2 (LN.tden_pos' la); grind
 have n2:((tden lb:Nat):Rat)≠0:=by have:=Rat.natCast_pos.2 (LN.tden_pos' lb); grind
 generalize ((tden la:Nat):Rat)=a at *
 generalize ((tden lb:Nat):Rat)=b at *
 have hab:a * b≠0:=by
  intro hz
  rcases Rat.mul_eq_zero.1 hz with h | h
  ·exact n1 h
  ·exact n2 h
 have e4:(a * b) * la[i]=(a * b) * ((j:Rat) * lb[i]):=by grind
 have e5:=Rat.mul_inv_cancel (a * b) hab
 calc la[i]=(a * b) * (a * b)⁻¹ * la[i]:=by rw [e5,Rat.one_mul]
  _=(a * b)⁻¹ * ((a * b) * la[i]):=by grind
  _=(a * b)⁻¹ * ((a * b) * ((j:Rat) * lb[i])):=by rw [e4]
  _=(a * b) * (a * b)⁻¹ * ((j:Rat) * lb[i]):=by grind
  _=(j:Rat) * lb[i]:=by rw [e5,Rat.one_mul]
theorem ratio_mult {la lb:List Rat} {k:Rat} (h:la=lb.map fun x=>k * x):∀ n,(∃ i,i < n∧lb.getD i 0≠0)→ratioK la lb n=k
 | 0,⟨i,hi,_⟩=>absurd hi (Nat.not_lt_zero i)
 | n + 1,⟨i,hi,h0⟩=>by
  unfold ratioK
  by_cases hz:lb.getD n 0=0
  ·rw [if_pos hz]
   refine ratio_mult h n ⟨i,?_,h0⟩
   rcases Nat.lt_or_ge i n with hlt | hge
   ·exact hlt
   ·have:i=n:=by omega
    rw [this] at h0
    exact absurd hz h0
  ·rw [if_neg hz]
   have hlt:n < lb.length:=by
    refine Nat.lt_of_not_le fun hc=>hz ?_
    rw [List.getD_eq_getElem?_getD,List.getElem?_eq_none hc]; rfl
   have e:la.getD n 0=k * lb.getD n 0:=by
    rw [h,List.getD_eq_getElem?_getD,List.getD_eq_getElem?_getD,List.getElem?_map,List.getElem?_eq_getElem hlt]; rfl
   rw [e]
   generalize lb.getD n 0=x at *
   rw [Rat.div_def,Rat.mul_assoc,Rat.mul_inv_cancel x hz,Rat.mul_one]
theorem ratioB_mult {la lb:List Rat} {k:Rat} (h:la=lb.map fun x=>k * x) (n:Nat) (h0:∃ i,i < n∧lb.getD i 0≠0):ratioB la lb n (ratioK la lb n)=true:=by
 rw [ratio_mult h n h0]
 refine decide_eq_true fun j _=>?_
 rw [h,List.getD_eq_getElem?_getD,List.getD_eq_getElem?_getD,List.getElem?_map]
 cases lb[j]? with
 | none=>show k * 0=0; rw [Rat.mul_zero]
 | some x=>rfl
theorem flAt_dec {pr ps:List Int} {KA SA:Nat} (hpd:pr.Nodup) (hZ:ZeroB pr KA SA) {la lb:List Rat} {Kx Ky R X S:Nat} (hps:∀ p∈ps,p∈pr) (hnd:ps.Nodup) (l1:la.length=ps.length) (l2:lb.length=ps.length) (hkx:∀ x∈tlQ ps la,x.2.natAbs≤Kx) (hky:∀ x∈tlQ ps lb,x.2.natAbs≤Ky)
  (hne:tlQ ps lb≠[]) (hS:S≤(LN.sumT (lf 1024) (tlQ ps lb)).natAbs)
  (N:FNum KA SA Kx Ky (tden la) (tden lb) S R ((tlQ ps la).length * Kx) ((tlQ ps lb).length * Ky) X) (hX:(LN.eLo (lf 1024) (tlQ ps la)).natAbs≤X∧(LN.eHi (lf 1024) (tlQ ps la)).natAbs≤X)
  (hr:ratioB la lb ps.length (ratioK la lb ps.length)=false):flAt 1024 (tlQ ps la) (tlQ ps lb) (tden la) (tden lb)≠none:=by
 intro hnone
 have mx:∀ x∈tlQ ps la,x.1∈pr:=fun x hx=>hps _ (tlist_mem hx).1
 have my:∀ x∈tlQ ps lb,x.1∈pr:=fun x hx=>hps _ (tlist_mem hx).1
 have nx:((tlQ ps la).map Prod.fst).Nodup:=(tlist_fst _ ps la).nodup hnd
 have ny:((tlQ ps lb).map Prod.fst).Nodup:=(tlist_fst _ ps lb).nodup hnd
 have key:∃ j:Int,j.natAbs≤R∧(((tden lb:Nat):Int) * LN.sumT (lf 1024) (tlQ ps la) - j * ((tden la:Nat):Int) * LN.sumT (lf 1024) (tlQ ps lb)).natAbs < SA:=by
  have hd:=LN.tden_pos' la
  obtain ⟨y1,y2,y3,y4⟩:=ends_near (lf 1024) Ky (tlQ ps lb) hky
  have hs:=N.s
  unfold flAt flS at hnone
  rcases Int.lt_or_le 0 (LN.sumT (lf 1024) (tlQ ps lb)) with hT | hT
  ·rw [if_neg (by omega)] at hnone
   exact flE_none hd hkx hky N (by omega) hX hnone
  ·rw [if_pos (by omega)] at hnone
   have len1:(LN.negT (tlQ ps la)).length=(tlQ ps la).length:=by simp [LN.negT]
   have len2:(LN.negT (tlQ ps lb)).length=(tlQ ps lb).length:=by simp [LN.negT]
   obtain ⟨a1,a2⟩:=eLo_neg (lf 1024) (tlQ ps la)
   obtain ⟨b1,b2⟩:=eLo_neg (lf 1024) (tlQ ps lb)
   have kneg:∀ {l:List (Int×Int)} {K:Nat},(∀ x∈l,x.2.natAbs≤K)→∀ x∈LN.negT l,x.2.natAbs≤K:=by
    intro l K h x hx
    obtain ⟨y,hy,rfl⟩:=List.mem_map.1 hx
    have:=h y hy
    show (-y.2).natAbs≤K
    omega
   obtain ⟨j,hj,hz⟩:=flE_none (f:=lf 1024) (tx:=LN.negT (tlQ ps la)) (ty:=LN.negT (tlQ ps lb)) (S:=S) (R:=R) (X:=X) hd (kneg hkx) (kneg hky) (by rw [len1,len2]; exact N) (by rw [sumT_neg]; omega) (by rw [a1,a2]; omega) (by rw [a1,a2,b1,b2]; exact hnone)
   refine ⟨j,hj,?_⟩
   rw [sumT_neg,sumT_neg,Int.mul_neg,Int.mul_neg] at hz
   omega
 obtain ⟨j,hj,hz⟩:=key
 have hm:=mult_of_coefs hnd hps l1 l2 (coefs_small hpd hZ mx my nx ny hkx hky hj N.k hz)
 have h0:∃ i,i < ps.length∧lb.getD i 0≠0:=by
  refine Classical.byContradiction fun hc=>hne ?_
  have hall:∀ q∈lb,q=0:=fun q hq=>by
   obtain ⟨i,hi,rfl⟩:=List.mem_iff_getElem.1 hq
   refine Classical.byContradiction fun h=>hc ⟨i,by omega,?_⟩
   rw [List.getD_eq_getElem?_getD,List.getElem?_eq_getElem hi]; exact h
  refine List.eq_nil_iff_forall_not_mem.2 fun x hx=>?_
  obtain ⟨_,q,hq,hn,_⟩:=tlist_mem hx
  exact hn (by rw [hall q hq]; rfl)
 rw [ratioB_mult hm ps.length h0] at hr
 cases hr
end Go.Proofs.YtkoicfghplmghaaGreatDoor

namespace Go.Proofs.YtkoicfghplmghaaGreatDoor
open Go.RowKit
theorem Sml.kb {N M:Nat} {ps:List Int} {l:List Rat} (hM:0 < M) (h:Sml N M l):∀ x∈tlQ ps l,x.2.natAbs≤N:=by
 intro x hx
 obtain ⟨_,q,hq,_,he⟩:=tlist_mem hx
 have e:x.2=LN.ex (tden l) q:=he
 obtain ⟨m,hm⟩:=LN.tden_min (fun q hq=>(h q hq).1)
 have h3:=(h q hq).2
 rw [hm,Nat.mul_comm,LN.ex_mul (LN.tden_dvd hq),Int.natAbs_mul,Int.natAbs_natCast] at h3
 have hm0:0 < m:=by
  rcases Nat.eq_zero_or_pos m with h0 | h0
  ·rw [h0,Nat.mul_zero] at hm; omega
  ·exact h0
 rw [e]
 have h4:1 * (LN.ex (tden l) q).natAbs≤m * (LN.ex (tden l) q).natAbs:=Nat.mul_le_mul_right _ hm0
 omega
theorem Sml.den {N:Nat} {l:List Rat} (h:Sml N 12 l):tden l≤12:=Nat.le_of_dvd (by decide) (LN.tden_min (fun q hq=>(h q hq).1))
theorem tlQ_len6 {ps:List Int} (h:ps.length≤6) (l:List Rat):(tlQ ps l).length≤6:=Nat.le_trans (by have:=(tlist_fst (tden l) ps l).length_le; rw [List.length_map] at this; exact this) h
theorem tlQ_ne {ps:List Int} {l:List Rat} (hl:l.length=ps.length) (h:∃ q∈l,q≠0):tlQ ps l≠[]:=by
 obtain ⟨q,hq,h0⟩:=h
 obtain ⟨i,hi,rfl⟩:=List.mem_iff_getElem.1 hq
 intro e
 have hm:(ps[i]'(by omega),l[i].num * ((tden l / l[i].den:Nat):Int))∈tlQ ps l:=by
  unfold tlQ tlist
  refine List.mem_filterMap.2 ⟨(ps[i]'(by omega),l[i]),?_,?_⟩
  ·exact List.mem_iff_getElem.2 ⟨i,by simp; omega,by simp⟩
  ·rw [if_neg]
   intro hz
   exact h0 (Rat.num_eq_zero.1 hz)
 rw [e] at hm
 cases hm
theorem zw_sub {la lb:List Rat} (q r:Int) (h:la.length=lb.length):LN.subQ r la lb=List.zipWith (· + ·) (LN.subQ q la lb) (lb.map fun x=>(((q - r:Int)):Rat) * x):=by
 obtain ⟨m,hm⟩:∃ m:Rat,(((q - r:Int)):Rat)=m:=⟨_,rfl⟩
 have e:=Rat.intCast_sub q r
 rw [hm] at e ⊢
 clear hm
 refine List.ext_getElem (by simp [LN.subQ,h]) fun i h1 h2=>?_
 simp only [LN.subQ,List.getElem_zipWith,List.getElem_map]
 grind
theorem sz_lt_le {ps:List Int} {a b c:List Rat} (hp:∀ p∈ps,0 < p) (hab:a.length=b.length) (hc:c=List.zipWith (· + ·) a b):(LN.sz ps a < 0→LN.sz ps b≤0→LN.sz ps c < 0)∧(0 < LN.sz ps a→0≤LN.sz ps b→0 < LN.sz ps c):=by
 obtain ⟨x,y,hx,hy,e1,e2,e3⟩:=LN.sz_sum hp hab hc
 rw [e1,e2,e3]
 constructor
 ·intro h1 h2
  have h3:LN.sg x = -1:=by rcases LN.sg_cases x with h | h | h <;> omega
  rw [LN.sg_low.2 (LN.mul_lt_one hx (LN.sg_low.1 h3) (LN.sg_le.1 h2))]
  decide
 ·intro h1 h2
  have h3:LN.sg x=1:=by rcases LN.sg_cases x with h | h | h <;> omega
  rw [LN.sg_pos.2 (LN.one_lt_mul (LN.sg_pos.1 h3) (LN.sg_ge.1 h2))]
  decide
theorem szc {ps:List Int} (hp:∀ p∈ps,0 < p) (l:List Rat):LN.sz ps l=1∨LN.sz ps l=0∨LN.sz ps l = -1:=by
 rw [LN.sz_of_vt hp]; exact LN.sg_cases _
theorem floor_lt {ps:List Int} {la lb:List Rat} (hp:∀ p∈ps,0 < p) (hl:la.length=lb.length) {q r:Int} (hq:LN.FloorOf ps la lb q) (hr:LN.FloorOf ps la lb r):r≤q:=by
 refine Int.not_lt.1 fun hlt=>?_
 have h1:=hq.2
 have h2:=hr.1
 have e:=zw_sub (q + 1) r hl (la:=la) (lb:=lb)
 have hlen:(LN.subQ (q + 1) la lb).length=(lb.map fun x=>(((q + 1 - r:Int)):Rat) * x).length:=by simp [LN.subQ,hl]
 obtain ⟨k1,k2⟩:=sz_lt_le hp hlen e
 rw [LN.sz_mul hp] at k1 k2
 have hs:(((q + 1 - r:Int)):Rat).num.sign=(q + 1 - r).sign:=by rw [Rat.num_intCast]
 rw [hs] at k1 k2
 have hn:(q + 1 - r).sign = -1∨(q + 1 - r).sign=0:=by
  rcases sign_cases (q + 1 - r) with h | h | h
  ·exact .inl h.2
  ·exact .inr h.2
  ·omega
 rcases szc hp lb with hw | hw | hw
 ·rw [hw] at h1 h2 k1
  have:=k1 (by omega) (by rcases hn with h | h <;> rw [h] <;> decide)
  omega
 ·rw [hw] at h1; omega
 ·rw [hw] at h1 h2 k2
  have:=k2 (by omega) (by rcases hn with h | h <;> rw [h] <;> decide)
  omega
theorem floor_one {ps:List Int} {la lb:List Rat} (hp:∀ p∈ps,0 < p) (hl:la.length=lb.length) {q r:Int} (hq:LN.FloorOf ps la lb q) (hr:LN.FloorOf ps la lb r):q=r:=by
 have h1:=floor_lt hp hl hq hr
 have h2:=floor_lt hp hl hr hq
 omega
theorem FlrOk.exists {ps:List Int} {la lb:List Rat} {E:Nat} (F:FlrOk ps la lb E) (l1:la.length=ps.length) (l2:lb.length=ps.length):∃ q,LN.FloorOf ps la lb q:=by
 cases hr:ratioB la lb ps.length (ratioK la lb ps.length) with
 | true=>exact ⟨_,ratio_floor F.pr l1 l2 hr F.nz⟩
 | false =>
  have h:=F.dec hr
  cases hf:flAt 1024 (tlQ ps la) (tlQ ps lb) (tden la) (tden lb) with
  | none=>exact absurd hf h
  | some q=>exact ⟨q,flAt_floor F.pr (l1.trans l2.symm) (by decide) hf⟩
theorem floor_det (w:World) (ps:List Int) (a0 a1 a2:Option Addr) (c0 c1 c2 D E:Nat) (la lb:List Rat) (A:SizeOk w ps a0 a1 la D) (B:SizeOk w ps a0 a2 lb D) (hD0:0 < D) (F:FlrOk ps la lb E) (L:Laid w) {q:Int} (hq:LN.FloorOf ps la lb q) :
  Gives Tryz.prog 154 #[.slice a0 ps.length c0,.slice a1 la.length c1,.slice a2 lb.length c2] w (.string (itx q)):=by
 refine Calls.mono (floor_any w ps a0 a1 a2 c0 c1 c2 D E la lb A B hD0 F L) ?_
 rintro e w' ⟨⟨r,rfl,hr⟩,hb⟩
 rw [floor_one (allP_pos' F.pr) (A.len.trans B.len.symm) hq hr]
 exact ⟨rfl,hb⟩
end Go.Proofs.YtkoicfghplmghaaGreatDoor

namespace Go.Proofs.YtkoicfghplmghaaGreatDoor
open Go.RowKit
theorem sumT_next (f:Int→Nat) (D:Nat) (p:Int) (ps:List Int) (q:Rat) (l:List Rat):LN.sumT f (tlist D (p :: ps) (q :: l))=LN.ex D q * f p + LN.sumT f (tlist D ps l):=by
 unfold tlist
 rw [List.zip_cons_cons,List.filterMap_cons]
 by_cases h:q.num=0
 ·simp only [h,if_true]
  rw [LN.ex_zero q h,Int.zero_mul,Int.zero_add]
 ·simp only [h,if_false]; rfl
theorem ex_subI {D:Nat} {a b:Rat} (q:Int) (hD:0 < D) (ha:a.den ∣ D) (hb:b.den ∣ D):(a + (-(q:Rat)) * b).den ∣ D∧LN.ex D (a + (-(q:Rat)) * b)=LN.ex D a - q * LN.ex D b:=by
 refine ex_den _ hD ?_
 rw [Rat.intCast_sub,Rat.intCast_mul,LN.ex_eq ha,LN.ex_eq hb]
 grind
theorem sumT_sub (f:Int→Nat) (D:Nat) (hD:0 < D) (q:Int):∀ (ps:List Int) (la lb:List Rat),la.length=lb.length→(∀ x∈la,x.den ∣ D)→(∀ x∈lb,x.den ∣ D) →
  LN.sumT f (tlist D ps (LN.subQ q la lb))=LN.sumT f (tlist D ps la) - q * LN.sumT f (tlist D ps lb)
 | [],_,_,_,_,_=>by simp [tlist,LN.sumT]
 | _ :: _,[],[],_,_,_=>by simp [tlist,LN.sumT,LN.subQ]
 | p :: ps,a :: la,b :: lb,hl,h1,h2=>by
  have ih:=sumT_sub f D hD q ps la lb (by simpa using hl) (fun x hx=>h1 x (List.mem_cons_of_mem _ hx)) fun x hx=>h2 x (List.mem_cons_of_mem _ hx)
  have e:LN.subQ q (a :: la) (b :: lb)=(a + (-(q:Rat)) * b) :: LN.subQ q la lb:=rfl
  rw [e,sumT_next,sumT_next,sumT_next,ih,(ex_subI q hD (h1 a List.mem_cons_self) (h2 b List.mem_cons_self)).2]
  grind
theorem sumT_times (f:Int→Nat) (m D:Nat):∀ (ps:List Int) (l:List Rat),(∀ x∈l,x.den ∣ D)→LN.sumT f (tlist (m * D) ps l)=(m:Int) * LN.sumT f (tlist D ps l)
 | [],_,_=>by simp [tlist,LN.sumT]
 | _ :: _,[],_=>by simp [tlist,LN.sumT]
 | p :: ps,q :: l,h=>by
  have ih:=sumT_times f m D ps l fun x hx=>h x (List.mem_cons_of_mem _ hx)
  rw [sumT_next,sumT_next,ih,LN.ex_mul (h q List.mem_cons_self)]
  grind
theorem sz_sumT {ps:List Int} {l:List Rat} {M:Nat} (g:Good ps l) (hn:ps.length≤100) (hM:0 < M) (h:∀ q∈l,q.den ∣ M) :
  (0 < LN.sumT (lf 1024) (tlist M ps l)→LN.sz ps l=1)∧(LN.sumT (lf 1024) (tlist M ps l) < 0→LN.sz ps l = -1):=by
 obtain ⟨m,hm⟩:=LN.tden_min h
 have hm0:0 < m:=by
  rcases Nat.eq_zero_or_pos m with h0 | h0
  ·rw [h0,Nat.mul_zero] at hm; omega
  ·exact h0
 have e:LN.sumT (lf 1024) (tlist M ps l)=(m:Int) * LN.sumT (lf 1024) (tlQ ps l):=by
  rw [hm,Nat.mul_comm]
  exact sumT_times _ _ _ _ _ fun q hq=>LN.tden_dvd hq
 rw [e]
 obtain ⟨y1,y2,_,_⟩:=ends_near (lf 1024) Kb (tlQ ps l) g.kb
 have hz:LN.sz ps l=LN.signT (tlQ ps l):=rfl
 by_cases hne:tlQ ps l=[]
 ·rw [hne]
  show (0 < (m:Int) * 0→_)∧((m:Int) * 0 < 0→_)
  rw [Int.mul_zero]
  exact ⟨fun h=>absurd h (by decide),fun h=>absurd h (by decide)⟩
 ·generalize LN.sumT (lf 1024) (tlQ ps l)=s at *
  rcases g.dec hn hne with h | h
  ·have h1:=sign_of_lo g.trt (by decide) hne h
   have h2:0≤(m:Int) * s:=Int.mul_nonneg (by omega) (by omega)
   exact ⟨fun _=>hz.trans h1,fun h3=>by omega⟩
  ·have h1:=sign_of_hi g.trt (by decide) hne h
   have h2:(m:Int) * s≤0:=Int.mul_nonpos_of_nonneg_of_nonpos (by omega) (by omega)
   exact ⟨fun h3=>by omega,fun _=>hz.trans h1⟩
theorem floor_mono {ps:List Int} {la lb:List Rat} (hp:∀ p∈ps,0 < p) (hl:la.length=lb.length) {q r:Int} (hqr:r≤q) (h:0≤LN.sz ps (LN.subQ q la lb) * LN.sz ps lb):0≤LN.sz ps (LN.subQ r la lb) * LN.sz ps lb:=by
 have e:=zw_sub q r hl (la:=la) (lb:=lb)
 have hlen:(LN.subQ q la lb).length=(lb.map fun x=>(((q - r:Int)):Rat) * x).length:=by simp [LN.subQ,hl]
 have hm:LN.sz ps (lb.map fun x=>(((q - r:Int)):Rat) * x)=(q - r).sign * LN.sz ps lb:=by
  rw [LN.sz_mul hp,Rat.num_intCast]
 have hn:(q - r).sign=1∨(q - r).sign=0:=by
  rcases sign_cases (q - r) with h | h | h
  ·omega
  ·exact .inr h.2
  ·exact .inl h.2
 rcases szc hp lb with hw | hw | hw
 ·rw [hw] at h hm ⊢
  have:=LN.sz_add_ge hp hlen e (by omega) (by rw [hm]; rcases hn with h | h <;> rw [h] <;> decide)
  omega
 ·rw [hw]; omega
 ·rw [hw] at h hm ⊢
  have:=LN.sz_add_le hp hlen e (by omega) (by rw [hm]; rcases hn with h | h <;> rw [h] <;> decide)
  omega
theorem floor_le {ps:List Int} {la lb:List Rat} (hp:∀ p∈ps,0 < p) (hn:ps.length≤100) (hl:la.length=lb.length) {M:Nat} (hM:0 < M) (da:∀ x∈la,x.den ∣ M) (db:∀ x∈lb,x.den ∣ M) (gb:Good ps lb) {Q:Int}
  (g1:Good ps (LN.subQ Q la lb)) (g2:Good ps (LN.subQ (-Q) la lb)) (hU1:LN.sumT (lf 1024) (tlist M ps la) < Q * ((LN.sumT (lf 1024) (tlist M ps lb)).natAbs:Int)) (hU2 : -(Q * ((LN.sumT (lf 1024) (tlist M ps lb)).natAbs:Int)) < LN.sumT (lf 1024) (tlist M ps la))
  {q:Int} (hf:LN.FloorOf ps la lb q) : -Q - 1≤q∧q < Q:=by
 have dsub:∀ (r:Int),∀ x∈LN.subQ r la lb,x.den ∣ M:=by
  intro r x hx
  unfold LN.subQ at hx
  obtain ⟨i,hi,rfl⟩:=List.mem_iff_getElem.1 hx
  rw [List.getElem_zipWith]
  exact (ex_subI r hM (da _ (List.getElem_mem _)) (db _ (List.getElem_mem _))).1
 obtain ⟨b1,b2⟩:=sz_sumT gb hn hM db
 obtain ⟨c1,c2⟩:=sz_sumT g1 hn hM (dsub Q)
 obtain ⟨d1,d2⟩:=sz_sumT g2 hn hM (dsub (-Q))
 rw [sumT_sub _ _ hM _ _ _ _ hl da db] at c1 c2 d1 d2
 rw [Int.neg_mul] at d1 d2
 generalize LN.sumT (lf 1024) (tlist M ps la)=A at *
 generalize LN.sumT (lf 1024) (tlist M ps lb)=B at *
 have key:LN.sz ps (LN.subQ Q la lb) * LN.sz ps lb < 0∧0≤LN.sz ps (LN.subQ (-Q) la lb) * LN.sz ps lb:=by
  rcases Int.lt_trichotomy B 0 with hB | hB | hB
  ·rw [show ((B.natAbs:Nat):Int) = -B by omega,Int.mul_neg] at hU1 hU2
   rw [b2 hB,c1 (by omega),d2 (by omega)]
   decide
  ·rw [hB] at hU1 hU2
   simp only [Int.natAbs_zero,Int.natCast_zero,Int.mul_zero] at hU1 hU2
   omega
  ·rw [show ((B.natAbs:Nat):Int)=B by omega] at hU1 hU2
   rw [b1 hB,c2 (by omega),d1 (by omega)]
   decide
 refine ⟨Int.not_lt.1 fun h=>?_,Int.not_le.1 fun h=>?_⟩
 ·have h1:=floor_mono hp hl (q := -Q) (r:=q + 1) (by omega) key.2
  have h2:=hf.2
  omega
 ·have h1:=floor_mono hp hl h hf.1
  have h2:=key.1
  omega
/-! The numbers of the law. -/
end Go.Proofs.YtkoicfghplmghaaGreatDoor

namespace Go.Proofs.YtkoicfghplmghaaGreatDoor
open Go.RowKit
theorem elRow:ElemOf Tryz.prog 25 3 (.int .i64 0) 1 8:=⟨Tryz.underlying25,info_parts infoP,rfl,by decide⟩
def OwnI (w:World) (B:Nat) (a:Option Addr) (c:Nat) (l:List Int):Prop:=w.ownsRow B 3 1 (.slice a l.length c) l.length (ints l)
theorem OwnI.rd {w:World} {B c:Nat} {a:Option Addr} {l:List Int} (h:OwnI w B a c l):Rd w a (ints l):=own_rd h
theorem OwnI.below {w w':World} {B c:Nat} {a:Option Addr} {l:List Int} (h:OwnI w B a c l) {D:Nat} (hb:Below D w w') (hD:w.heap.size≤D):OwnI w' B a c l:=own_below h hb hD
theorem OwnI.nil (w:World) (B:Nat):OwnI w B none 0 []:=World.ownsRow_nil w B _ 1
def Xs (xs:List Int):Prop:=∀ x∈xs,-1000≤x∧x≤1000
theorem mx_ok:∀ l:List Int,Xs l→mx l=0
 | [],_=>rfl
 | x :: l,h=>by
  have hx:=h x List.mem_cons_self
  rw [mx,if_neg (by omega)]
  exact mx_ok l fun y hy=>h y (List.mem_cons_of_mem _ hy)
theorem mrow_ok {n:Nat} {l:List Int} (h:Xs l) (hl:l.length=n):mrow n l=0:=by
 unfold mrow
 rw [if_pos hl,mx_ok l h]
theorem mcode_one {ps xs:List Int} (hp:pcode ps=0) (h1:Xs xs) (l1:xs.length=ps.length):mcode1 ps xs=0:=by
 unfold mcode1 mcode
 rw [if_pos hp,mgo,if_pos (mrow_ok h1 l1),mgo]
theorem rdi_two {w:World} {g:Nat} {a1 a2:Option Addr} {c1 c2:Nat} {r s:List Int} {t:TypeId} (h:w.heap[g]?=some (.cells #[.slice a1 r.length c1,.slice a2 s.length c2] t (0,0))) (h1:Rd w a1 (ints r)) (h2:Rd w a2 (ints s)):RdI w (some ⟨g,0,none⟩) [r,s]:=by
 obtain ⟨k0,k1⟩:w.cell? ⟨g,0,none⟩=some (.slice a1 r.length c1)∧w.cell? ⟨g,1,none⟩=some (.slice a2 s.length c2):=⟨by rw [cell_of_row w g 0 _ t (0,0) h]; rfl,by rw [cell_of_row w g 1 _ t (0,0) h]; rfl⟩
 refine .inr ⟨g,0,rfl,(Array.getElem?_eq_some_iff.1 h).1,fun i hi=>?_⟩
 match i,hi with
 | 0,_=>exact ⟨a1,c1,k0,h1⟩
 | 1,_=>exact ⟨a2,c2,k1,h2⟩
theorem monResult_ok (w:World) (ps xs:List Int) (a0 a1:Option Addr) (c0 c1:Nat) (rp:Rd w a0 (ints ps)) (hi:I64s ps) (hp:pcode ps=0) (rx:Rd w a1 (ints xs)) (l1:xs.length=ps.length) (h1:Xs xs) :
  Gives Tryz.prog 186 #[.slice a0 ps.length c0,.slice a1 ps.length c1] w (.tuple #[.slice a1 ps.length c1,.int .i64 0]):=by
 unfold Gives
 have hpos:=pcode_pos hp
 have Hc:Hid (∀ W g,Below w.heap.size w W→W.heap[g]?=some (.cells #[.slice a1 ps.length c1] 25 (0,0))→Gives Tryz.prog 71 #[.slice a0 ps.length c0,.slice (some ⟨g,0,none⟩) 1 1] W (.int .i64 0)):=fun W g hW hg=>by
  have:=monCheckAll_any W a0 _ c0 1 ps [xs] (rp.below hW nr_) hi (by omega) (rdi_one (by rw [l1]; exact hg) (rx.below hW nr_)) (by simp) (by intro l hl'; simp only [List.mem_cons,List.not_mem_nil,or_false] at hl'; subst hl'; omega)
  rw [show mcode ps [xs]=0 from mcode_one hp h1 l1] at this
  exact this
 clear rp hi hp rx l1 h1 hpos
 generalize ps.length=n at *
 have B0:=hd_ ((Below.refl w.heap.size w).alloc nr_ (.cells #[.slice a1 n c1] 25))
 go_enter Tryz.func186,Tryz.ntmps186
 go_wp2_with fail
 refine cm_ (Hc.out _ _ B0.out (Go.heap_alloc_new _ _)) ?_
 rintro e w1 ⟨rfl,hb1⟩
 have Hb1:=hd_ (B0.out.trans (hb1.mono B0.out.size))
 clear hb1 Hc
 go_wp2_with fail
 go_ret2
 exact ⟨rfl,Hb1.out⟩
end Go.Proofs.YtkoicfghplmghaaGreatDoor

namespace Go.Proofs.YtkoicfghplmghaaGreatDoor
open Go.RowKit
end Go.Proofs.YtkoicfghplmghaaGreatDoor

namespace Go.Proofs.YtkoicfghplmghaaGreatDoor
open Go.RowKit
theorem ex_one (x:Int):LN.ex 1 (x:Rat)=x:=by
 unfold LN.ex
 rw [Rat.num_intCast,Rat.den_intCast]
 simp
end Go.Proofs.YtkoicfghplmghaaGreatDoor

namespace Go.Proofs.YtkoicfghplmghaaGreatDoor
open Go.RowKit
theorem isPz_all {n:Int} (h:IsPz n):n∈allP:=by
 obtain ⟨h0,h1⟩:=h
 obtain ⟨m,rfl⟩:=Int.eq_ofNat_of_zero_le h0
 rw [Int.toNat_natCast] at h1
 have key:∀ m,m < 98→IsP m→(m:Int)∈allP:=by decide +kernel
 exact key m (by have:=h1.2.1; omega) h1
theorem pgo_all:∀ (ps:List Int) (prev:Option Int),pgo prev ps=0→(∀ p∈ps,p∈allP)∧ps.Nodup∧∀ m,prev=some m→∀ p∈ps,m < p
 | [],_,_=>⟨by simp,List.nodup_nil,by simp⟩
 | n :: l,prev,h=>by
  unfold pgo at h
  split at h
  ·cases h
  ·rename_i h1
   have h1:IsPz n:=Classical.not_not.1 h1
   split at h
   ·cases h
   ·rename_i h2
    obtain ⟨a,b,c⟩:=pgo_all l (some n) h
    refine ⟨fun p hp=>?_,List.nodup_cons.2 ⟨fun hm=>?_,b⟩,fun m hm p hp=>?_⟩
    ·rcases List.mem_cons.1 hp with rfl | hp
     ·exact isPz_all h1
     ·exact a p hp
    ·exact absurd (c n rfl n hm) (Int.lt_irrefl n)
    ·subst hm
     have h3:m < n:=by simpa using h2
     rcases List.mem_cons.1 hp with rfl | hp
     ·exact h3
     ·exact Int.lt_trans h3 (c n rfl p hp)
theorem allP_le {p:Int} (h:p∈allP):2≤p∧p≤97:=by
 have key:∀ q∈allP,2≤q∧q≤97:=by decide
 exact key p h
structure PrOk (ps:List Int):Prop where
 p0:pcode ps=0
 all:∀ p∈ps,p∈allP
 nd:ps.Nodup
 n0:0 < ps.length
 n6:ps.length≤6
theorem prOk_of {ps:List Int} (h:pcode ps=0):PrOk ps:=by
 have h6:=pcode_pos h
 have h2:pgo none ps=0:=by
  unfold pcode at h
  rw [if_neg (by omega),if_neg (by omega)] at h
  exact h
 obtain ⟨a,b,_⟩:=pgo_all ps none h2
 exact ⟨h,a,b,h6.1,h6.2⟩
theorem PrOk.pr {ps:List Int} (P:PrOk ps):∀ p∈ps,2≤p∧p≤97:=fun p hp=>allP_le (P.all p hp)
theorem PrOk.pos {ps:List Int} (P:PrOk ps):∀ p∈ps,0 < p:=fun p hp=>by have:=P.pr p hp; omega
theorem PrOk.i64 {ps:List Int} (P:PrOk ps):I64s ps:=fun p hp=>by have:=P.pr p hp; omega
def rq (x:List Int):List Rat:=x.map fun x:Int=>(x:Rat)
theorem rq_length (x:List Int):(rq x).length=x.length:=by simp [rq]
def subI (x y:List Int):List Int:=List.zipWith (fun a b=>a - b) x y
theorem subI_length {x y:List Int} (h:x.length=y.length):(subI x y).length=x.length:=by simp [subI,h]
theorem difQ_rq {x y:List Int} (h:x.length=y.length):difQ (rq x) (rq y)=rq (subI x y):=by
 refine List.ext_getElem (by rw [difQ_length _ _ (by simp [rq,h]),rq_length,rq_length,subI_length h]) fun i h1 h2=>?_
 have i1:i < x.length:=by rw [difQ_length _ _ (by simp [rq,h]),rq_length] at h1; exact h1
 rw [difQ_get _ _ i (by rw [rq_length]; exact i1) (by rw [rq_length]; omega)]
 simp only [rq,subI,List.getElem_map,List.getElem_zipWith]
 rw [Rat.intCast_sub]
theorem subQ_rq {x y:List Int} (q:Int):LN.subQ q (rq x) (rq y)=rq (List.zipWith (fun a b=>a - q * b) x y):=by
 unfold LN.subQ rq
 rw [List.zipWith_map,List.map_zipWith]
 congr 1
 funext a b
 rw [Rat.intCast_sub,Rat.intCast_mul]
 grind
def Bd (N:Nat) (x:List Int):Prop:=∀ a∈x,a.natAbs≤N
theorem Bd.le {N K:Nat} {x:List Int} (h:Bd N x) (hK:N≤K):Bd K x:=fun a ha=>Nat.le_trans (h a ha) hK
theorem Bd.sml {N:Nat} {x:List Int} (h:Bd N x):Sml N 1 (rq x):=fun q hq=>by
 obtain ⟨a,ha,rfl⟩:=List.mem_map.1 hq
 refine ⟨by rw [Rat.den_intCast]; exact Nat.dvd_refl 1,?_⟩
 rw [ex_one]
 exact h a ha
theorem Bd.sm {N D:Nat} {x:List Int} (h:Bd N x) (hD:N < 10 ^ D) (h1:1 < 10 ^ D):∀ q∈rq x,Sm D q:=fun q hq=>by
 obtain ⟨a,ha,rfl⟩:=List.mem_map.1 hq
 exact ⟨by rw [Rat.num_intCast]; exact Nat.lt_of_le_of_lt (h a ha) hD,by rw [Rat.den_intCast]; exact h1⟩
theorem Xs.bd {x:List Int} (h:Xs x):Bd 1000 x:=fun a ha=>by have:=h a ha; omega
theorem Bd.sub {N K:Nat} {x y:List Int} (h:Bd N x) (k:Bd K y):Bd (N + K) (subI x y):=fun a ha=>by
 obtain ⟨i,hi,rfl⟩:=List.mem_iff_getElem.1 ha
 have hi':i < x.length∧i < y.length:=by simp [subI] at hi; omega
 simp only [subI,List.getElem_zipWith]
 have h1:=h _ (List.getElem_mem hi'.1)
 have h2:=k _ (List.getElem_mem hi'.2)
 omega
theorem Sml.goodA {N M:Nat} {ps:List Int} {l:List Rat} (hM:0 < M) (h:Sml N M l) (hN:N≤Ke) (P:PrOk ps):Good ps l :=
 Good.all P.all P.nd fun x hx=>Nat.le_trans (h.kb hM x hx) hN
theorem Bd.good {N:Nat} {x ps:List Int} (h:Bd N x) (hN:N≤Ke) (P:PrOk ps):Good ps (rq x):=(h.sml).goodA (by decide) hN P
theorem tden_rq (x:List Int):tden (rq x)=1:=by
 have h:=LN.tden_min (l:=rq x) (D:=1) fun q hq=>by
  obtain ⟨a,_,rfl⟩:=List.mem_map.1 hq
  rw [Rat.den_intCast]; exact Nat.dvd_refl 1
 exact Nat.dvd_one.1 h
def unitI (n:Nat):List Int:=(List.replicate n 0).set 0 1
theorem unitI_length (n:Nat):(unitI n).length=n:=by simp [unitI]
theorem unitI_succ (n:Nat):unitI (n + 1)=1 :: List.replicate n 0:=by simp [unitI,List.replicate_succ]
theorem unitI_bd (n:Nat):Bd 1 (unitI n):=fun a ha=>by
 cases n with
 | zero=>simp [unitI] at ha
 | succ n =>
  rw [unitI_succ] at ha
  rcases List.mem_cons.1 ha with rfl | ha
  ·decide
  ·obtain ⟨_,rfl⟩:=List.mem_replicate.1 ha
   decide
theorem tlist_zeros (D:Nat):∀ (ps:List Int) (n:Nat),tlist D ps (List.replicate n 0)=[]
 | [],_=>by simp [tlist]
 | _ :: _,0=>by simp [tlist]
 | p :: ps,n + 1=>by
  have ih:=tlist_zeros D ps n
  unfold tlist at ih ⊢
  rw [List.replicate_succ,List.zip_cons_cons,List.filterMap_cons]
  simp only [ih]
  rfl
theorem tlQ_unit {p:Int} {r:List Int}:tlQ (p :: r) (rq (unitI (p :: r).length))=[(p,1)]:=by
 have e:rq (unitI (p :: r).length)=1 :: List.replicate r.length 0:=by
  rw [List.length_cons,unitI_succ]
  simp [rq]
 have h1:tden (1 :: List.replicate r.length (0:Rat))=1:=by rw [← e]; exact tden_rq _
 unfold tlQ
 rw [e,h1]
 have h2:=tlist_zeros 1 r r.length
 unfold tlist at h2 ⊢
 rw [List.zip_cons_cons,List.filterMap_cons,h2]
 rw [if_neg (show ¬ (1:Rat).num=0 by decide),show (1:Rat).num * ((1 / (1:Rat).den:Nat):Int)=1 by decide]
theorem allZ:ZeroB allP Ke (2 ^ 521):=fun k hk hK hT=>by
 rw [certL25_eq] at hT
 exact LN.cert25_zero k (by rw [hk,LN.certL25_len]; rfl) hK hT
theorem allP_nd:allP.Nodup:=by decide
def SI:Nat:=2 ^ 1024
theorem certL25_ge:∀ x∈LN.certL25,(SI:Int)≤x:=by decide +kernel
theorem lf_ge {p:Int} (h:p∈allP):(SI:Int)≤((lf 1024 p:Nat):Int):=by
 refine certL25_ge _ ?_
 rw [← certL25_eq]
 exact List.mem_map.2 ⟨p,h,rfl⟩
def XI:Nat:=6 * 2 ^ (10 + (1024 + 3))
def RI:Nat:=50000
theorem xi_num:XI < RI * (SI - 6)∧6 < SI∧1 * 1000 + RI * 1 * 1≤Ke∧1 * 6000 + RI * 1 * 6 < 2 ^ 521:=by decide +kernel
theorem fnum_int {nx S R X T K:Nat} (hx:nx≤6) (h1:6 < S) (h2:X < R * (S - 6)) (h3:1 * 1000 + R * 1 * 1≤K) (h4:1 * 6000 + R * 1 * 6 < T):FNum K T 1000 1 1 1 S R (nx * 1000) (1 * 1) X:=by
 refine ⟨by omega,?_,h3,?_⟩
 ·have c2:R * (S - 6)≤R * (S - 1 * 1):=Nat.mul_le_mul_left _ (by omega)
  clear h3 h4
  omega
 ·clear h2 h3; omega
theorem xi_bound {tl:List (Int×Int)} (hp:PrT tl) (hl:tl.length≤6) (hk:∀ x∈tl,x.2.natAbs < 2 ^ 10):(LN.eLo (lf 1024) tl).natAbs≤XI∧(LN.eHi (lf 1024) tl).natAbs≤XI:=by
 obtain ⟨h1,h2⟩:=eSum_le (n:=1024) (by decide) tl hp hk
 unfold XI
 have h3:=@Nat.mul_le_mul_right tl.length 6 (2 ^ (10 + (1024 + 3))) hl
 exact ⟨Nat.le_trans h1 h3,Nat.le_trans h2 h3⟩
theorem unit_nz {n:Nat} (h:0 < n):∃ q∈rq (unitI n),q≠0:=by
 obtain ⟨m,rfl⟩:∃ m,n=m + 1:=⟨n - 1,by omega⟩
 rw [unitI_succ]
 exact ⟨1,by simp [rq],by decide⟩
theorem sumT_unit {ps:List Int} (P:PrOk ps):SI≤(LN.sumT (lf 1024) (tlQ ps (rq (unitI ps.length)))).natAbs:=by
 have hn:=P.n0
 match ps,P,hn with
 | p :: r,P,_ =>
  rw [tlQ_unit]
  have h:=lf_ge (P.all p List.mem_cons_self)
  have e:LN.sumT (lf 1024) [(p,1)]=((lf 1024 p:Nat):Int):=by
   show (1:Int) * ((lf 1024 p:Nat):Int) + 0=_
   rw [Int.one_mul,Int.add_zero]
  rw [e,Int.natAbs_natCast]
  exact Int.ofNat_le.1 h
theorem flr_unit {ps x:List Int} (P:PrOk ps) (hl:x.length=ps.length) (hx:Xs x):FlrOk ps (rq x) (rq (unitI ps.length)) 10:=by
 have h6:=P.n6
 have kx:∀ t∈tlQ ps (rq x),t.2.natAbs≤1000:=(hx.bd.sml).kb (by decide)
 have kx':∀ t∈tlQ ps (rq x),t.2.natAbs < 2 ^ 10:=fun t ht=>Nat.lt_of_le_of_lt (kx t ht) (by decide)
 have ky:∀ t∈tlQ ps (rq (unitI ps.length)),t.2.natAbs≤1:=((unitI_bd _).sml).kb (by decide)
 have ky':∀ t∈tlQ ps (rq (unitI ps.length)),t.2.natAbs < 2 ^ 10:=fun t ht=>Nat.lt_of_le_of_lt (ky t ht) (by decide)
 have l1:(rq x).length=ps.length:=by rw [rq_length,hl]
 have l2:(rq (unitI ps.length)).length=ps.length:=by rw [rq_length,unitI_length]
 have hnz:=unit_nz P.n0
 have hne:=tlQ_ne l2 hnz
 have hly:(tlQ ps (rq (unitI ps.length))).length=1:=by
  have hn:=P.n0
  match ps,hn with
  | p :: r,_=>rw [tlQ_unit]; rfl
 refine ⟨P.all,h6,kx',ky',by rw [tden_rq]; decide,by rw [tden_rq]; decide,by decide,sz_ne ((unitI_bd _).good (by decide) P) (by omega) l2 hnz,fun hr=>?_⟩
 obtain ⟨n1,n2,n3,n4⟩:=xi_num
 refine flAt_dec (R:=RI) (X:=XI) (Kx:=1000) (Ky:=1) allP_nd allZ P.all P.nd l1 l2 kx ky hne (sumT_unit P) ?_ (xi_bound (fun t ht=>allP_pr (P.all _ (tlist_mem ht).1)) (tlQ_len6 h6 _) kx') hr
 rw [tden_rq,tden_rq,hly]
 exact fnum_int (tlQ_len6 h6 _) n2 n1 n3 n4
theorem floor_unit_ex {ps x:List Int} (P:PrOk ps) (hl:x.length=ps.length) (hx:Xs x):∃ q,LN.FloorOf ps (rq x) (rq (unitI ps.length)) q :=
 (flr_unit P hl hx).exists (by rw [rq_length,hl]) (by rw [rq_length,unitI_length])
noncomputable def flU (ps x:List Int):Int:=@Classical.epsilon Int ⟨0⟩ fun q=>LN.FloorOf ps (rq x) (rq (unitI ps.length)) q
theorem flU_of {ps x:List Int} (P:PrOk ps) (hl:x.length=ps.length) (hx:Xs x):LN.FloorOf ps (rq x) (rq (unitI ps.length)) (flU ps x):=Classical.epsilon_spec (floor_unit_ex P hl hx)
theorem flU_eq {ps x:List Int} (P:PrOk ps) (hl:x.length=ps.length) (hx:Xs x) {q:Int} (hq:LN.FloorOf ps (rq x) (rq (unitI ps.length)) q):flU ps x=q :=
 floor_one P.pos (by rw [rq_length,rq_length,unitI_length,hl]) (flU_of P hl hx) hq
theorem qi_num:100000 * 1 + 1000≤Ke∧XI < 100000 * SI:=by decide +kernel
theorem flU_le {ps x:List Int} (P:PrOk ps) (hl:x.length=ps.length) (hx:Xs x) : -100001≤flU ps x∧flU ps x < 100000:=by
 have l1:(rq x).length=ps.length:=by rw [rq_length,hl]
 have l2:(rq (unitI ps.length)).length=ps.length:=by rw [rq_length,unitI_length]
 have h6:=P.n6
 obtain ⟨n1,n2⟩:=qi_num
 have gl:∀ z:Int,z.natAbs≤100000→Good ps (LN.subQ z (rq x) (rq (unitI ps.length))):=fun z hz=>by
  rw [subQ_rq]
  refine Bd.good (N:=101000) (fun a ha=>?_) (by decide) P
  obtain ⟨i,hi,rfl⟩:=List.mem_iff_getElem.1 ha
  have hi':i < x.length∧i < (unitI ps.length).length:=by simp at hi; omega
  rw [List.getElem_zipWith]
  have b1:=hx _ (List.getElem_mem hi'.1)
  have b2:=unitI_bd _ _ (List.getElem_mem hi'.2)
  have b3:(z * (unitI ps.length)[i]'hi'.2).natAbs≤100000 * 1:=by rw [Int.natAbs_mul]; exact Nat.mul_le_mul hz b2
  omega
 have kx:∀ t∈tlQ ps (rq x),t.2.natAbs≤1000:=(hx.bd.sml).kb (by decide)
 obtain ⟨s1,s2⟩:=xi_bound (tl:=tlQ ps (rq x)) (fun t ht=>allP_pr (P.all _ (tlist_mem ht).1)) (tlQ_len6 h6 _) fun t ht=>Nat.lt_of_le_of_lt (kx t ht) (by decide)
 obtain ⟨y1,y2,_,_⟩:=ends_near (lf 1024) 1000 _ kx
 have far:=sumT_unit P
 have hmul:100000 * SI≤100000 * (LN.sumT (lf 1024) (tlQ ps (rq (unitI ps.length)))).natAbs:=Nat.mul_le_mul_left _ far
 have h:=floor_le (ps:=ps) (la:=rq x) (lb:=rq (unitI ps.length)) P.pos (by omega) (l1.trans l2.symm) (M:=1) (by decide) (fun q hq=>(hx.bd.sml q hq).1) (fun q hq=>((unitI_bd _).sml q hq).1) ((unitI_bd _).good (by decide) P) (Q:=100000)
  (gl _ (by decide)) (gl _ (by decide)) ?_ ?_ (flU_of P hl hx)
 ·omega
 ·rw [show tlist 1 ps (rq x)=tlQ ps (rq x) by unfold tlQ; rw [tden_rq],show tlist 1 ps (rq (unitI ps.length))=tlQ ps (rq (unitI ps.length)) by unfold tlQ; rw [tden_rq]]
  generalize LN.sumT (lf 1024) (tlQ ps (rq (unitI ps.length)))=B at *
  generalize LN.sumT (lf 1024) (tlQ ps (rq x))=A at *
  generalize LN.eHi (lf 1024) (tlQ ps (rq x))=eh at *
  omega
 ·rw [show tlist 1 ps (rq x)=tlQ ps (rq x) by unfold tlQ; rw [tden_rq],show tlist 1 ps (rq (unitI ps.length))=tlQ ps (rq (unitI ps.length)) by unfold tlQ; rw [tden_rq]]
  generalize LN.sumT (lf 1024) (tlQ ps (rq (unitI ps.length)))=B at *
  generalize LN.sumT (lf 1024) (tlQ ps (rq x))=A at *
  generalize LN.eLo (lf 1024) (tlQ ps (rq x))=el at *
  omega
end Go.Proofs.YtkoicfghplmghaaGreatDoor
