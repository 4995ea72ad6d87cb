/- Lemmas for the laws of this seat, part 4. -/
import Derived.Lib.SmallJoins
import Derived.BigQuiet
import Derived.Laws.BitsLemmas
import Derived.WalkMore
import Derived.Scope
import Derived.Deep.OwnRows
import Derived.Test.YtlomhfknmhaboaaGreatDoorMt3
namespace Go.Proofs.YtlomhfknmhaboaaGreatDoor
open Go.RowKit
def GivesC (f:FuncId) (args:Array Value) (w:World) (code:Int) (l:List Rat):Prop :=
 Calls Tryz.prog f args w fun e w'=>∃ a c,e = .returned (.tuple #[.slice a (if code=0 then l.length else 0) c,.int .i64 code])∧(code=0→Rd w' a (cellsQ l))∧Below w.heap.size w w'
def sumCode (l:List Rat):Int:=if shortAll l=true then 0 else 4
theorem GivesSum.code {f:FuncId} {args:Array Value} {w:World} {l:List Rat} (h:GivesSum f args w l):GivesC f args w (sumCode l) l:=by
 unfold GivesSum at h
 unfold GivesC sumCode
 by_cases hs:shortAll l=true
 ·rw [if_pos hs] at h ⊢
  refine Calls.mono h ?_
  rintro e w' ⟨a,c,rfl,hr,hb⟩
  exact ⟨a,c,rfl,fun _=>hr,hb⟩
 ·rw [if_neg hs] at h ⊢
  refine Calls.mono h ?_
  rintro e w' ⟨rfl,hb⟩
  exact ⟨none,0,rfl,fun h4=>absurd h4 (by decide),hb⟩
theorem GivesErr.code {f:FuncId} {args:Array Value} {w:World} {code:Int} (hc:code≠0) (l:List Rat) (h:GivesErr f args w code):GivesC f args w code l:=by
 unfold GivesC
 rw [if_neg hc]
 refine Calls.mono h ?_
 rintro e w' ⟨rfl,hb⟩
 exact ⟨none,0,rfl,fun h4=>absurd h4 hc,hb⟩
theorem GivesC.lower {f:FuncId} {args:Array Value} {w:World} {code:Int} {l:List Rat} (h:GivesC f args w code l):∃ z:Nat,Calls Tryz.prog f args w fun e w'=>∃ a c,e = .returned (.tuple #[.slice a z c,.int .i64 code])∧(code=0→Rd w' a (cellsQ l))∧Below w.heap.size w w':=⟨_,h⟩
set_option maxRecDepth 100000 in
set_option maxHeartbeats 8000000 in
theorem add_gen (w:World) (ps:List Int) (a0 a1 a2:Option Addr) (c0 c1 c2:Nat) (la lb:List Rat) (rp:Rd w a0 (ints ps)) (hi:I64s ps) (hp:pcode ps=0) (r1:Rd w a1 (cellsQ la)) (r2:Rd w a2 (cellsQ lb)) (l1:la.length=ps.length) (l2:lb.length=ps.length)
  (s1:∀ q∈la,Sm 30 q) (s2:∀ q∈lb,Sm 30 q) (L:Laid w) :
  GivesC 22 #[.slice a0 ps.length c0,.slice a1 la.length c1,.slice a2 lb.length c2] w (sumCode (sumQ ps.length [la,lb] [1,((1:Int):Rat)])) (sumQ ps.length [la,lb] [1,((1:Int):Rat)]):=by
 obtain ⟨u,hu⟩:∃ q:Rat,q=1:=⟨_,rfl⟩
 obtain ⟨v,hv⟩:∃ q:Rat,q=((1:Int):Rat):=⟨_,rfl⟩
 rw [← hv,← hu]
 have Hc:Hid (∀ W g1 g2,Below w.heap.size w W→W.heap[g1]?=some (.cells #[.slice a1 la.length c1,.slice a2 lb.length c2] 34 (0,0))→W.heap[g2]?=some (.cells #[.string (itx u.num),.string (dec u.den),.string (itx v.num),.string (dec v.den)] 30 (0,0)) →
   GivesC 16 #[.slice a0 ps.length c0,.slice (some ⟨g1,0,none⟩) 2 2,.slice (some ⟨g2,0,none⟩) 2 2] W (sumCode (sumQ ps.length [la,lb] [u,v])) (sumQ ps.length [la,lb] [u,v])):=fun W g1 g2 hW h1 h2 =>
  (combine_fine W a0 _ _ c0 2 2 ps [la,lb] [u,v] (rp.below hW nr_) hi hp (rdl_two (l1:=la.map qs) (l2:=lb.map qs) (by rw [List.length_map,List.length_map]; exact h1) (r1.below hW nr_) (r2.below hW nr_)) (by simp)
   (by intro l hl; simp only [List.mem_cons,List.not_mem_nil,or_false] at hl; rcases hl with rfl | rfl; exact ⟨l1,s1⟩; exact ⟨l2,s2⟩) (rd_obj h2) rfl
   (by intro q hq; simp only [List.mem_cons,List.not_mem_nil,or_false] at hq; rcases hq with rfl | rfl; subst hu; exact Sm.le (D:=1) ⟨by decide +kernel,by decide +kernel⟩ (by decide); subst hv; exact Sm.le (D:=2) ⟨by decide +kernel,by decide +kernel⟩ (by decide)) (L.below hW)).code
 have N1:Hid (∀ W,Below w.heap.size w W→Gives Tryz.prog 65 #[.int .i64 1] W (fr u)):=fun W hW=>by subst hu; exact numberR W 1 (by decide) (by decide) (L.below hW)
 have N2:Hid (∀ W,Below w.heap.size w W→Gives Tryz.prog 65 #[.int .i64 1] W (fr v)):=fun W hW=>by subst hv; exact numberR W 1 (by decide) (by decide) (L.below hW)
 unfold fr fv at N1 N2
 unfold GivesC at Hc ⊢
 clear hu hv rp hi hp r1 r2 l1 l2 s1 s2 L
 generalize sumQ ps.length [la,lb] [u,v]=S at *
 generalize sumCode S=code at *
 generalize (if code=0 then S.length else 0)=z at *
 generalize ps.length=n at *
 generalize la.length=na at *
 generalize lb.length=nb at *
 have B0:=Lib.hid ((Below.refl w.heap.size w).alloc nr_ (.cells #[.slice a1 na c1,.slice a2 nb c2] 34))
 have K0:=Lib.hid (heap_at w #[.slice a1 na c1,.slice a2 nb c2] 34 _ rfl)
 go_enter Tryz.func22,Tryz.ntmps22
 go_wp2_with fail
 generalize w.alloc (.cells #[.slice a1 na c1,.slice a2 nb c2] 34)=w0 at *
 refine Calls.mono (N1.out _ B0.out) ?_
 rintro e w1 ⟨rfl,hb⟩
 have B1:=Lib.hid (B0.out.trans (hb.mono B0.out.size))
 have K1:=Lib.hid (heap_kept K0.out hb nr_)
 clear hb B0 K0
 go_wp2_with fail
 refine Calls.mono (N2.out _ B1.out) ?_
 rintro e w2 ⟨rfl,hb⟩
 have B2:=Lib.hid (B1.out.trans (hb.mono B1.out.size))
 have K2:=Lib.hid (heap_kept K1.out hb nr_)
 clear hb B1 K1 N1 N2
 go_wp2_with fail
 have B3:=Lib.hid (B2.out.alloc B2.out.size (.cells #[.string (itx u.num),.string (dec u.den),.string (itx v.num),.string (dec v.den)] 30))
 have K3:=Lib.hid (heap_old K2.out (.cells #[.string (itx u.num),.string (dec u.den),.string (itx v.num),.string (dec v.den)] 30))
 have M3:=Lib.hid (heap_at w2 #[.string (itx u.num),.string (dec u.den),.string (itx v.num),.string (dec v.den)] 30 _ rfl)
 generalize w2.alloc (.cells #[.string (itx u.num),.string (dec u.den),.string (itx v.num),.string (dec v.den)] 30)=w3 at *
 refine Calls.mono (Hc.out _ _ _ B3.out K3.out M3.out) ?_
 rintro e w4 ⟨a,c,rfl,hr,hb⟩
 have Hr:=Lib.hid hr
 have B4:=Lib.hid (B3.out.trans (hb.mono B3.out.size))
 clear hr hb Hc B2 K2 B3 K3 M3
 go_wp2_with fail
 go_ret2
 exact ⟨a,c,rfl,Hr.out,B4.out⟩
end Go.Proofs.YtlomhfknmhaboaaGreatDoor

namespace Go.Proofs.YtlomhfknmhaboaaGreatDoor
open Go.RowKit
end Go.Proofs.YtlomhfknmhaboaaGreatDoor

namespace Go.Proofs.YtlomhfknmhaboaaGreatDoor
open Go.RowKit
theorem rdq_at {w wr:World} {a:Option Addr} {l:List Rat} {B:Nat} (h:Rd w a (cellsQ l)) (hb:Below B w wr) (hB:w.heap.size≤B) (k:Nat) (hk:k < l.length) :
  ∃ b off,a=some ⟨b,off,none⟩∧wr.cell? ⟨b,off + k * 2,none⟩=some (.string (itx l[k].num))∧wr.cell? ⟨b,off + k * 2 + 1,none⟩=some (.string (dec l[k].den)):=by
 obtain ⟨b,off,rfl,hbl,hcells⟩:=h.open (by rw [cellsQ_length]; omega)
 obtain ⟨x0,x1⟩:=cellsS_rd hcells k (by rw [List.length_map]; exact hk)
 rw [← hb.cell (p:=⟨b,off + k * 2,none⟩) (Nat.lt_of_lt_of_le hbl hB),qs_getD _ k hk] at x0
 rw [← hb.cell (p:=⟨b,off + k * 2 + 1,none⟩) (Nat.lt_of_lt_of_le hbl hB),qs_getD _ k hk] at x1
 exact ⟨b,off,rfl,x0,x1⟩
end Go.Proofs.YtlomhfknmhaboaaGreatDoor

namespace Go.Proofs.YtlomhfknmhaboaaGreatDoor
open Go.RowKit Go.Proofs.YtlomhfknmhaboaaGreatDoor.RT
def combineQ (la lb:List Rat) (k m:Rat):List Rat:=List.zipWith (fun x y=>x * k + y * m) la lb
theorem combineQ_length (la lb:List Rat) (k m:Rat) (h:la.length=lb.length):(combineQ la lb k m).length=la.length:=by simp [combineQ,h]
theorem combineQ_succ (la lb:List Rat) (k m:Rat) (j:Nat) (h1:j < la.length) (h2:j < lb.length) :
  combineQ (la.take (j + 1)) (lb.take (j + 1)) k m=combineQ (la.take j) (lb.take j) k m ++ [la[j] * k + lb[j] * m]:=by
 unfold combineQ
 rw [List.take_add_one,List.take_add_one,List.getElem?_eq_getElem h1,List.getElem?_eq_getElem h2]
 rw [List.zipWith_append (by simp; omega)]
 rfl
theorem shortAll_append (l:List Rat) (x:Rat):shortAll (l ++ [x])=(shortAll l && decide (shortQ x)):=by simp [shortAll]
set_option maxRecDepth 100000 in
set_option maxHeartbeats 32000000 in
theorem law_combine (w:World) (a1 a2:Option Addr) (c1 c2:Nat) (la lb:List Rat) (k m:Rat) (r1:Rd w a1 (cellsQ la)) (r2:Rd w a2 (cellsQ lb)) (hl:lb.length=la.length) (hn:la.length≤1000)
  (s1:∀ q∈la,Sm 400 q) (s2:∀ q∈lb,Sm 400 q) (sk:Sm 400 k) (sm:Sm 400 m) (L:Laid w) :
  Calls Tryz.prog 17 #[.slice a1 la.length c1,.slice a2 la.length c2,fr k,fr m] w fun e w'=>∃ a c,e = .returned (.tuple #[.slice a la.length c,.bool (shortAll (combineQ la lb k m))])∧OwnQ w' w.heap.size a c (combineQ la lb k m)∧Below w.heap.size w w':=by
 have HL:=Lib.hid L
 have R1:=Lib.hid r1
 have R2:=Lib.hid r2
 have Hl:=Lib.hid hl
 have S1:=Lib.hid s1
 have S2:=Lib.hid s2
 have Sk:=Lib.hid sk
 have Sm':=Lib.hid sm
 have Hlen:Hid (∀ j,j≤la.length→(combineQ (la.take j) (lb.take j) k m).length=j):=fun j hj=>by rw [combineQ_length _ _ _ _ (by simp; omega)]; simp; omega
 have Hfull:Hid (combineQ (la.take la.length) (lb.take la.length) k m=combineQ la lb k m):=by show _=_; rw [List.take_length,← hl,List.take_length]
 clear L r1 r2 hl s1 s2 sk sm
 obtain ⟨n,hnn⟩:∃ n,la.length=n:=⟨_,rfl⟩
 rw [hnn] at hn Hlen Hfull ⊢
 have Hn:=Lib.hid hnn
 clear hnn
 have B0:=Lib.hid ((((Below.refl w.heap.size w).alloc nr_ (.cells #[.string (itx k.num),.string (dec k.den)] 30)).alloc (by simp) (.cells #[.string (itx m.num),.string (dec m.den)] 30)).alloc (by simp; omega) (.cells #[] 30))
 have K0:=Lib.hid (heap_old (heap_old (heap_at w #[.string (itx k.num),.string (dec k.den)] 30 _ rfl) (.cells #[.string (itx m.num),.string (dec m.den)] 30)) (.cells #[] 30))
 have M0:=Lib.hid (heap_old (heap_at (w.alloc (.cells #[.string (itx k.num),.string (dec k.den)] 30)) #[.string (itx m.num),.string (dec m.den)] 30 (w.heap.size + 1) (by simp)) (.cells #[] 30))
 have O0:Hid (OwnQ (((w.alloc (.cells #[.string (itx k.num),.string (dec k.den)] 30)).alloc (.cells #[.string (itx m.num),.string (dec m.den)] 30)).alloc (.cells #[] 30)) (w.heap.size + 2) (some ⟨w.heap.size + 1 + 1,0,none⟩) 0 []):=by
  have:=own_madeS ((w.alloc (.cells #[.string (itx k.num),.string (dec k.den)] 30)).alloc (.cells #[.string (itx m.num),.string (dec m.den)] 30)) [] (by simp)
  rw [World.size_alloc,World.size_alloc] at this
  exact this
 unfold fr fv
 go_enter Tryz.func17,Tryz.ntmps17
 go_wp2_with fail
 generalize ((w.alloc (.cells #[.string (itx k.num),.string (dec k.den)] 30)).alloc (.cells #[.string (itx m.num),.string (dec m.den)] 30)).alloc (.cells #[] 30)=W0 at *
 go_loopw [10,11,12] (fun ou ok i wr=>∃ (j:Nat) (b:Option Addr) (d:Nat),j≤n∧i = .int .i64 j∧ok = .bool (shortAll (combineQ (la.take j) (lb.take j) k m))∧ou = .slice b j d∧Hid (wr.heap[w.heap.size]?=some (.cells #[.string (itx k.num),.string (dec k.den)] 30 (0,0)))∧Hid (wr.heap[w.heap.size + 1]?=some (.cells #[.string (itx m.num),.string (dec m.den)] 30 (0,0)))∧Hid (OwnQ wr (w.heap.size + 2) b d (combineQ (la.take j) (lb.take j) k m))∧Hid (Below w.heap.size w wr)) (fun _ _ i _=>n - (intOf i).toNat)
 case atStart=>exact ⟨0,_,_,Nat.zero_le _,rfl,rfl,rfl,K0,M0,O0,B0⟩
 case round =>
  clear B0 K0 M0 O0
  obtain ⟨j,b,d,hj,rfl,rfl,rfl,K,M,O,B⟩:=hrel
  by_cases hlt:j < n
  ·have hlt':(j:Int) < n:=by omega
   have g1:j < la.length:=by rw [Hn.out]; exact hlt
   have g2:j < lb.length:=by rw [Hl.out,Hn.out]; exact hlt
   obtain ⟨bx,ox,rfl,x0,x1⟩:=rdq_at R1.out B.out nr_ j g1
   obtain ⟨by',oy,rfl,y0,y1⟩:=rdq_at R2.out B.out nr_ j g2
   have Hsucc:=Lib.hid (combineQ_succ la lb k m j g1 g2)
   have Hlj:=Lib.hid (Hlen.out j hj)
   have sx:=S1.out _ (List.getElem_mem g1)
   have sy:=S2.out _ (List.getElem_mem g2)
   have HM1:Hid (∀ W,Below wr.heap.size wr W→Gives Tryz.prog 35 #[fr la[j],fr k] W (fr (la[j] * k))):=fun W hW=>mulR W _ _ 400 400 sx Sk.out (by decide) (HL.out.below (B.out.trans (hW.mono B.out.size)))
   have HM2:Hid (∀ W,Below wr.heap.size wr W→Gives Tryz.prog 35 #[fr lb[j],fr m] W (fr (lb[j] * m))):=fun W hW=>mulR W _ _ 400 400 sy Sm'.out (by decide) (HL.out.below (B.out.trans (hW.mono B.out.size)))
   have HA:Hid (∀ W,Below wr.heap.size wr W→Gives Tryz.prog 60 #[fr (la[j] * k),fr (lb[j] * m)] W (fr (la[j] * k + lb[j] * m))):=fun W hW=>addR W _ _ 800 800 (Sm.mul sx Sk.out) (Sm.mul sy Sm'.out) (by decide) (HL.out.below (B.out.trans (hW.mono B.out.size)))
   have HSh:=Lib.hid (fun W=>lshort_any W (la[j] * k + lb[j] * m))
   unfold fr fv at HM1 HM2 HA HSh
   clear sx sy
   generalize la[j] * k + lb[j] * m=q at *
   generalize la[j] * k=qa at *
   generalize lb[j] * m=qb at *
   generalize la[j]=xa at *
   generalize lb[j]=xb at *
   generalize combineQ (la.take j) (lb.take j) k m=S at *
   have hnon:Nonempty (BW wr):=⟨⟨wr,Below.refl _ _⟩⟩
   obtain ⟨k0,k1,-,-⟩:=two_cells K.out
   obtain ⟨m0,m1,-,-⟩:=two_cells M.out
   have q0:=BW.cell x0
   have q1:=BW.cell x1
   have q2:=BW.cell y0
   have q3:=BW.cell y1
   have q4:=BW.cell k0
   have q5:=BW.cell k1
   have q6:=BW.cell m0
   have q7:=BW.cell m1
   have HJ:=Lib.hid hlt
   have I:Hid (Below wr.heap.size wr wr.drew):=(Below.refl wr.heap.size wr).drew
   go_wp2_with fail
   clear x0 x1 y0 y1 k0 k1 m0 m1
   refine wp_region_tree 14 (.rd 1 0 (.rd 1 1 (.rd 1 2 (.rd 1 3 (.rd 1 4 (.rd 1 6 (.rd 1 7 (.rd 1 8 (.rd 1 9 (.rd 1 10 (.two 5 13 (.two 11 13 (.two 12 13 (.mv 13 (.mv 14 .nil)) (.mv 12 (.mv 14 .nil))) (.mv 11 (.mv 12 (.mv 14 .nil)))) (.mv 5 (.mv 11 (.mv 12 (.mv 14 .nil))))))))))))))) (fun w'=>∃ p:BW wr,w'=p.w) (by kernel_rfl) (by kernel_rfl) ?_ ?_
   ·exact ⟨⟨_,I.out⟩,rfl⟩
   iterate 10 (refine walkT_read ?_; simp only [dsc_,dz_,tsc_,tz_]; go_big_quiet_step (fail); refine wpQuiet_nil ?_)
   clear q0 q1 q2 q3 q4 q5 q6 q7 hnon
   refine walkT_two ?_ ?_
   ·simp only [dsc_,dz_,tsc_,tz_]
    go_wp2_with fail
    refine Calls.mono (HM1.out _ I.out) ?_
    rintro e_ w1 ⟨rfl,hb_⟩
    have W_w1:Hid (Below wr.heap.size wr w1):=(Below.refl wr.heap.size wr).drew.trans hb_
    clear hb_
    go_wp2_with fail
    refine ⟨⟨⟨_,W_w1.out⟩,rfl⟩,?_⟩
    refine walkT_two ?_ ?_
    ·simp only [dsc_,dz_,tsc_,tz_]
     go_wp2_with fail
     refine Calls.mono (HM2.out _ W_w1.out) ?_
     rintro e_ w2 ⟨rfl,hb_⟩
     have W_w2:=Lib.hid (W_w1.out.trans (hb_.mono W_w1.out.size))
     clear hb_
     go_wp2_with fail
     refine ⟨⟨⟨_,W_w2.out⟩,rfl⟩,?_⟩
     refine walkT_two ?_ ?_
     ·simp only [dsc_,dz_,tsc_,tz_]
      go_wp2_with fail
      refine Calls.mono (HA.out _ W_w2.out) ?_
      rintro e_ w3 ⟨rfl,hb_⟩
      have W_w3:=Lib.hid (W_w2.out.trans (hb_.mono W_w2.out.size))
      clear hb_
      go_wp2_with fail
      refine ⟨⟨⟨_,W_w3.out⟩,rfl⟩,?_⟩
      refine walkT_move ?_
      simp only [dsc_,dz_,tsc_,tz_]
      go_wp2_with fail
      have W_w4:=Lib.hid (W_w3.out.alloc W_w3.out.size (.cells #[.string ⟨#[]⟩,.string ⟨#[]⟩] 30))
      have N_w4:=Lib.hid (heap_at w3 #[.string ⟨#[]⟩,.string ⟨#[]⟩] 30 _ rfl)
      have Hg_w4:Hid (wr.heap.size≤w3.heap.size):=W_w3.out.size
      generalize w3.alloc (.cells #[.string ⟨#[]⟩,.string ⟨#[]⟩] 30)=w4 at *
      refine ⟨⟨⟨_,W_w4.out⟩,rfl⟩,?_⟩
      refine walkT_move ?_
      simp only [dsc_,dz_,tsc_,tz_]
      obtain ⟨n0,n1,f0,f1⟩:=two_cells N_w4.out
      go_wp2_with fail
      have W9:=Lib.hid ((W_w4.out.setCell (p:=⟨w3.heap.size,0,none⟩) Hg_w4.out (.string (itx q.num))).setCell (p:=⟨w3.heap.size,1,none⟩) Hg_w4.out (.string (dec q.den)))
      have N9:=Lib.hid (obj_pair N_w4.out (.string (itx q.num)) (.string (dec q.den)))
      clear n0 n1 f0 f1
      generalize (w4.setCell ⟨w3.heap.size,0,none⟩ (.string (itx q.num))).setCell ⟨w3.heap.size,1,none⟩ (.string (dec q.den))=w9 at *
      generalize w3.heap.size=g9 at *
      simp only [walkT]
      have B9:=Lib.hid (B.out.trans (W9.out.mono B.out.size))
      have K9:=Lib.hid (heap_kept K.out W9.out nr_)
      have M9:=Lib.hid (heap_kept M.out W9.out nr_)
      have O9:=Lib.hid (O.out.below W9.out nr_)
      obtain ⟨n0,n1,-,-⟩:=two_cells N9.out
      by_cases hz:shortAll S=true
      ·rw [hz]
       have Hz:=Lib.hid hz
       clear hz
       go_wp2_with fail
       refine Calls.mono (HSh.out _) ?_
       rintro e_ w10 ⟨rfl,hb_⟩
       have B10:=Lib.hid (B9.out.trans (hb_.mono B9.out.size))
       have K10:=Lib.hid (heap_kept K9.out hb_ nr_)
       have M10:=Lib.hid (heap_kept M9.out hb_ nr_)
       have O10:=Lib.hid (O9.out.below hb_ nr_)
       have N10:=Lib.hid (heap_kept N9.out hb_ nr_)
       clear hb_ n0 n1
       obtain ⟨n0,n1,-,-⟩:=two_cells N10.out
       have Ow:Hid (w10.ownsRow (w.heap.size + 2) 30 2 (.slice b j d) j (cellsQ S)):=by
        have:=ownS_own O10.out
        rw [Hlj.out] at this
        exact this
       have hsz:w.heap.size + 2≤w10.heap.size:=Nat.succ_le_of_lt (Array.getElem?_eq_some_iff.1 M10.out).1
       go_wp2_with (at_builtin; refine wpList_append_new rfl (.tmp 45) (.tmp 47) 34 rfl elQ _ 1 [.string (itx q.num),.string (dec q.den)] rfl rfl Ow.out hsz rfl (by simp [Value.oneCell']) (by omega) (by omega) ?_)
       intro v' w12 hown12 hg12 hnil12
       have hlow:∀ i,i < w.heap.size + 2→w12.heap[i]?=w10.heap[i]?:=fun i hi=>by
        rw [hg12.block i (by simp; omega) (fun e=>by have:=(Ow.out.lt i e.symm).1; omega)]
        exact ((Below.refl w10.heap.size w10).alloc nr_ _).block i (by omega)
       have K12:=Lib.hid ((hlow _ (by omega)).trans K10.out)
       have M12:=Lib.hid ((hlow _ (by omega)).trans M10.out)
       have B12:Hid (Below w.heap.size w w12):=(B10.out.alloc B10.out.size _).grown hg12 (by simp; omega) (fun i hi=>by have:=(Ow.out.lt i hi).1; omega)
       obtain ⟨b12,d12,rfl⟩:=own_form hown12
       have O12:Hid (OwnQ w12 (w.heap.size + 2) b12 d12 (S ++ [q])):=by
        refine own_ownQ ?_
        rw [List.length_append,Hlj.out]
        unfold cellsQ
        rw [List.map_append,cellsS_append]
        exact hown12
       clear hown12 hg12 hnil12 hlow Ow hsz
       go_wp2_with fail
       go_roundw
       case rel=>exact ⟨j + 1,b12,d12,HJ.out,by go_num,by rw [Hsucc.out,shortAll_append,Hz.out]; rfl,rfl,K12,M12,by rw [Hsucc.out]; exact O12,B12⟩
       case measure=>simp [intOf]; omega
      ·have Hz:Hid (shortAll S=false):=by show _=_; simpa using hz
       rw [Hz.out]
       clear hz
       obtain ⟨w10,hw10⟩:∃ x:World,x=w9:=⟨_,rfl⟩
       subst hw10
       have Ow:Hid (w10.ownsRow (w.heap.size + 2) 30 2 (.slice b j d) j (cellsQ S)):=by
        have:=ownS_own O9.out
        rw [Hlj.out] at this
        exact this
       have hsz:w.heap.size + 2≤w10.heap.size:=Nat.succ_le_of_lt (Array.getElem?_eq_some_iff.1 M9.out).1
       go_wp2_with (at_builtin; refine wpList_append_new rfl (.tmp 45) (.tmp 47) 34 rfl elQ _ 1 [.string (itx q.num),.string (dec q.den)] rfl rfl Ow.out hsz rfl (by simp [Value.oneCell']) (by omega) (by omega) ?_)
       intro v' w12 hown12 hg12 hnil12
       have hlow:∀ i,i < w.heap.size + 2→w12.heap[i]?=w10.heap[i]?:=fun i hi=>by
        rw [hg12.block i (by simp; omega) (fun e=>by have:=(Ow.out.lt i e.symm).1; omega)]
        exact ((Below.refl w10.heap.size w10).alloc nr_ _).block i (by omega)
       have K12:=Lib.hid ((hlow _ (by omega)).trans K9.out)
       have M12:=Lib.hid ((hlow _ (by omega)).trans M9.out)
       have B12:Hid (Below w.heap.size w w12):=(B9.out.alloc B9.out.size _).grown hg12 (by simp; omega) (fun i hi=>by have:=(Ow.out.lt i hi).1; omega)
       obtain ⟨b12,d12,rfl⟩:=own_form hown12
       have O12:Hid (OwnQ w12 (w.heap.size + 2) b12 d12 (S ++ [q])):=by
        refine own_ownQ ?_
        rw [List.length_append,Hlj.out]
        unfold cellsQ
        rw [List.map_append,cellsS_append]
        exact hown12
       clear hown12 hg12 hnil12 hlow Ow hsz
       go_wp2_with fail
       go_roundw
       case rel=>exact ⟨j + 1,b12,d12,HJ.out,by go_num,by rw [Hsucc.out,shortAll_append,Hz.out]; rfl,rfl,K12,M12,by rw [Hsucc.out]; exact O12,B12⟩
       case measure=>simp [intOf]; omega
     ·simp only [dsc_,dz_,tsc_,tz_]
      go_wp2_with fail
      have W_w5:=Lib.hid (W_w2.out.alloc W_w2.out.size (.cells #[.string ⟨#[]⟩,.string ⟨#[]⟩] 30))
      have N_w5:=Lib.hid (heap_at w2 #[.string ⟨#[]⟩,.string ⟨#[]⟩] 30 _ rfl)
      have Hg_w5:Hid (wr.heap.size≤w2.heap.size):=W_w2.out.size
      generalize w2.alloc (.cells #[.string ⟨#[]⟩,.string ⟨#[]⟩] 30)=w5 at *
      refine ⟨⟨⟨_,W_w5.out⟩,rfl⟩,?_⟩
      refine walkT_move ?_
      simp only [dsc_,dz_,tsc_,tz_]
      go_wp2_with fail
      refine Calls.mono (HA.out _ W_w5.out) ?_
      rintro e_ w6 ⟨rfl,hb_⟩
      have W_w6:=Lib.hid (W_w5.out.trans (hb_.mono W_w5.out.size))
      have N_w6:=Lib.hid (heap_kept N_w5.out hb_ nr_)
      clear hb_
      go_wp2_with fail
      refine ⟨⟨⟨_,W_w6.out⟩,rfl⟩,?_⟩
      refine walkT_move ?_
      simp only [dsc_,dz_,tsc_,tz_]
      obtain ⟨n0,n1,f0,f1⟩:=two_cells N_w6.out
      go_wp2_with fail
      have W9:=Lib.hid ((W_w6.out.setCell (p:=⟨w2.heap.size,0,none⟩) Hg_w5.out (.string (itx q.num))).setCell (p:=⟨w2.heap.size,1,none⟩) Hg_w5.out (.string (dec q.den)))
      have N9:=Lib.hid (obj_pair N_w6.out (.string (itx q.num)) (.string (dec q.den)))
      clear n0 n1 f0 f1
      generalize (w6.setCell ⟨w2.heap.size,0,none⟩ (.string (itx q.num))).setCell ⟨w2.heap.size,1,none⟩ (.string (dec q.den))=w9 at *
      generalize w2.heap.size=g9 at *
      simp only [walkT]
      have B9:=Lib.hid (B.out.trans (W9.out.mono B.out.size))
      have K9:=Lib.hid (heap_kept K.out W9.out nr_)
      have M9:=Lib.hid (heap_kept M.out W9.out nr_)
      have O9:=Lib.hid (O.out.below W9.out nr_)
      obtain ⟨n0,n1,-,-⟩:=two_cells N9.out
      by_cases hz:shortAll S=true
      ·rw [hz]
       have Hz:=Lib.hid hz
       clear hz
       go_wp2_with fail
       refine Calls.mono (HSh.out _) ?_
       rintro e_ w10 ⟨rfl,hb_⟩
       have B10:=Lib.hid (B9.out.trans (hb_.mono B9.out.size))
       have K10:=Lib.hid (heap_kept K9.out hb_ nr_)
       have M10:=Lib.hid (heap_kept M9.out hb_ nr_)
       have O10:=Lib.hid (O9.out.below hb_ nr_)
       have N10:=Lib.hid (heap_kept N9.out hb_ nr_)
       clear hb_ n0 n1
       obtain ⟨n0,n1,-,-⟩:=two_cells N10.out
       have Ow:Hid (w10.ownsRow (w.heap.size + 2) 30 2 (.slice b j d) j (cellsQ S)):=by
        have:=ownS_own O10.out
        rw [Hlj.out] at this
        exact this
       have hsz:w.heap.size + 2≤w10.heap.size:=Nat.succ_le_of_lt (Array.getElem?_eq_some_iff.1 M10.out).1
       go_wp2_with (at_builtin; refine wpList_append_new rfl (.tmp 45) (.tmp 47) 34 rfl elQ _ 1 [.string (itx q.num),.string (dec q.den)] rfl rfl Ow.out hsz rfl (by simp [Value.oneCell']) (by omega) (by omega) ?_)
       intro v' w12 hown12 hg12 hnil12
       have hlow:∀ i,i < w.heap.size + 2→w12.heap[i]?=w10.heap[i]?:=fun i hi=>by
        rw [hg12.block i (by simp; omega) (fun e=>by have:=(Ow.out.lt i e.symm).1; omega)]
        exact ((Below.refl w10.heap.size w10).alloc nr_ _).block i (by omega)
       have K12:=Lib.hid ((hlow _ (by omega)).trans K10.out)
       have M12:=Lib.hid ((hlow _ (by omega)).trans M10.out)
       have B12:Hid (Below w.heap.size w w12):=(B10.out.alloc B10.out.size _).grown hg12 (by simp; omega) (fun i hi=>by have:=(Ow.out.lt i hi).1; omega)
       obtain ⟨b12,d12,rfl⟩:=own_form hown12
       have O12:Hid (OwnQ w12 (w.heap.size + 2) b12 d12 (S ++ [q])):=by
        refine own_ownQ ?_
        rw [List.length_append,Hlj.out]
        unfold cellsQ
        rw [List.map_append,cellsS_append]
        exact hown12
       clear hown12 hg12 hnil12 hlow Ow hsz
       go_wp2_with fail
       go_roundw
       case rel=>exact ⟨j + 1,b12,d12,HJ.out,by go_num,by rw [Hsucc.out,shortAll_append,Hz.out]; rfl,rfl,K12,M12,by rw [Hsucc.out]; exact O12,B12⟩
       case measure=>simp [intOf]; omega
      ·have Hz:Hid (shortAll S=false):=by show _=_; simpa using hz
       rw [Hz.out]
       clear hz
       obtain ⟨w10,hw10⟩:∃ x:World,x=w9:=⟨_,rfl⟩
       subst hw10
       have Ow:Hid (w10.ownsRow (w.heap.size + 2) 30 2 (.slice b j d) j (cellsQ S)):=by
        have:=ownS_own O9.out
        rw [Hlj.out] at this
        exact this
       have hsz:w.heap.size + 2≤w10.heap.size:=Nat.succ_le_of_lt (Array.getElem?_eq_some_iff.1 M9.out).1
       go_wp2_with (at_builtin; refine wpList_append_new rfl (.tmp 45) (.tmp 47) 34 rfl elQ _ 1 [.string (itx q.num),.string (dec q.den)] rfl rfl Ow.out hsz rfl (by simp [Value.oneCell']) (by omega) (by omega) ?_)
       intro v' w12 hown12 hg12 hnil12
       have hlow:∀ i,i < w.heap.size + 2→w12.heap[i]?=w10.heap[i]?:=fun i hi=>by
        rw [hg12.block i (by simp; omega) (fun e=>by have:=(Ow.out.lt i e.symm).1; omega)]
        exact ((Below.refl w10.heap.size w10).alloc nr_ _).block i (by omega)
       have K12:=Lib.hid ((hlow _ (by omega)).trans K9.out)
       have M12:=Lib.hid ((hlow _ (by omega)).trans M9.out)
       have B12:Hid (Below w.heap.size w w12):=(B9.out.alloc B9.out.size _).grown hg12 (by simp; omega) (fun i hi=>by have:=(Ow.out.lt i hi).1; omega)
       obtain ⟨b12,d12,rfl⟩:=own_form hown12
       have O12:Hid (OwnQ w12 (w.heap.size + 2) b12 d12 (S ++ [q])):=by
        refine own_ownQ ?_
        rw [List.length_append,Hlj.out]
        unfold cellsQ
        rw [List.map_append,cellsS_append]
        exact hown12
       clear hown12 hg12 hnil12 hlow Ow hsz
       go_wp2_with fail
       go_roundw
       case rel=>exact ⟨j + 1,b12,d12,HJ.out,by go_num,by rw [Hsucc.out,shortAll_append,Hz.out]; rfl,rfl,K12,M12,by rw [Hsucc.out]; exact O12,B12⟩
       case measure=>simp [intOf]; omega
    ·simp only [dsc_,dz_,tsc_,tz_]
     go_wp2_with fail
     have W_w7:=Lib.hid (W_w1.out.alloc W_w1.out.size (.cells #[.string ⟨#[]⟩,.string ⟨#[]⟩] 30))
     have N_w7:=Lib.hid (heap_at w1 #[.string ⟨#[]⟩,.string ⟨#[]⟩] 30 _ rfl)
     have Hg_w7:Hid (wr.heap.size≤w1.heap.size):=W_w1.out.size
     generalize w1.alloc (.cells #[.string ⟨#[]⟩,.string ⟨#[]⟩] 30)=w7 at *
     refine ⟨⟨⟨_,W_w7.out⟩,rfl⟩,?_⟩
     refine walkT_move ?_
     simp only [dsc_,dz_,tsc_,tz_]
     go_wp2_with fail
     refine Calls.mono (HM2.out _ W_w7.out) ?_
     rintro e_ w8 ⟨rfl,hb_⟩
     have W_w8:=Lib.hid (W_w7.out.trans (hb_.mono W_w7.out.size))
     have N_w8:=Lib.hid (heap_kept N_w7.out hb_ nr_)
     clear hb_
     go_wp2_with fail
     refine ⟨⟨⟨_,W_w8.out⟩,rfl⟩,?_⟩
     refine walkT_move ?_
     simp only [dsc_,dz_,tsc_,tz_]
     go_wp2_with fail
     refine Calls.mono (HA.out _ W_w8.out) ?_
     rintro e_ w9 ⟨rfl,hb_⟩
     have W_w9:=Lib.hid (W_w8.out.trans (hb_.mono W_w8.out.size))
     have N_w9:=Lib.hid (heap_kept N_w8.out hb_ nr_)
     clear hb_
     go_wp2_with fail
     refine ⟨⟨⟨_,W_w9.out⟩,rfl⟩,?_⟩
     refine walkT_move ?_
     simp only [dsc_,dz_,tsc_,tz_]
     obtain ⟨n0,n1,f0,f1⟩:=two_cells N_w9.out
     go_wp2_with fail
     have W9:=Lib.hid ((W_w9.out.setCell (p:=⟨w1.heap.size,0,none⟩) Hg_w7.out (.string (itx q.num))).setCell (p:=⟨w1.heap.size,1,none⟩) Hg_w7.out (.string (dec q.den)))
     have N9:=Lib.hid (obj_pair N_w9.out (.string (itx q.num)) (.string (dec q.den)))
     clear n0 n1 f0 f1
     generalize (w9.setCell ⟨w1.heap.size,0,none⟩ (.string (itx q.num))).setCell ⟨w1.heap.size,1,none⟩ (.string (dec q.den))=w9 at *
     generalize w1.heap.size=g9 at *
     simp only [walkT]
     have B9:=Lib.hid (B.out.trans (W9.out.mono B.out.size))
     have K9:=Lib.hid (heap_kept K.out W9.out nr_)
     have M9:=Lib.hid (heap_kept M.out W9.out nr_)
     have O9:=Lib.hid (O.out.below W9.out nr_)
     obtain ⟨n0,n1,-,-⟩:=two_cells N9.out
     by_cases hz:shortAll S=true
     ·rw [hz]
      have Hz:=Lib.hid hz
      clear hz
      go_wp2_with fail
      refine Calls.mono (HSh.out _) ?_
      rintro e_ w10 ⟨rfl,hb_⟩
      have B10:=Lib.hid (B9.out.trans (hb_.mono B9.out.size))
      have K10:=Lib.hid (heap_kept K9.out hb_ nr_)
      have M10:=Lib.hid (heap_kept M9.out hb_ nr_)
      have O10:=Lib.hid (O9.out.below hb_ nr_)
      have N10:=Lib.hid (heap_kept N9.out hb_ nr_)
      clear hb_ n0 n1
      obtain ⟨n0,n1,-,-⟩:=two_cells N10.out
      have Ow:Hid (w10.ownsRow (w.heap.size + 2) 30 2 (.slice b j d) j (cellsQ S)):=by
       have:=ownS_own O10.out
       rw [Hlj.out] at this
       exact this
      have hsz:w.heap.size + 2≤w10.heap.size:=Nat.succ_le_of_lt (Array.getElem?_eq_some_iff.1 M10.out).1
      go_wp2_with (at_builtin; refine wpList_append_new rfl (.tmp 45) (.tmp 47) 34 rfl elQ _ 1 [.string (itx q.num),.string (dec q.den)] rfl rfl Ow.out hsz rfl (by simp [Value.oneCell']) (by omega) (by omega) ?_)
      intro v' w12 hown12 hg12 hnil12
      have hlow:∀ i,i < w.heap.size + 2→w12.heap[i]?=w10.heap[i]?:=fun i hi=>by
       rw [hg12.block i (by simp; omega) (fun e=>by have:=(Ow.out.lt i e.symm).1; omega)]
       exact ((Below.refl w10.heap.size w10).alloc nr_ _).block i (by omega)
      have K12:=Lib.hid ((hlow _ (by omega)).trans K10.out)
      have M12:=Lib.hid ((hlow _ (by omega)).trans M10.out)
      have B12:Hid (Below w.heap.size w w12):=(B10.out.alloc B10.out.size _).grown hg12 (by simp; omega) (fun i hi=>by have:=(Ow.out.lt i hi).1; omega)
      obtain ⟨b12,d12,rfl⟩:=own_form hown12
      have O12:Hid (OwnQ w12 (w.heap.size + 2) b12 d12 (S ++ [q])):=by
       refine own_ownQ ?_
       rw [List.length_append,Hlj.out]
       unfold cellsQ
       rw [List.map_append,cellsS_append]
       exact hown12
      clear hown12 hg12 hnil12 hlow Ow hsz
      go_wp2_with fail
      go_roundw
      case rel=>exact ⟨j + 1,b12,d12,HJ.out,by go_num,by rw [Hsucc.out,shortAll_append,Hz.out]; rfl,rfl,K12,M12,by rw [Hsucc.out]; exact O12,B12⟩
      case measure=>simp [intOf]; omega
     ·have Hz:Hid (shortAll S=false):=by show _=_; simpa using hz
      rw [Hz.out]
      clear hz
      obtain ⟨w10,hw10⟩:∃ x:World,x=w9:=⟨_,rfl⟩
      subst hw10
      have Ow:Hid (w10.ownsRow (w.heap.size + 2) 30 2 (.slice b j d) j (cellsQ S)):=by
       have:=ownS_own O9.out
       rw [Hlj.out] at this
       exact this
      have hsz:w.heap.size + 2≤w10.heap.size:=Nat.succ_le_of_lt (Array.getElem?_eq_some_iff.1 M9.out).1
      go_wp2_with (at_builtin; refine wpList_append_new rfl (.tmp 45) (.tmp 47) 34 rfl elQ _ 1 [.string (itx q.num),.string (dec q.den)] rfl rfl Ow.out hsz rfl (by simp [Value.oneCell']) (by omega) (by omega) ?_)
      intro v' w12 hown12 hg12 hnil12
      have hlow:∀ i,i < w.heap.size + 2→w12.heap[i]?=w10.heap[i]?:=fun i hi=>by
       rw [hg12.block i (by simp; omega) (fun e=>by have:=(Ow.out.lt i e.symm).1; omega)]
       exact ((Below.refl w10.heap.size w10).alloc nr_ _).block i (by omega)
      have K12:=Lib.hid ((hlow _ (by omega)).trans K9.out)
      have M12:=Lib.hid ((hlow _ (by omega)).trans M9.out)
      have B12:Hid (Below w.heap.size w w12):=(B9.out.alloc B9.out.size _).grown hg12 (by simp; omega) (fun i hi=>by have:=(Ow.out.lt i hi).1; omega)
      obtain ⟨b12,d12,rfl⟩:=own_form hown12
      have O12:Hid (OwnQ w12 (w.heap.size + 2) b12 d12 (S ++ [q])):=by
       refine own_ownQ ?_
       rw [List.length_append,Hlj.out]
       unfold cellsQ
       rw [List.map_append,cellsS_append]
       exact hown12
      clear hown12 hg12 hnil12 hlow Ow hsz
      go_wp2_with fail
      go_roundw
      case rel=>exact ⟨j + 1,b12,d12,HJ.out,by go_num,by rw [Hsucc.out,shortAll_append,Hz.out]; rfl,rfl,K12,M12,by rw [Hsucc.out]; exact O12,B12⟩
      case measure=>simp [intOf]; omega
   ·simp only [dsc_,dz_,tsc_,tz_]
    go_wp2_with fail
    have W_w10:Hid (Below wr.heap.size wr (wr.alloc (.cells #[.string ⟨#[]⟩,.string ⟨#[]⟩] 30)).drew):=((Below.refl wr.heap.size wr).alloc nr_ (.cells #[.string ⟨#[]⟩,.string ⟨#[]⟩] 30)).drew
    have N_w10:Hid ((wr.alloc (.cells #[.string ⟨#[]⟩,.string ⟨#[]⟩] 30)).drew.heap[wr.heap.size]?=some (.cells #[.string ⟨#[]⟩,.string ⟨#[]⟩] 30 (0,0))):=heap_at wr #[.string ⟨#[]⟩,.string ⟨#[]⟩] 30 _ rfl
    have Hg_w10:Hid (wr.heap.size≤wr.heap.size):=Nat.le_refl _
    generalize (wr.alloc (.cells #[.string ⟨#[]⟩,.string ⟨#[]⟩] 30)).drew=w10 at *
    refine ⟨⟨⟨_,W_w10.out⟩,rfl⟩,?_⟩
    refine walkT_move ?_
    simp only [dsc_,dz_,tsc_,tz_]
    go_wp2_with fail
    refine Calls.mono (HM1.out _ W_w10.out) ?_
    rintro e_ w11 ⟨rfl,hb_⟩
    have W_w11:=Lib.hid (W_w10.out.trans (hb_.mono W_w10.out.size))
    have N_w11:=Lib.hid (heap_kept N_w10.out hb_ nr_)
    clear hb_
    go_wp2_with fail
    refine ⟨⟨⟨_,W_w11.out⟩,rfl⟩,?_⟩
    refine walkT_move ?_
    simp only [dsc_,dz_,tsc_,tz_]
    go_wp2_with fail
    refine Calls.mono (HM2.out _ W_w11.out) ?_
    rintro e_ w12 ⟨rfl,hb_⟩
    have W_w12:=Lib.hid (W_w11.out.trans (hb_.mono W_w11.out.size))
    have N_w12:=Lib.hid (heap_kept N_w11.out hb_ nr_)
    clear hb_
    go_wp2_with fail
    refine ⟨⟨⟨_,W_w12.out⟩,rfl⟩,?_⟩
    refine walkT_move ?_
    simp only [dsc_,dz_,tsc_,tz_]
    go_wp2_with fail
    refine Calls.mono (HA.out _ W_w12.out) ?_
    rintro e_ w13 ⟨rfl,hb_⟩
    have W_w13:=Lib.hid (W_w12.out.trans (hb_.mono W_w12.out.size))
    have N_w13:=Lib.hid (heap_kept N_w12.out hb_ nr_)
    clear hb_
    go_wp2_with fail
    refine ⟨⟨⟨_,W_w13.out⟩,rfl⟩,?_⟩
    refine walkT_move ?_
    simp only [dsc_,dz_,tsc_,tz_]
    obtain ⟨n0,n1,f0,f1⟩:=two_cells N_w13.out
    go_wp2_with fail
    have W9:=Lib.hid ((W_w13.out.setCell (p:=⟨wr.heap.size,0,none⟩) Hg_w10.out (.string (itx q.num))).setCell (p:=⟨wr.heap.size,1,none⟩) Hg_w10.out (.string (dec q.den)))
    have N9:=Lib.hid (obj_pair N_w13.out (.string (itx q.num)) (.string (dec q.den)))
    clear n0 n1 f0 f1
    generalize (w13.setCell ⟨wr.heap.size,0,none⟩ (.string (itx q.num))).setCell ⟨wr.heap.size,1,none⟩ (.string (dec q.den))=w9 at *
    obtain ⟨g9,hg9⟩:∃ g,g=wr.heap.size:=⟨_,rfl⟩
    rw [← hg9] at N9 ⊢
    clear hg9
    simp only [walkT]
    have B9:=Lib.hid (B.out.trans (W9.out.mono B.out.size))
    have K9:=Lib.hid (heap_kept K.out W9.out nr_)
    have M9:=Lib.hid (heap_kept M.out W9.out nr_)
    have O9:=Lib.hid (O.out.below W9.out nr_)
    obtain ⟨n0,n1,-,-⟩:=two_cells N9.out
    by_cases hz:shortAll S=true
    ·rw [hz]
     have Hz:=Lib.hid hz
     clear hz
     go_wp2_with fail
     refine Calls.mono (HSh.out _) ?_
     rintro e_ w10 ⟨rfl,hb_⟩
     have B10:=Lib.hid (B9.out.trans (hb_.mono B9.out.size))
     have K10:=Lib.hid (heap_kept K9.out hb_ nr_)
     have M10:=Lib.hid (heap_kept M9.out hb_ nr_)
     have O10:=Lib.hid (O9.out.below hb_ nr_)
     have N10:=Lib.hid (heap_kept N9.out hb_ nr_)
     clear hb_ n0 n1
     obtain ⟨n0,n1,-,-⟩:=two_cells N10.out
     have Ow:Hid (w10.ownsRow (w.heap.size + 2) 30 2 (.slice b j d) j (cellsQ S)):=by
      have:=ownS_own O10.out
      rw [Hlj.out] at this
      exact this
     have hsz:w.heap.size + 2≤w10.heap.size:=Nat.succ_le_of_lt (Array.getElem?_eq_some_iff.1 M10.out).1
     go_wp2_with (at_builtin; refine wpList_append_new rfl (.tmp 45) (.tmp 47) 34 rfl elQ _ 1 [.string (itx q.num),.string (dec q.den)] rfl rfl Ow.out hsz rfl (by simp [Value.oneCell']) (by omega) (by omega) ?_)
     intro v' w12 hown12 hg12 hnil12
     have hlow:∀ i,i < w.heap.size + 2→w12.heap[i]?=w10.heap[i]?:=fun i hi=>by
      rw [hg12.block i (by simp; omega) (fun e=>by have:=(Ow.out.lt i e.symm).1; omega)]
      exact ((Below.refl w10.heap.size w10).alloc nr_ _).block i (by omega)
     have K12:=Lib.hid ((hlow _ (by omega)).trans K10.out)
     have M12:=Lib.hid ((hlow _ (by omega)).trans M10.out)
     have B12:Hid (Below w.heap.size w w12):=(B10.out.alloc B10.out.size _).grown hg12 (by simp; omega) (fun i hi=>by have:=(Ow.out.lt i hi).1; omega)
     obtain ⟨b12,d12,rfl⟩:=own_form hown12
     have O12:Hid (OwnQ w12 (w.heap.size + 2) b12 d12 (S ++ [q])):=by
      refine own_ownQ ?_
      rw [List.length_append,Hlj.out]
      unfold cellsQ
      rw [List.map_append,cellsS_append]
      exact hown12
     clear hown12 hg12 hnil12 hlow Ow hsz
     go_wp2_with fail
     go_roundw
     case rel=>exact ⟨j + 1,b12,d12,HJ.out,by go_num,by rw [Hsucc.out,shortAll_append,Hz.out]; rfl,rfl,K12,M12,by rw [Hsucc.out]; exact O12,B12⟩
     case measure=>simp [intOf]; omega
    ·have Hz:Hid (shortAll S=false):=by show _=_; simpa using hz
     rw [Hz.out]
     clear hz
     obtain ⟨w10,hw10⟩:∃ x:World,x=w9:=⟨_,rfl⟩
     subst hw10
     have Ow:Hid (w10.ownsRow (w.heap.size + 2) 30 2 (.slice b j d) j (cellsQ S)):=by
      have:=ownS_own O9.out
      rw [Hlj.out] at this
      exact this
     have hsz:w.heap.size + 2≤w10.heap.size:=Nat.succ_le_of_lt (Array.getElem?_eq_some_iff.1 M9.out).1
     go_wp2_with (at_builtin; refine wpList_append_new rfl (.tmp 45) (.tmp 47) 34 rfl elQ _ 1 [.string (itx q.num),.string (dec q.den)] rfl rfl Ow.out hsz rfl (by simp [Value.oneCell']) (by omega) (by omega) ?_)
     intro v' w12 hown12 hg12 hnil12
     have hlow:∀ i,i < w.heap.size + 2→w12.heap[i]?=w10.heap[i]?:=fun i hi=>by
      rw [hg12.block i (by simp; omega) (fun e=>by have:=(Ow.out.lt i e.symm).1; omega)]
      exact ((Below.refl w10.heap.size w10).alloc nr_ _).block i (by omega)
     have K12:=Lib.hid ((hlow _ (by omega)).trans K9.out)
     have M12:=Lib.hid ((hlow _ (by omega)).trans M9.out)
     have B12:Hid (Below w.heap.size w w12):=(B9.out.alloc B9.out.size _).grown hg12 (by simp; omega) (fun i hi=>by have:=(Ow.out.lt i hi).1; omega)
     obtain ⟨b12,d12,rfl⟩:=own_form hown12
     have O12:Hid (OwnQ w12 (w.heap.size + 2) b12 d12 (S ++ [q])):=by
      refine own_ownQ ?_
      rw [List.length_append,Hlj.out]
      unfold cellsQ
      rw [List.map_append,cellsS_append]
      exact hown12
     clear hown12 hg12 hnil12 hlow Ow hsz
     go_wp2_with fail
     go_roundw
     case rel=>exact ⟨j + 1,b12,d12,HJ.out,by go_num,by rw [Hsucc.out,shortAll_append,Hz.out]; rfl,rfl,K12,M12,by rw [Hsucc.out]; exact O12,B12⟩
     case measure=>simp [intOf]; omega
  ·have hlt':¬ (j:Int) < n:=by omega
   have hjn:j=n:=by omega
   subst hjn
   rw [Hfull.out] at O ⊢
   go_wp2_with fail
   go_ret2
   exact ⟨b,d,rfl,O.out.lower (by omega),B.out⟩
end Go.Proofs.YtlomhfknmhaboaaGreatDoor

namespace Go.Proofs.YtlomhfknmhaboaaGreatDoor
open Go.RowKit
theorem sumQ_two (n:Nat) (la lb:List Rat) (f g:Rat) (h1:la.length=n) (h2:lb.length=n):sumQ n [la,lb] [f,g]=combineQ la lb f g:=by
 show addTo (addTo (List.replicate n 0) la f) lb g=_
 refine List.ext_getElem (by simp [addTo,combineQ,h1,h2]) fun i hi1 hi2=>?_
 simp only [addTo,combineQ,List.getElem_zipWith,List.getElem_replicate,Rat.zero_add]
theorem fracQ_sm (n:Int) (d:Nat):Sm 2 (fracQ n d):=by
 have t1:=Int.tmod_lt_of_pos n (show (0:Int) < 41 by decide)
 have t2:=Int.lt_tmod_of_pos n (show (0:Int) < 41 by decide)
 have hd:=densL_ok (d % 6)
 exact Sm.mk' (by omega) (by show _ < 100; omega) (by show _ < 100; omega)
theorem partsQ_sm (nu:Nat→Int) (de:Nat→Nat) (m:Nat):∀ q∈partsQ nu de m,Sm 2 q:=by
 intro q hq
 obtain ⟨i,_,rfl⟩:=List.mem_map.1 hq
 exact fracQ_sm _ _
theorem combineQ_sm {la lb:List Rat} {f g:Rat} {D E F G:Nat} (h1:∀ q∈la,Sm D q) (h2:∀ q∈lb,Sm E q) (hf:Sm F f) (hg:Sm G g):∀ q∈combineQ la lb f g,Sm ((D + F) + (E + G) + 1) q:=by
 intro q hq
 obtain ⟨i,hi,rfl⟩:=List.mem_iff_getElem.1 hq
 simp only [combineQ,List.getElem_zipWith]
 have hi':i < la.length∧i < lb.length:=by simp [combineQ] at hi; omega
 exact Sm.add (Sm.mul (h1 _ (List.getElem_mem hi'.1)) hf) (Sm.mul (h2 _ (List.getElem_mem hi'.2)) hg)
theorem shortAll_sm {l:List Rat} {D:Nat} (h:∀ q∈l,Sm D q) (hD:D≤30):shortAll l=true:=by
 unfold shortAll
 rw [List.all_eq_true]
 intro q hq
 exact decide_eq_true ((h q hq).le hD)
theorem sm_one:Sm 1 (1:Rat):=⟨by decide +kernel,by decide +kernel⟩
theorem sm_mone:Sm 1 (((-1:Int):Rat)):=⟨by decide +kernel,by decide +kernel⟩
theorem sumCode_small (la lb:List Rat) (g:Rat) (h1:∀ q∈la,Sm 2 q) (h2:∀ q∈lb,Sm 2 q) (hg:Sm 1 g):sumCode (combineQ la lb 1 g)=0:=by
 unfold sumCode
 rw [if_pos (shortAll_sm (combineQ_sm h1 h2 sm_one hg) (by decide))]
end Go.Proofs.YtlomhfknmhaboaaGreatDoor

namespace Go.Proofs.YtlomhfknmhaboaaGreatDoor
open Go.RowKit Go.Proofs.YtlomhfknmhaboaaGreatDoor.RX
structure AddFacts (w:World) (ps:List Int) (la lb:List Rat) (s t:ByteArray):Prop where
 hi:I64s ps
 hp:pcode ps=0
 l1:la.length=ps.length
 l2:lb.length=ps.length
 s1:∀ q∈la,Sm 2 q
 s2:∀ q∈lb,Sm 2 q
 hs:s.size≤45
 ht:t.size≤45
 L:Laid w
theorem AddFacts.add {w W:World} {ps:List Int} {la lb:List Rat} {s t:ByteArray} (H:AddFacts w ps la lb s t) (hW:Below w.heap.size w W) {a0 a1 a2:Option Addr} (c0 c1 c2:Nat) (rp:Rd W a0 (ints ps)) (r1:Rd W a1 (cellsQ la)) (r2:Rd W a2 (cellsQ lb)) :
  Calls Tryz.prog 22 #[.slice a0 ps.length c0,.slice a1 ps.length c1,.slice a2 ps.length c2] W fun e w'=>∃ a c,e = .returned (.tuple #[.slice a ps.length c,.int .i64 0])∧Rd w' a (cellsQ (combineQ la lb 1 1))∧Below W.heap.size W w':=by
 have h:=add_gen W ps a0 a1 a2 c0 c1 c2 la lb rp H.hi H.hp r1 r2 H.l1 H.l2 (fun q hq=>(H.s1 q hq).le (by decide)) (fun q hq=>(H.s2 q hq).le (by decide)) (H.L.below hW)
 rw [show (((1:Int):Rat))=1 from rfl,sumQ_two _ _ _ _ _ H.l1 H.l2,sumCode_small la lb 1 H.s1 H.s2 sm_one,H.l1,H.l2] at h
 unfold GivesC at h
 rw [if_pos rfl,combineQ_length _ _ _ _ (H.l1.trans H.l2.symm),H.l1] at h
 refine Calls.mono h ?_
 rintro e w' ⟨a,c,rfl,hr,hb⟩
 exact ⟨a,c,rfl,hr rfl,hb⟩
theorem AddFacts.comb {w W:World} {ps:List Int} {la lb:List Rat} {s t:ByteArray} (H:AddFacts w ps la lb s t) (hW:Below w.heap.size w W) {a1 a2:Option Addr} (c1 c2:Nat) (f g:Rat) (hf:Sm 400 f) (hg:Sm 400 g) {lx ly:List Rat} (hx:lx.length=ps.length) (hy:ly.length=ps.length) (sx:∀ q∈lx,Sm 2 q) (sy:∀ q∈ly,Sm 2 q) (r1:Rd W a1 (cellsQ lx)) (r2:Rd W a2 (cellsQ ly)) :
  Calls Tryz.prog 17 #[.slice a1 ps.length c1,.slice a2 ps.length c2,.agg #[.string (itx f.num),.string (dec f.den)],.agg #[.string (itx g.num),.string (dec g.den)]] W fun e w'=>∃ a c,e = .returned (.tuple #[.slice a ps.length c,.bool (shortAll (combineQ lx ly f g))])∧Rd w' a (cellsQ (combineQ lx ly f g))∧Below W.heap.size W w':=by
 have hn:=pcode_pos H.hp
 have h:=law_combine W a1 a2 c1 c2 lx ly f g r1 r2 (hy.trans hx.symm) (by omega) (fun q hq=>(sx q hq).le (by decide)) (fun q hq=>(sy q hq).le (by decide)) hf hg (H.L.below hW)
 rw [hx] at h
 refine Calls.mono h ?_
 rintro e w' ⟨a,c,rfl,ho,hb⟩
 exact ⟨a,c,rfl,ho.rd,hb⟩
theorem AddFacts.equal {w W:World} {ps:List Int} {la lb:List Rat} {s t:ByteArray} (H:AddFacts w ps la lb s t) {a1 a2:Option Addr} (c1 c2:Nat) {lx:List Rat} (hx:lx.length=ps.length) (r1:Rd W a1 (cellsQ lx)) (r2:Rd W a2 (cellsQ lx)) :
  Gives Tryz.prog 20 #[.slice a1 ps.length c1,.slice a2 ps.length c2] W (.bool true):=by
 have hn:=pcode_pos H.hp
 have h:=equal_any W a1 a2 c1 c2 lx lx r1 r2 (by omega)
 rw [hx,decide_eq_true rfl] at h
 exact h
end Go.Proofs.YtlomhfknmhaboaaGreatDoor

namespace Go.Proofs.YtlomhfknmhaboaaGreatDoor
open Go.ChangeShapes Go.WideShapes Go.ChangeAt Go.RowKit Go.Joins
theorem cellsPart:Tryz.prog.cellsOf 38=2:=by kernel_rfl
theorem cellsParts:Tryz.prog.cellsOf 40=8:=by kernel_rfl
theorem cellsI8:Tryz.prog.cellsOf 36=1:=by kernel_rfl
theorem cellsU8:Tryz.prog.cellsOf 5=1:=by kernel_rfl
section
variable {H:Type} {enc:TypeId×Value→H} {W:World}
set_option maxRecDepth 100000 in
theorem open_part {base fuel:Nat} {sp:Nat→Bool} {held:Bool} {cs:List Value} {x:DataW H×List MemPlace} (h:DataW.trod enc Tryz.prog W base sp held fuel 38 cs=some x) :
  ∃ (n:Int) (d:Nat),cs=[.int .i8 n,.int .u8 d]∧(-128≤n∧n≤127)∧d < 256:=by
 obtain ⟨y0,y1,n,hx,hl,h0,h1⟩:=trod_struct2 Tryz.underlying38 h
 rw [cellsPart] at hl
 match cs,hl with
 | [c0,c1],_ =>
  simp only [List.drop_zero,List.drop_succ_cons,cellsI8,cellsU8,List.take_succ_cons,List.take_zero] at h0 h1
  obtain ⟨a,ha,_,wa⟩:=DataW.trod_int Tryz.underlying36 h0
  obtain ⟨b,hb,_,wb⟩:=DataW.trod_int Tryz.underlying5 h1
  have b1:=bounds_i8 wa
  have b2:=bounds_u8 wb
  simp only [List.cons.injEq,and_true] at ha hb
  refine ⟨a,b.toNat,?_,b1,by omega⟩
  rw [ha,hb,show ((b.toNat:Nat):Int)=b by omega]
def four {α:Type} (a b c d z : α):Nat → α
 | 0=>a | 1=>b | 2=>c | 3=>d | _=>z
set_option maxRecDepth 100000 in
theorem open_parts {base fuel:Nat} {sp:Nat→Bool} {held:Bool} {cs:List Value} {x:DataW H×List MemPlace} (h:DataW.trod enc Tryz.prog W base sp held fuel 40 cs=some x) :
  ∃ (nu:Nat→Int) (de:Nat→Nat),cs=(partsV nu de).toList∧(∀ k,-128≤nu k∧nu k≤127)∧(∀ k,de k < 256):=by
 obtain ⟨xs,m,_,_,hl,hn,hel⟩:=DataW.trod_array Tryz.underlying40 h
 rw [cellsParts] at hl
 match cs,hl,xs,hn with
 | [c0,c1,c2,c3,c4,c5,c6,c7],_,[x0,x1,x2,x3],_ =>
  have e0:=hel 0 (by decide)
  have e1:=hel 1 (by decide)
  have e2:=hel 2 (by decide)
  have e3:=hel 3 (by decide)
  simp only [cellsPart,Nat.zero_mul,Nat.one_mul,Nat.reduceMul,List.drop_zero,List.drop_succ_cons,List.take_succ_cons,List.take_zero] at e0 e1 e2 e3
  obtain ⟨n0,d0,q0,b0,b0'⟩:=open_part e0
  obtain ⟨n1,d1,q1,b1,b1'⟩:=open_part e1
  obtain ⟨n2,d2,q2,b2,b2'⟩:=open_part e2
  obtain ⟨n3,d3,q3,b3,b3'⟩:=open_part e3
  simp only [List.cons.injEq,and_true] at q0 q1 q2 q3
  refine ⟨four n0 n1 n2 n3 0,four d0 d1 d2 d3 0,?_,?_,?_⟩
  ·rw [q0.1,q0.2,q1.1,q1.2,q2.1,q2.2,q3.1,q3.2]; rfl
  ·intro k
   match k with
   | 0=>exact b0
   | 1=>exact b1
   | 2=>exact b2
   | 3=>exact b3
   | k + 4=>exact ⟨by show -128≤(0:Int); decide,by show (0:Int)≤127; decide⟩
  ·intro k
   match k with
   | 0=>exact b0'
   | 1=>exact b1'
   | 2=>exact b2'
   | 3=>exact b3'
   | k + 4=>show 0 < 256; decide
end
end Go.Proofs.YtlomhfknmhaboaaGreatDoor

namespace Go.Proofs.YtlomhfknmhaboaaGreatDoor
open Go.ChangeShapes Go.WideShapes Go.ChangeAt Go.RowKit Go.Joins
theorem cells_get {w:World} {base n:Nat} {a:Addr} {cs:List Value} (h:w.cells? base a n=some cs):cs.length=n∧∀ i,i < n→w.cell? (a.add i)=cs[i]?:=by
 unfold World.cells? at h
 split at h
 ·have hl:cs.length=n:=by
   have:=Lib.mapM_length h
   simpa using this
  refine ⟨hl,fun i hi=>?_⟩
  obtain ⟨b,hb,he⟩:=Lib.mapM_at h i i (by simp [hi])
  rw [hb,he]
 ·cases h
theorem choose_list {α β:Type} {f : β → α} {B : β→Prop}:∀ l:List α,(∀ x∈l,∃ p,x=f p∧B p)→∃ ps:List β,l=ps.map f∧∀ p∈ps,B p
 | [],_=>⟨[],rfl,fun _ h=>by cases h⟩
 | x :: l,h=>by
  obtain ⟨p,hp,hb⟩:=h x List.mem_cons_self
  obtain ⟨ps,hps,hbs⟩:=choose_list l fun y hy=>h y (List.mem_cons_of_mem _ hy)
  refine ⟨p :: ps,by rw [hp,hps]; rfl,fun q hq=>?_⟩
  rcases List.mem_cons.1 hq with rfl | hq
  ·exact hb
  ·exact hbs q hq
def RdK (w:World) (k:Nat) (a:Option Addr) (css:List (List Value)):Prop :=
 css=[]∨∃ b off,a=some ⟨b,off,none⟩∧b < w.heap.size∧∀ i (h:i < css.length) j,j < k→w.cell? ⟨b,off + i * k + j,none⟩=css[i][j]?
section
variable {H:Type} {enc:TypeId×Value→H} {W:World}
set_option maxRecDepth 100000 in
theorem open_slice_of {t e:TypeId} {k:Nat} (ht:Tryz.prog.underlying t=some (.slice e)) (hk:Tryz.prog.cellsOf e=k) (k0:0 < k) {Q:List Value→Prop}
  (hQ:∀ (n:Nat) (cs:List Value) (x:DataW H×List MemPlace),DataW.trod enc Tryz.prog W 0 (fun _=>true) true n e cs=some x→Q cs)
  {v:Value} {d:DataW H} {p:List MemPlace} (h:DataW.Trod enc Tryz.prog W 0 (fun _=>true) true t v d p) (hv:∃ a len cap,v = .slice a len cap) :
  ∃ (a:Option Addr) (c:Nat) (css:List (List Value)),v = .slice a css.length c∧RdK W k a css∧(∀ cs∈css,Q cs)∧css.length≤maxLen:=by
 obtain ⟨a,len,cap,rfl⟩:=hv
 obtain ⟨fuel,hf⟩:=h
 rcases DataW.trod_slice ht hf with ⟨hcs,_⟩ | ⟨a,len,cap,elems,rest,n,_,hcs,_,hb,hl,hm,hlen,hel,_,_⟩
 ·simp [Value.cells] at hcs
  obtain ⟨rfl,rfl,rfl⟩:=hcs
  exact ⟨none,0,[],rfl,.inl rfl,(fun x hx=>by cases hx),Nat.zero_le _⟩
 ·simp [Value.cells] at hcs
  obtain ⟨rfl,rfl,rfl⟩:=hcs
  rw [hk] at hel
  have each:∀ i,i < len→∃ cs,W.cells? 0 (a.add (i * k)) k=some cs∧Q cs:=fun i hi=>by
   have h1:=hel i hi
   have h2:i < elems.length:=by omega
   rw [List.getElem?_eq_getElem h2,Option.bind_eq_some_iff] at h1
   obtain ⟨cs,hcs,hx⟩:=h1
   exact ⟨cs,hcs,hQ _ _ _ hx⟩
  have hlist:∀ m,m≤len→∃ css:List (List Value),css.length=m∧(∀ cs∈css,Q cs)∧∀ i (h:i < css.length),W.cells? 0 (a.add (i * k)) k=some css[i]:=by
   intro m
   induction m with
   | zero=>intro _; exact ⟨[],rfl,(fun _ h=>by cases h),fun i h=>absurd h (Nat.not_lt_zero _)⟩
   | succ m ih =>
    intro hm'
    obtain ⟨css,h1,h2,h3⟩:=ih (by omega)
    obtain ⟨cs,h4,h5⟩:=each m (by omega)
    refine ⟨css ++ [cs],by simp [h1],?_,?_⟩
    ·intro x hx
     rcases List.mem_append.1 hx with hx | hx
     ·exact h2 x hx
     ·rw [List.mem_singleton.1 hx]; exact h5
    ·intro i hi
     rw [List.length_append,List.length_singleton] at hi
     by_cases him:i < css.length
     ·rw [List.getElem_append_left him]; exact h3 i him
     ·have e:i=m:=by omega
      subst e
      rw [List.getElem_append_right (by omega)]
      simp only [h1,Nat.sub_self,List.getElem_cons_zero]
      exact h4
  obtain ⟨css,h1,h2,h3⟩:=hlist len nr_
  refine ⟨some a,cap,css,by rw [h1],?_,h2,by omega⟩
  by_cases h0:len=0
  ·exact .inl (List.eq_nil_of_length_eq_zero (by omega))
  ·obtain ⟨b,off,spot⟩:=a
   have hc0:=(cells_get (h3 0 (by omega))).2 0 k0
   have hl0:=(cells_get (h3 0 (by omega))).1
   have hspot:spot=none:=by
    rw [List.getElem?_eq_getElem (by omega)] at hc0
    simpa [Addr.add] using World.cell?_spot hc0
   subst hspot
   refine .inr ⟨b,off,rfl,?_,fun i hi j hj=>?_⟩
   ·rw [List.getElem?_eq_getElem (by omega)] at hc0
    have:=block_lt_of_cell hc0
    rw [Go.WideShapes.add_plain,Go.WideShapes.add_plain] at this
    exact this
   ·have:=(cells_get (h3 i hi)).2 j hj
    rw [Go.WideShapes.add_plain,Go.WideShapes.add_plain] at this
    exact this
end
end Go.Proofs.YtlomhfknmhaboaaGreatDoor

namespace Go.Proofs.YtlomhfknmhaboaaGreatDoor
open Go.RowKit
def OwnI (w:World) (B:Nat) (a:Option Addr) (c:Nat) (l:List Int):Prop:=w.ownsRow B 3 1 (.slice a l.length c) l.length (ints l)
theorem OwnI.rd {w:World} {B c:Nat} {a:Option Addr} {l:List Int} (h:OwnI w B a c l):Rd w a (ints l):=own_rd h
theorem OwnI.below {w w':World} {B c:Nat} {a:Option Addr} {l:List Int} (h:OwnI w B a c l) {D:Nat} (hb:Below D w w') (hD:w.heap.size≤D):OwnI w' B a c l:=own_below h hb hD
theorem OwnI.nil (w:World) (B:Nat):OwnI w B none 0 []:=World.ownsRow_nil w B _ 1
end Go.Proofs.YtlomhfknmhaboaaGreatDoor

namespace Go.Proofs.YtlomhfknmhaboaaGreatDoor
open Go.RowKit
def Ok (c:Nat→Nat→Int) (u v:Nat):Prop:=0≤c v u∧(c v u=0→u < v)
structure Srt (c:Nat→Nat→Int) (n i:Nat) (F:Nat→Nat):Prop where
 lt:∀ k,k < n→F k < n
 inj:∀ k m,k < n→m < n→F k=F m→k=m
 hi:∀ k,i≤k→k < n→F k=k
 lo:∀ k,k < i→F k < i
 adj:∀ k,k + 1 < i→Ok c (F k) (F (k + 1))
structure Ins (c:Nat→Nat→Int) (n i j:Nat) (F:Nat→Nat):Prop where
 lt:∀ k,k < n→F k < n
 inj:∀ k m,k < n→m < n→F k=F m→k=m
 x:F j=i
 hi:∀ k,i < k→k < n→F k=k
 lo:∀ k,k≤i→F k≤i
 a1:∀ k,k + 1 < j→Ok c (F k) (F (k + 1))
 a2:∀ k,j < k→k + 1≤i→Ok c (F k) (F (k + 1))
 a3:∀ k,k + 1=j→j < i→Ok c (F k) (F (j + 1))
 a4:j < i→Ok c i (F (j + 1))
 ji:j≤i
 n:i < n
theorem Srt.first (c:Nat→Nat→Int) (n:Nat):Srt c n 1 fun k=>k :=
 ⟨fun _ h=>h,fun _ _ _ _ h=>h,fun _ _ _=>rfl,fun _ h=>h,fun _ h=>by omega⟩
theorem Srt.start {c:Nat→Nat→Int} {n i:Nat} {F:Nat→Nat} (h:Srt c n i F) (hi:i < n):Ins c n i i F :=
 ⟨h.lt,h.inj,h.hi i nr_ hi,fun k h1 h2=>h.hi k (by omega) h2,fun k hk=>by
  rcases Nat.lt_or_ge k i with h1 | h1
  ·exact Nat.le_of_lt (h.lo k h1)
  ·have:k=i:=by omega
   rw [this,h.hi i nr_ hi]; exact Nat.le_refl _,h.adj,fun k h1 h2=>by omega,fun k h1 h2=>by omega,fun h1=>by omega,Nat.le_refl _,hi⟩
theorem Ins.stop {c:Nat→Nat→Int} {n i j:Nat} {F:Nat→Nat} (h:Ins c n i j F) (hs:j=0∨0≤c (F j) (F (j - 1))):Srt c n (i + 1) F:=by
 refine ⟨h.lt,h.inj,fun k h1 h2=>h.hi k (by omega) h2,fun k hk=>Nat.lt_succ_of_le (h.lo k (by omega)),fun k hk=>?_⟩
 have hji:=h.ji
 have hn:=h.n
 rcases Nat.lt_trichotomy (k + 1) j with h1 | h1 | h1
 ·exact h.a1 k h1
 ·rcases hs with h0 | h0
  ·omega
  ·have e:j - 1=k:=by omega
   rw [e] at h0
   rw [h1]
   refine ⟨h0,fun _=>?_⟩
   have hx:=h.x
   have h2:=h.lo k (by omega)
   have h3:F k≠F j:=fun e=>by have:=h.inj k j (by omega) (by omega) e; omega
   omega
 ·rcases Nat.lt_or_ge j k with h2 | h2
  ·exact h.a2 k h2 (by omega)
  ·have e:k=j:=by omega
   subst e
   rw [h.x]
   exact h.a4 (by omega)
def swF (F:Nat→Nat) (j:Nat):Nat→Nat:=fun k=>if k=j then F (j + 1) else if k=j + 1 then F j else F k
theorem Ins.swap {c:Nat→Nat→Int} (hc:∀ u v,c v u = - c u v) {n i j:Nat} {F:Nat→Nat} (h:Ins c n i (j + 1) F) (hs:c (F (j + 1)) (F j) < 0):Ins c n i j (swF F j):=by
 have hji:=h.ji
 have hn:=h.n
 have hx:=h.x
 have s1:swF F j j=i:=by unfold swF; rw [if_pos rfl]; exact hx
 have s2:swF F j (j + 1)=F j:=by unfold swF; rw [if_neg (by omega),if_pos rfl]
 have s3:∀ k,k≠j→k≠j + 1→swF F j k=F k:=fun k h1 h2=>by unfold swF; rw [if_neg h1,if_neg h2]
 refine ⟨fun k hk=>?_,fun k m hk hm e=>?_,s1,fun k h1 h2=>?_,fun k hk=>?_,fun k hk=>?_,fun k h1 h2=>?_,fun k h1 h2=>?_,fun h1=>?_,by omega,hn⟩
 ·unfold swF
  split
  ·exact h.lt _ (by omega)
  ·split
   ·exact h.lt _ (by omega)
   ·exact h.lt _ hk
 ·unfold swF at e
  by_cases k1:k=j
  ·by_cases m1:m=j
   ·omega
   ·rw [if_pos k1,if_neg m1] at e
    by_cases m2:m=j + 1
    ·rw [if_pos m2] at e
     have:=h.inj _ _ (by omega) (by omega) e
     omega
    ·rw [if_neg m2] at e
     have:=h.inj _ _ (by omega) hm e
     omega
  ·rw [if_neg k1] at e
   by_cases k2:k=j + 1
   ·rw [if_pos k2] at e
    by_cases m1:m=j
    ·rw [if_pos m1] at e
     have:=h.inj _ _ (by omega) (by omega) e
     omega
    ·rw [if_neg m1] at e
     by_cases m2:m=j + 1
     ·omega
     ·rw [if_neg m2] at e
      have:=h.inj _ _ (by omega) hm e
      omega
   ·rw [if_neg k2] at e
    by_cases m1:m=j
    ·rw [if_pos m1] at e
     have:=h.inj _ _ hk (by omega) e
     omega
    ·rw [if_neg m1] at e
     by_cases m2:m=j + 1
     ·rw [if_pos m2] at e
      have:=h.inj _ _ hk (by omega) e
      omega
     ·rw [if_neg m2] at e
      exact h.inj _ _ hk hm e
 ·rw [s3 k (by omega) (by omega)]; exact h.hi k h1 h2
 ·unfold swF
  split
  ·omega
  ·split
   ·exact h.lo _ (by omega)
   ·exact h.lo _ hk
 ·rw [s3 k (by omega) (by omega),s3 (k + 1) (by omega) (by omega)]
  exact h.a1 k (by omega)
 ·rcases Nat.lt_or_ge (j + 1) k with h3 | h3
  ·rw [s3 k (by omega) (by omega),s3 (k + 1) (by omega) (by omega)]
   exact h.a2 k h3 h2
  ·have e:k=j + 1:=by omega
   subst e
   rw [s2,s3 (j + 1 + 1) (by omega) (by omega)]
   exact h.a3 j rfl (by omega)
 ·subst h1
  rw [s3 k (by omega) (by omega),s2]
  exact h.a1 k (by omega)
 ·rw [s2,← hx]
  have e:=hc (F (j + 1)) (F j)
  exact ⟨by omega,fun h0=>by omega⟩
structure RowF (W:World) (g n:Nat) (F:Nat→Nat):Prop where
 lt:g < W.heap.size
 cell:∀ k,k < n→W.cell? ⟨g,k,none⟩=some (.int .i64 (F k:Nat))
 fr:∀ k,W.frozen? ⟨g,k,none⟩=false
theorem RowF.below {W W':World} {g n D:Nat} {F:Nat→Nat} (h:RowF W g n F) (hb:Below D W W') (hD:W.heap.size≤D):RowF W' g n F:=by
 have hlt:=h.lt
 have e:=hb.block g (by omega)
 have hs:=hb.size
 refine ⟨?_,fun k hk=>?_,fun k=>?_⟩
 ·have h2:=Array.getElem?_eq_some_iff.1 (show W.heap[g]?=some W.heap[g] from Array.getElem?_eq_getElem hlt)
  rw [Array.getElem?_eq_getElem hlt] at e
  exact (Array.getElem?_eq_some_iff.1 e).1
 ·rw [hb.cell (p:=⟨g,k,none⟩) (show g < D by omega)]
  exact h.cell k hk
 ·have:=h.fr k
  unfold World.frozen? at this ⊢
  rw [show W'.heap[(⟨g,k,none⟩:Addr).block]?=W.heap[(⟨g,k,none⟩:Addr).block]? from e]
  exact this
end Go.Proofs.YtlomhfknmhaboaaGreatDoor

namespace Go.Proofs.YtlomhfknmhaboaaGreatDoor
open Go.RowKit
theorem RowF.swap {W:World} {g n:Nat} {F:Nat→Nat} (h:RowF W g n F) (j:Nat) (hj:j + 1 < n) :
  RowF ((W.setCell ⟨g,j + 1,none⟩ (.int .i64 (F j:Nat))).setCell ⟨g,j,none⟩ (.int .i64 (F (j + 1):Nat))) g n (swF F j):=by
 have h0:=h.cell j (by omega)
 have h1:=h.cell (j + 1) hj
 have ne:∀ a b:Nat,a≠b→(⟨g,a,none⟩:Addr)≠⟨g,b,none⟩:=fun a b hab e=>by cases e; exact hab rfl
 refine ⟨by simpa using h.lt,fun k hk=>?_,fun k=>?_⟩
 ·unfold swF
  by_cases k1:k=j
  ·subst k1
   rw [if_pos rfl]
   exact World.cell?_setCell_same _ _ _ (u := .int .i64 (F k:Nat)) (by rw [World.cell?_setCell_other _ _ _ _ (ne _ _ (by omega))]; exact h0)
  ·rw [if_neg k1,World.cell?_setCell_other _ _ _ _ (ne _ _ (fun e=>k1 e.symm))]
   by_cases k2:k=j + 1
   ·subst k2
    rw [if_pos rfl]
    exact World.cell?_setCell_same _ _ _ h1
   ·rw [if_neg k2,World.cell?_setCell_other _ _ _ _ (ne _ _ (fun e=>k2 e.symm))]
    exact h.cell k hk
 ·have:=h.fr k
  simpa using this
structure Fin' (c:Nat→Nat→Int) (n:Nat) (F:Nat→Nat):Prop where
 lt:∀ k,k < n→F k < n
 inj:∀ k m,k < n→m < n→F k=F m→k=m
 adj:∀ k,k + 1 < n→Ok c (F k) (F (k + 1))
set_option maxRecDepth 100000 in
set_option maxHeartbeats 16000000 in
theorem insertion_any (w:World) (B g n cap:Nat) (P2 P3:Value) (c:Nat→Nat→Int) (hc:∀ u v,c v u = - c u v) (hb:∀ u v,-1≤c u v∧c u v≤1) (hB:B≤g) (hn:n≤1000) (hrow:RowF w g n fun k=>k)
  (hcmp:∀ W,Below B w W→∀ i j:Nat,i < n→j < n→Gives Tryz.prog 93 #[.int .i64 i,.int .i64 j,P2,P3] W (.int .i64 (c i j))) :
  Calls Tryz.prog 150 #[.slice (some ⟨g,0,none⟩) n cap,.int .i64 0,.int .i64 n,.func (.func 93) #[] #[P2,P3]] w fun e w'=>e = .returned (.tuple #[])∧∃ F,Fin' c n F∧RowF w' g n F∧Below B w w':=by
 have Hc:=Lib.hid hc
 have Hb:=Lib.hid hb
 have Hcmp:=Lib.hid hcmp
 have Hrow:=Lib.hid hrow
 clear hc hb hcmp hrow
 go_enter Tryz.func150,Tryz.ntmps150
 go_wp2_with fail
 go_loopw [8] (fun z wr=>∃ (i:Nat) (F:Nat→Nat),1≤i∧z = .int .i64 i∧Hid (Srt c n i F)∧Hid (RowF wr g n F)∧Hid (Below B w wr)) (fun z _=>n - (intOf z).toNat)
 case atStart=>exact ⟨1,fun k=>k,Nat.le_refl _,rfl,Srt.first c n,Hrow.out,Below.refl _ _⟩
 case round =>
  obtain ⟨i,F,hi1,rfl,HS,HR,HB⟩:=hrel
  clear Hrow
  by_cases hlt:i < n
  ·have hlt':(i:Int) < n:=by omega
   go_wp2_with fail
   go_loopw [9] (fun z wr=>∃ (j:Nat) (F:Nat→Nat),j≤i∧z = .int .i64 j∧Hid (Ins c n i j F)∧Hid (RowF wr g n F)∧Hid (Below B w wr)) (fun z _=>(intOf z).toNat)
   case atStart=>exact ⟨i,F,Nat.le_refl _,rfl,HS.out.start hlt,HR.out,HB.out⟩
   case round =>
    clear HS HR HB
    obtain ⟨j,F,hji,rfl,HI,HR,HB⟩:=hrel
    rcases Nat.eq_zero_or_pos j with h0 | h0
    ·subst h0
     have HS2:=Lib.hid (HI.out.stop (.inl rfl))
     go_wp2_with fail
     go_quiet (fail)
     go_wp2
     go_roundw
     case rel=>exact ⟨i + 1,F,by omega,by go_num,HS2.out,HR.out.below (below_dn (Below.refl wr.heap.size wr) _) nr_,below_dn HB.out _⟩
     case measure=>simp [intOf]; omega
    ·obtain ⟨p,rfl⟩:∃ p,j=p + 1:=⟨j - 1,by omega⟩
     have hBs:B≤wr.heap.size:=Nat.le_trans hB (Nat.le_of_lt HR.out.lt)
     have k1:=HR.out.cell (p + 1) (by omega)
     have k0:=HR.out.cell p (by omega)
     have Hcall:=Lib.hid fun W hW=>Hcmp.out W hW (F (p + 1)) (F p) (HI.out.lt _ (by omega)) (HI.out.lt _ (by omega))
     have hcb:=Hb.out (F (p + 1)) (F p)
     have q1:=BW.cell k1
     have q0:=BW.cell k0
     have hnon:Nonempty (BW wr):=⟨⟨wr,Below.refl _ _⟩⟩
     have I:Hid (Below wr.heap.size wr wr.drew):=(Below.refl _ _).drew
     have hpi:(p:Int) + 1 < n:=by omega
     have hpi0:(p:Int) < n:=by omega
     go_wp2_with fail
     clear k0 k1
     refine RX.wp_region_readers 14 [(1,0),(1,1),(1,2),(1,3),(1,4),(1,5),(1,6),(1,7),(1,8),(1,9),(1,10),(1,11),(1,12),(1,13),(0,14),(2,15),(0,16)] (fun w'=>∃ p:BW wr,w'=p.w) (by kernel_rfl) (by kernel_rfl) ?_ ?_
     ·exact ⟨⟨_,I.out⟩,rfl⟩
     iterate 14 (refine RX.walkR_read ?_; simp only [dsc_,dz_,tsc_,tz_]; go_big_quiet_step (fail); refine wpQuiet_nil ?_)
     clear hnon q0 q1
     refine RX.walkR_move ?_
     simp only [dsc_,dz_,tsc_,tz_]
     go_wp2_with fail
     refine Calls.mono (Hcall.out _ (HB.out.trans (I.out.mono hBs))) ?_
     rintro e_ w2 ⟨rfl,hb_⟩
     have D:Hid (Below wr.heap.size wr w2):=I.out.trans (hb_.mono I.out.size)
     have HR2:=Lib.hid (HR.out.below D.out nr_)
     have HB2:=Lib.hid (HB.out.trans (D.out.mono hBs))
     clear hb_ I D Hcall HR HB
     by_cases hneg:c (F (p + 1)) (F p) < 0
     ·have HI2:=Lib.hid (HI.out.swap Hc.out hneg)
      have HR3:=Lib.hid (HR2.out.swap p (by have:=HI.out.n; omega))
      have HB3:=Lib.hid ((HB2.out.setCell (p:=⟨g,p + 1,none⟩) hB (.int .i64 (F p:Nat))).setCell (p:=⟨g,p,none⟩) hB (.int .i64 (F (p + 1):Nat)))
      have k1:=HR2.out.cell (p + 1) (by omega)
      have k0:=HR2.out.cell p (by omega)
      have f1:=HR2.out.fr (p + 1)
      have f0:=HR2.out.fr p
      generalize F (p + 1)=x at *
      generalize F p=y at *
      generalize c x y=z at *
      go_wp2_with fail
      refine RX.walkR_any ?_
      simp only [dsc_,dz_,tsc_,tz_]
      go_big_quiet_step (fail)
      refine wpQuiet_nil ?_
      refine RX.walkR_move ?_
      simp only [dsc_,dz_,tsc_,tz_]
      go_wp2_with fail
      simp only [RX.walkR]
      go_wp2_with fail
      go_region
      go_wp2
      go_roundw
      case rel=>exact ⟨p,_,by omega,rfl,HI2.out,HR3.out.below (Below.refl _ _).drew nr_,HB3.out.drew⟩
      case measure=>simp [intOf]
     ·have HS2:=Lib.hid (HI.out.stop (.inr (by rw [Nat.add_sub_cancel]; omega)))
      generalize F (p + 1)=x at *
      generalize F p=y at *
      generalize c x y=z at *
      go_wp2_with fail
      refine RX.walkR_any ?_
      simp only [dsc_,dz_,tsc_,tz_]
      go_big_quiet_step (fail)
      refine wpQuiet_nil ?_
      refine RX.walkR_move ?_
      simp only [dsc_,dz_,tsc_,tz_]
      go_wp2_with fail
      simp only [RX.walkR]
      go_wp2
      go_roundw
      case rel=>exact ⟨i + 1,F,by omega,by go_num,HS2.out,HR2.out,HB2.out⟩
      case measure=>simp [intOf]; omega
  ·have hlt':¬ (i:Int) < n:=by omega
   go_wp2
   go_end0
   exact ⟨rfl,F,⟨HS.out.lt,HS.out.inj,fun k hk=>HS.out.adj k (by omega)⟩,HR.out,HB.out⟩
end Go.Proofs.YtlomhfknmhaboaaGreatDoor

namespace Go.Proofs.YtlomhfknmhaboaaGreatDoor
open Go.RowKit
set_option maxHeartbeats 4000000 in
theorem bits_two (w:World) (L:Laid w):Gives Tryz.prog 145 #[.string (dec 2)] w (.int .i64 2):=by
 unfold Gives
 have h:=smallS_any w 2 (by rw [show (dec 2).size=1 by decide +kernel]; decide) L
 rw [if_pos (by decide)] at h
 have H:=Lib.hid h
 have Hl:Hid (∀ W:World,Calls Tryz.prog 167 #[.int .u64 2] W fun e w'=>e = .returned (.int .i64 2)∧w'=W):=fun W=>by
  have:=Tryz.bits_Len64 2 W (by decide) (by decide)
  rw [show ((Lib.bitLen ((2:Int).toNat):Nat):Int)=2 by decide +kernel] at this
  exact this
 clear L h
 generalize dec 2=s at *
 go_enter Tryz.func145,Tryz.ntmps145
 go_wp2_with fail
 refine Calls.mono H.out ?_
 rintro e w1 ⟨rfl,hb1⟩
 have B1:=Lib.hid hb1
 clear hb1 H
 go_wp2_with fail
 refine Calls.mono (Hl.out _) ?_
 rintro e w2 ⟨rfl,rfl⟩
 clear Hl
 go_wp2_with fail
 go_ret
 exact ⟨rfl,B1.out⟩
theorem readsU_one {w:World} {g:Nat} {t:TypeId} (h:w.heap[g]?=some (.cells #[.int .u64 1] t (0,0))):ReadsU w (some ⟨g,0,none⟩) (limbs 1):=by
 have e:limbs 1=[1]:=by decide +kernel
 rw [e]
 refine .inr ⟨g,0,rfl,(Array.getElem?_eq_some_iff.1 h).1,fun i hi=>?_⟩
 have:i=0:=by simp at hi; exact hi
 subst this
 rw [cell_of_row w g 0 _ t (0,0) h]; rfl
theorem size_pow (D y:Nat) (h:y < D):(dec (2 ^ y)).size≤D:=by
 rw [size_lt _ _ (by omega)]
 exact Nat.lt_of_le_of_lt (Nat.pow_le_pow_left (by decide) y) (Nat.pow_lt_pow_right (by decide) h)
theorem limbs_two (n y:Nat) (hn:n≤4000) (hy:y≤n):(limbs (2 ^ y)).length≤10000 :=
 limbs_of_dec _ 10000 (by decide) (size_pow 10000 y (by omega))
theorem size_two (n:Nat) (hn:n≤4000):(dec (2 ^ n)).size≤4001:=size_pow 4001 n (by omega)
theorem i64_and1 (n:Int):bits .and .i64 n 1=n % 2:=by
 have h1:(BitVec.ofInt 64 1).toNat=2 ^ 1 - 1:=by decide
 have key:(BitVec.ofInt 64 n &&& BitVec.ofInt 64 1).toNat=(n % ((2 ^ 64:Nat):Int)).toNat % 2 ^ 1:=by
  rw [BitVec.toNat_and,BitVec.toNat_ofInt,h1,Nat.and_two_pow_sub_one_eq_mod]
 show IntKind.i64.wrap ((BitVec.ofInt 64 n &&& BitVec.ofInt 64 1).toNat:Nat)=n % 2
 rw [key,IntKind.wrap_i64]
 omega
theorem and_one (k:Nat) (_:k < 4001):(bits BinOp.and IntKind.i64 (k:Nat) 1 == 1)=decide (k % 2=1):=by
 rw [i64_and1]
 by_cases h:k % 2=1
 ·rw [decide_eq_true h,beq_iff_eq]; omega
 ·rw [decide_eq_false h,beq_eq_false_iff_ne]; omega
theorem times_two (W:World) (n x y:Nat) (hn:n≤4000) (hx:x≤n) (hy:y≤n) (a1 a2:Option Addr) (c1 c2:Nat) (h1:ReadsU W a1 (limbs (2 ^ x))) (h2:ReadsU W a2 (limbs (2 ^ y))) :
  Calls Tryz.prog 143 #[.slice a1 (limbs (2 ^ x)).length c1,.slice a2 (limbs (2 ^ y)).length c2] W fun e w'=>∃ a c,e = .returned (.slice a (limbs (2 ^ (x + y))).length c)∧ReadsU w' a (limbs (2 ^ (x + y)))∧Below W.heap.size W w':=by
 have l1:=limbs_two n x hn hx
 have l2:=limbs_two n y hn hy
 refine Calls.mono (times_any W a1 a2 c1 c2 _ _ h1 h2 (limbs_pcs _) (limbs_pcs _) (by omega) (by omega)) ?_
 rintro e w' ⟨a,c,rfl,ho,hb⟩
 rw [val_limbs,val_limbs,← Nat.pow_add] at *
 exact ⟨a,c,rfl,ho.reads,hb⟩
set_option maxRecDepth 100000 in
set_option maxHeartbeats 8000000 in
theorem power2_any (w:World) (n:Nat) (hn:n≤4000) (L:Laid w):Gives Tryz.prog 121 #[.string (dec 2),.int .i64 n] w (.tuple #[.string (dec (2 ^ n)),.int .i64 0]):=by
 unfold Gives
 have hz:=is_zero 2
 have ho:=is_one 2
 rw [decide_eq_false (by decide)] at hz ho
 have Hb:Hid (∀ W,Below w.heap.size w W→Gives Tryz.prog 145 #[.string (dec 2)] W (.int .i64 2)):=fun W hW=>bits_two W (L.below hW)
 have Hc:Hid (∀ W,GivesU 142 #[.string (dec 2)] W 2):=fun W=>cutD W 2 (by unfold Num; rw [show (dec 2).size=1 by decide +kernel]; decide)
 have Hs:=Lib.hid (size_two n hn)
 clear L
 by_cases h0:n=0
 ·subst h0
  have Hv:Hid (dec (2 ^ 0)=⟨#[49]⟩):=by show _=_; rw [Nat.pow_zero,dec_one]
  generalize dec (2 ^ 0)=vv at *
  clear Hb Hc hn
  generalize dec 2=s at *
  go_enter Tryz.func121,Tryz.ntmps121
  go_wp2_with fail
  go_ret2
  exact ⟨by rw [Hv.out]; rfl,Below.refl _ _⟩
 ·have hn0:((n:Int) == 0)=false:=by rw [beq_eq_false_iff_ne]; omega
  have hnn:¬ (n:Int) < 0:=by omega
  have hnl:¬ (66439:Int) < n:=by omega
  unfold GivesU at Hc
  obtain ⟨vv,hvv⟩:∃ s,dec (2 ^ n)=s:=⟨_,rfl⟩
  have Hvv:=Lib.hid hvv
  rw [hvv] at Hs ⊢
  clear hvv
  generalize dec 2=s at *
  go_enter Tryz.func121,Tryz.ntmps121
  go_wp2_with fail
  refine Calls.mono (Hb.out _ (Below.refl _ _)) ?_
  rintro e w1 ⟨rfl,hb1⟩
  have B1:=Lib.hid hb1
  clear hb1 Hb
  go_wp2_with fail
  have B2:=Lib.hid (B1.out.alloc B1.out.size (.cells #[.int .u64 1] 112))
  have R1:Hid (ReadsU (w1.alloc (.cells #[.int .u64 1] 112)) (some ⟨w1.heap.size,0,none⟩) (limbs 1)):=readsU_one (Go.heap_alloc_new w1 _)
  generalize w1.alloc (.cells #[.int .u64 1] 112)=w2 at *
  clear B1
  refine Calls.mono (Hc.out _) ?_
  rintro e w3 ⟨a3,c3,rfl,ho,hb⟩
  have B3:=Lib.hid (B2.out.trans (hb.mono B2.out.size))
  have R2:=Lib.hid ho.reads
  replace R1:=Lib.hid (R1.out.below hb nr_)
  clear hb ho Hc B2
  have Hl1:Hid ((limbs 1).length=1):=Lib.hid (by decide +kernel)
  go_wp2_with fail
  go_loopw [1,7,8] (fun m o q wr=>∃ (k x y:Nat) (a1 a2:Option Addr) (c1 c2:Nat),m = .int .i64 k∧k≤n∧o = .slice a1 (limbs (2 ^ x)).length c1∧q = .slice a2 (limbs (2 ^ y)).length c2∧Hid (x + y * k=n)∧Hid (y≤n)∧Hid (ReadsU wr a1 (limbs (2 ^ x)))∧Hid (ReadsU wr a2 (limbs (2 ^ y)))∧Hid (Below w.heap.size w wr)) (fun m _ _ _=>(intOf m).toNat)
  case atStart =>
   refine ⟨n,0,1,some ⟨w1.heap.size,0,none⟩,a3,1,c3,rfl,Nat.le_refl _,by rw [Nat.pow_zero,Hl1.out],rfl,?_,?_,R1,R2,B3⟩
   ·show _=_; omega
   ·show _≤_; omega
  case round =>
   clear R1 R2 B3
   obtain ⟨k,x,y,a1,a2,c1,c2,rfl,hk,rfl,rfl,Hxy,Hy,R1,R2,B⟩:=hrel
   have Hx:Hid (x≤n):=by show _≤_; have:=Hxy.out; omega
   by_cases hk0:k=0
   ·subst hk0
    have hk1:¬ (0:Int) < ((0:Nat):Int):=by omega
    have Hx2:Hid (x=n):=by show _=_; have:=Hxy.out; omega
    rw [Hx2.out] at R1 ⊢
    have Hte:Hid (Gives Tryz.prog 144 #[.slice a1 (limbs (2 ^ n)).length c1] wr (.string vv)):=by
     have:=text_any wr a1 c1 (2 ^ n) R1.out (by have:=limbs_two n n hn nr_; omega)
     rw [Hvv.out] at this
     exact this
    have hsz:¬ (20000:Int) < vv.size:=by have:=Hs.out; omega
    go_wp2_with fail
    refine Calls.mono Hte.out ?_
    rintro e w9 ⟨rfl,hb⟩
    have B9:=Lib.hid (B.out.trans (hb.mono B.out.size))
    clear hb Hte
    go_wp2_with fail
    go_ret2
    exact ⟨rfl,B9.out⟩
   ·have hk1:(0:Int) < k:=by omega
    have hb:=and_one k (by omega)
    by_cases hodd:k % 2=1
    ·rw [decide_eq_true hodd] at hb
     have Ht:Hid (Calls Tryz.prog 143 #[.slice a1 (limbs (2 ^ x)).length c1,.slice a2 (limbs (2 ^ y)).length c2] wr fun e w'=>∃ a c,e = .returned (.slice a (limbs (2 ^ (x + y))).length c)∧ReadsU w' a (limbs (2 ^ (x + y)))∧Below wr.heap.size wr w'):=times_two wr n x y hn Hx.out Hy.out a1 a2 c1 c2 R1.out R2.out
     go_wp2_with fail
     refine Calls.mono Ht.out ?_
     rintro e w5 ⟨a5,c5,rfl,r5,hb5⟩
     have B5:=Lib.hid (B.out.trans (hb5.mono B.out.size))
     replace R1:=Lib.hid r5
     replace R2:=Lib.hid (R2.out.below hb5 nr_)
     clear hb5 r5 B Ht
     by_cases hk2:1 < k
     ·have hk2':(1:Int) < k:=by omega
      have Hxy2:Hid (x + y + (y + y) * (k / 2)=n):=by
       show _=_
       have h1:=Hxy.out
       obtain ⟨h,rfl⟩:∃ h,k=2 * h + 1:=⟨k / 2,by omega⟩
       rw [show (2 * h + 1) / 2=h by omega,Nat.add_mul]
       rw [Nat.mul_add,Nat.mul_left_comm] at h1
       omega
      have Ht:Hid (Calls Tryz.prog 143 #[.slice a2 (limbs (2 ^ y)).length c2,.slice a2 (limbs (2 ^ y)).length c2] w5 fun e w'=>∃ a c,e = .returned (.slice a (limbs (2 ^ (y + y))).length c)∧ReadsU w' a (limbs (2 ^ (y + y)))∧Below w5.heap.size w5 w'):=times_two w5 n y y hn Hy.out Hy.out a2 a2 c2 c2 R2.out R2.out
      go_wp2_with fail
      refine Calls.mono Ht.out ?_
      rintro e w6 ⟨a6,c6,rfl,r6,hb6⟩
      have B6:=Lib.hid (B5.out.trans (hb6.mono B5.out.size))
      replace R2:=Lib.hid r6
      replace R1:=Lib.hid (R1.out.below hb6 nr_)
      clear hb6 r6 B5 Ht
      go_wp2_with fail
      go_roundw
      case rel =>
       refine ⟨k / 2,x + y,y + y,_,_,_,_,by go_num,by omega,rfl,rfl,Hxy2,?_,R1,R2,B6⟩
       show _≤_
       have:=Hxy.out
       have h2:y * 2≤y * k:=Nat.mul_le_mul_left _ (by omega)
       omega
      case measure=>simp [intOf]; omega
     ·have hk2':¬ (1:Int) < k:=by omega
      go_wp2_with fail
      go_roundw
      case rel =>
       refine ⟨k / 2,x + y,y,_,_,_,_,by go_num,by omega,rfl,rfl,?_,Hy,R1,R2,B5⟩
       show _=_
       have:=Hxy.out
       have e1:k=1:=by omega
       subst e1
       have e2:(1 / 2:Nat)=0:=rfl
       rw [e2]
       omega
      case measure=>simp [intOf]; omega
    ·rw [decide_eq_false hodd] at hb
     by_cases hk2:1 < k
     ·have hk2':(1:Int) < k:=by omega
      have Hxy2:Hid (x + (y + y) * (k / 2)=n):=by
       show _=_
       have h1:=Hxy.out
       obtain ⟨h,rfl⟩:∃ h,k=2 * h:=⟨k / 2,by omega⟩
       rw [show (2 * h) / 2=h by omega,Nat.add_mul]
       rw [Nat.mul_left_comm] at h1
       omega
      have Ht:Hid (Calls Tryz.prog 143 #[.slice a2 (limbs (2 ^ y)).length c2,.slice a2 (limbs (2 ^ y)).length c2] wr fun e w'=>∃ a c,e = .returned (.slice a (limbs (2 ^ (y + y))).length c)∧ReadsU w' a (limbs (2 ^ (y + y)))∧Below wr.heap.size wr w'):=times_two wr n y y hn Hy.out Hy.out a2 a2 c2 c2 R2.out R2.out
      go_wp2_with fail
      refine Calls.mono Ht.out ?_
      rintro e w6 ⟨a6,c6,rfl,r6,hb6⟩
      have B6:=Lib.hid (B.out.trans (hb6.mono B.out.size))
      replace R2:=Lib.hid r6
      replace R1:=Lib.hid (R1.out.below hb6 nr_)
      clear hb6 r6 B Ht
      go_wp2_with fail
      go_roundw
      case rel =>
       refine ⟨k / 2,x,y + y,_,_,_,_,by go_num,by omega,rfl,rfl,Hxy2,?_,R1,R2,B6⟩
       show _≤_
       have:=Hxy.out
       have h2:y * 2≤y * k:=Nat.mul_le_mul_left _ (by omega)
       omega
      case measure=>simp [intOf]; omega
     ·omega
theorem p2:True:=trivial
end Go.Proofs.YtlomhfknmhaboaaGreatDoor

namespace Go.Proofs.YtlomhfknmhaboaaGreatDoor.LN
def lgGo (unit:Nat):Nat→Nat→Nat→Nat→Option Nat
 | 0,_,_,out=>some out
 | n + 1,lo,hi,out =>
  if 2 * unit≤lo * lo / unit then lgGo unit n (lo * lo / unit / 2) ((hi * hi / unit + 1) / 2 + 1) (2 * out + 1)
  else if 2 * unit≤hi * hi / unit + 1 then none
  else lgGo unit n (lo * lo / unit) (hi * hi / unit + 1) (2 * out)
def lg (p k n more:Nat):Option Nat:=lgGo (2 ^ more) n (p * 2 ^ (more - k)) (p * 2 ^ (more - k)) k
def dotI:List Int→List Int→Int
 | a :: l,b :: m=>a * b + dotI l m
 | _,_=>0
def sumAbs (l:List Int):Nat:=(l.map Int.natAbs).sum
def comb (x:Int) (u:List Int) (y:Int) (v:List Int):List Int:=List.zipWith (fun a b=>x * a - y * b) u v
theorem dotI_comb (x y:Int):∀ (u v k:List Int),u.length=v.length→dotI (comb x u y v) k=x * dotI u k - y * dotI v k
 | [],[],_,_=>by simp [comb,dotI]
 | a :: u,b :: v,[],_=>by simp [comb,dotI]
 | a :: u,b :: v,c :: k,h=>by
  have ih:=dotI_comb x y u v k (by simpa using h)
  have e:comb x (a :: u) y (b :: v)=(x * a - y * b) :: comb x u y v:=rfl
  rw [e]
  simp only [dotI]
  rw [ih]
  grind
 | [],_ :: _,_,h=>by simp at h
 | _ :: _,[],_,h=>by simp at h
theorem dotI_le (K:Nat):∀ (u k:List Int),(∀ x∈k,x.natAbs≤K)→(dotI u k).natAbs≤sumAbs u * K
 | [],_,_=>by simp [dotI]
 | _ :: _,[],_=>by simp [dotI]
 | a :: u,b :: k,h=>by
  have ih:=dotI_le K u k fun x hx=>h x (List.mem_cons_of_mem _ hx)
  have hb:=h b List.mem_cons_self
  have e:sumAbs (a :: u)=a.natAbs + sumAbs u:=by simp [sumAbs]
  rw [e,Nat.add_mul]
  simp only [dotI]
  have h1:=Int.natAbs_add_le (a * b) (dotI u k)
  rw [Int.natAbs_mul] at h1
  have h2:a.natAbs * b.natAbs≤a.natAbs * K:=Nat.mul_le_mul_left _ hb
  omega
def unitRow (m i:Nat) (d:Int):List Int:=(List.range m).map fun j=>if j=i then d else 0
def combs (m:Nat):List Int→List (List Int)→List Int
 | x :: l,u :: ls=>comb x u (-1) (combs m l ls)
 | _,_=>List.replicate m 0
theorem combs_length (m:Nat):∀ (l:List Int) (U:List (List Int)),(∀ u∈U,u.length=m)→(combs m l U).length=m
 | [],_,_=>by simp [combs]
 | _ :: _,[],_=>by simp [combs]
 | x :: l,u :: U,h=>by
  have ih:=combs_length m l U fun v hv=>h v (List.mem_cons_of_mem _ hv)
  simp only [combs,comb,List.length_zipWith,ih,h u List.mem_cons_self,Nat.min_self]
theorem dotI_zero (m:Nat) (k:List Int):dotI (List.replicate m 0) k=0:=by
 induction m generalizing k with
 | zero=>rfl
 | succ m ih =>
  cases k with
  | nil=>rfl
  | cons b k=>rw [List.replicate_succ,dotI,ih]; simp
theorem dotI_combs (m:Nat) (k:List Int):∀ (l:List Int) (U:List (List Int)),(∀ u∈U,u.length=m)→(∀ u∈U,dotI u k=0)→dotI (combs m l U) k=0
 | [],_,_,_=>by rw [combs]; exact dotI_zero m k; simp
 | _ :: _,[],_,_=>by rw [combs]; exact dotI_zero m k; simp
 | x :: l,u :: U,h,h0=>by
  rw [combs,dotI_comb _ _ _ _ _ (by rw [combs_length m l U fun v hv=>h v (List.mem_cons_of_mem _ hv)]; exact h u List.mem_cons_self),h0 u List.mem_cons_self,
   dotI_combs m k l U (fun v hv=>h v (List.mem_cons_of_mem _ hv)) (fun v hv=>h0 v (List.mem_cons_of_mem _ hv))]
  simp
theorem dotI_unit (d:Int):∀ (m i s:Nat) (k:List Int),dotI ((List.range' s m).map fun j=>if j=i then d else 0) k=if s≤i∧i < s + m then d * k.getD (i - s) 0 else 0
 | 0,i,s,k=>by
  rw [if_neg (by omega)]; rfl
 | m + 1,i,s,[]=>by simp [List.range'_succ,dotI]
 | m + 1,i,s,b :: k=>by
  rw [List.range'_succ,List.map_cons,dotI,dotI_unit d m i (s + 1) k]
  by_cases h:s=i
  ·subst h
   rw [if_pos rfl,if_neg (by omega),if_pos (by omega)]; simp
  ·rw [if_neg h]
   by_cases h2:s + 1≤i∧i < s + 1 + m
   ·rw [if_pos h2,if_pos (by omega)]
    have e:i - s=(i - (s + 1)) + 1:=by omega
    rw [e]; simp
   ·rw [if_neg h2,if_neg (by omega)]; simp
def certOk (a:Int) (L:List Int) (U V:List (List Int)) (d:Int) (K S:Nat):Bool :=
 decide (0 < a) && decide (d≠0) &&
 U.all (fun u=>decide (u.length=L.length) && decide (sumAbs (comb a u (u.headD 0) L) * K + (u.headD 0).natAbs * S < a.natAbs)) &&
 decide (V.length=L.length) && (List.range L.length).all (fun i=>decide (combs L.length (V.getD i []) U=unitRow L.length i d))
theorem cert_zero {a:Int} {L:List Int} {U V:List (List Int)} {d:Int} {K S:Nat} (h:certOk a L U V d K S=true) (k:List Int) (hk:k.length=L.length) (hK:∀ x∈k,x.natAbs≤K) (hS:(dotI L k).natAbs < S) :
  ∀ x∈k,x=0:=by
 unfold certOk at h
 simp only [Bool.and_eq_true,decide_eq_true_eq,List.all_eq_true,List.mem_range] at h
 obtain ⟨⟨⟨⟨ha,hd⟩,hU⟩,hV⟩,hI⟩:=h
 have h0:∀ u∈U,dotI u k=0:=by
  intro u hu
  obtain ⟨h1,h2⟩:=hU u hu
  have e:=dotI_comb a (u.headD 0) u L k h1
  have b:=dotI_le K (comb a u (u.headD 0) L) k hK
  generalize u.headD 0=q at *
  generalize dotI u k=f at *
  generalize dotI L k=T at *
  generalize sumAbs (comb a u q L) * K=A at *
  rw [e] at b
  have h3:(a * f).natAbs≤(a * f - q * T).natAbs + (q * T).natAbs:=by omega
  rw [Int.natAbs_mul,Int.natAbs_mul q T] at h3
  have h5:q.natAbs * T.natAbs≤q.natAbs * S:=Nat.mul_le_mul_left _ (by omega)
  have h6:a.natAbs * f.natAbs < a.natAbs * 1:=by omega
  have h7:f.natAbs < 1:=Nat.lt_of_mul_lt_mul_left h6
  omega
 intro x hx
 obtain ⟨i,hi,rfl⟩:=List.mem_iff_getElem.1 hx
 have h1:=hI i (by omega)
 have h2:=dotI_combs L.length k (V.getD i []) U (fun u hu=>(hU u hu).1) h0
 rw [h1,unitRow,List.range_eq_range',dotI_unit d _ i 0 k,if_pos (by omega)] at h2
 rw [Nat.sub_zero,List.getD_eq_getElem?_getD,List.getElem?_eq_getElem hi,Option.getD_some] at h2
 rcases Int.mul_eq_zero.1 h2 with h3 | h3
 ·exact absurd h3 hd
 ·exact h3
def upT:List (Int×Int)→Nat
 | []=>1
 | x :: l=>x.1.toNat ^ x.2.toNat * upT l
def negT (l:List (Int×Int)):List (Int×Int):=l.map fun x=>(x.1,-x.2)
theorem negT_negT (l:List (Int×Int)):negT (negT l)=l:=by
 unfold negT
 rw [List.map_map]
 conv=>rhs; rw [← List.map_id l]
 refine List.map_congr_left fun x _=>?_
 simp
def signT (l:List (Int×Int)):Int:=if upT (negT l) < upT l then 1 else if upT l < upT (negT l) then -1 else 0
structure LogAt (n:Nat) (p:Int) (L:Nat):Prop where
 le:2 ^ L≤p.toNat ^ (2 ^ n)
 lt:p.toNat ^ (2 ^ n) < 2 ^ (L + 1)
 two:p=2→L=2 ^ n
 odd:p≠2→2 ^ L < p.toNat ^ (2 ^ n)
def hiL (f:Int→Nat) (p:Int):Nat:=if p=2 then f p else f p + 1
def loS (f:Int→Nat):List (Int×Int)→Nat
 | []=>0
 | x :: l=>x.2.toNat * f x.1 + loS f l
def hiS (f:Int→Nat):List (Int×Int)→Nat
 | []=>0
 | x :: l=>x.2.toNat * hiL f x.1 + hiS f l
theorem pow_le_up (n:Nat) (f:Int→Nat):∀ l:List (Int×Int),(∀ x∈l,LogAt n x.1 (f x.1))→2 ^ loS f l≤upT l ^ (2 ^ n)
 | [],_=>by simp [loS,upT]
 | x :: l,h=>by
  have ih:=pow_le_up n f l fun y hy=>h y (List.mem_cons_of_mem _ hy)
  have hx:=(h x List.mem_cons_self).le
  rw [loS,upT,Nat.pow_add,Nat.mul_pow]
  refine Nat.mul_le_mul ?_ ih
  rw [← Nat.pow_mul,Nat.mul_comm x.2.toNat,Nat.mul_comm x.2.toNat,Nat.pow_mul,Nat.pow_mul]
  exact Nat.pow_le_pow_left hx _
theorem up_pos (n:Nat) (f:Int→Nat) (l:List (Int×Int)) (h:∀ x∈l,LogAt n x.1 (f x.1)):0 < upT l:=by
 have:=pow_le_up n f l h
 by_cases h0:upT l=0
 ·rw [h0,Nat.zero_pow (Nat.two_pow_pos _)] at this
  have:=Nat.two_pow_pos (loS f l)
  omega
 ·omega
theorem up_le_pow (n:Nat) (f:Int→Nat):∀ l:List (Int×Int),(∀ x∈l,LogAt n x.1 (f x.1))→upT l ^ (2 ^ n)≤2 ^ hiS f l
 | [],_=>by simp [hiS,upT]
 | x :: l,h=>by
  have ih:=up_le_pow n f l fun y hy=>h y (List.mem_cons_of_mem _ hy)
  have hx:=h x List.mem_cons_self
  have hh:x.1.toNat ^ (2 ^ n)≤2 ^ hiL f x.1:=by
   unfold hiL
   split
   ·rename_i e; rw [hx.two e,e]; exact Nat.le_refl _
   ·exact Nat.le_of_lt hx.lt
  rw [hiS,upT,Nat.pow_add,Nat.mul_pow]
  refine Nat.mul_le_mul ?_ ih
  rw [← Nat.pow_mul,Nat.mul_comm x.2.toNat,Nat.pow_mul,Nat.mul_comm x.2.toNat,Nat.pow_mul 2]
  exact Nat.pow_le_pow_left hh _
theorem mul_lt_left {a b c d:Nat} (h:a < b) (h2:c≤d) (hd:0 < d):a * c < b * d:=Nat.lt_of_le_of_lt (Nat.mul_le_mul_left _ h2) (Nat.mul_lt_mul_of_pos_right h hd)
theorem mul_lt_right {a b c d:Nat} (h:a≤b) (h2:c < d) (hb:0 < b):a * c < b * d:=Nat.lt_of_le_of_lt (Nat.mul_le_mul_right _ h) (Nat.mul_lt_mul_of_pos_left h2 hb)
theorem pow_lt_up (n:Nat) (f:Int→Nat):∀ l:List (Int×Int),(∀ x∈l,LogAt n x.1 (f x.1))→(∃ x∈l,x.1≠2∧0 < x.2)→2 ^ loS f l < upT l ^ (2 ^ n)
 | [],_,h=>by obtain ⟨_,h,_⟩:=h; cases h
 | x :: l,h,h2=>by
  have hl:∀ y∈l,LogAt n y.1 (f y.1):=fun y hy=>h y (List.mem_cons_of_mem _ hy)
  have ih0:=pow_le_up n f l hl
  have hx:=h x List.mem_cons_self
  have hp0:=Nat.pow_pos (n:=2 ^ n) (up_pos n f l hl)
  rw [loS,upT,Nat.pow_add,Nat.mul_pow]
  have e1:2 ^ (x.2.toNat * f x.1)=(2 ^ f x.1) ^ x.2.toNat:=by rw [Nat.mul_comm,Nat.pow_mul]
  have e2:(x.1.toNat ^ x.2.toNat) ^ (2 ^ n)=(x.1.toNat ^ (2 ^ n)) ^ x.2.toNat:=by rw [← Nat.pow_mul,Nat.mul_comm,Nat.pow_mul]
  rw [e1,e2]
  obtain ⟨y,hy,hy2,hy0⟩:=h2
  rcases List.mem_cons.1 hy with rfl | hy
  ·exact mul_lt_left (Nat.pow_lt_pow_left (hx.odd hy2) (by omega)) ih0 hp0
  ·have ih:=pow_lt_up n f l hl ⟨y,hy,hy2,hy0⟩
   exact mul_lt_right (Nat.pow_le_pow_left hx.le _) ih (Nat.pow_pos (Nat.lt_of_lt_of_le (Nat.two_pow_pos _) hx.le))
theorem up_lt_pow (n:Nat) (f:Int→Nat):∀ l:List (Int×Int),(∀ x∈l,LogAt n x.1 (f x.1))→(∃ x∈l,x.1≠2∧0 < x.2)→upT l ^ (2 ^ n) < 2 ^ hiS f l
 | [],_,h=>by obtain ⟨_,h,_⟩:=h; cases h
 | x :: l,h,h2=>by
  have hl:∀ y∈l,LogAt n y.1 (f y.1):=fun y hy=>h y (List.mem_cons_of_mem _ hy)
  have ih0:=up_le_pow n f l hl
  have hx:=h x List.mem_cons_self
  have hh:x.1.toNat ^ (2 ^ n)≤2 ^ hiL f x.1:=by
   unfold hiL
   split
   ·rename_i e; rw [hx.two e,e]; exact Nat.le_refl _
   ·exact Nat.le_of_lt hx.lt
  rw [hiS,upT,Nat.pow_add,Nat.mul_pow]
  have e1:2 ^ (x.2.toNat * hiL f x.1)=(2 ^ hiL f x.1) ^ x.2.toNat:=by rw [Nat.mul_comm,Nat.pow_mul]
  have e2:(x.1.toNat ^ x.2.toNat) ^ (2 ^ n)=(x.1.toNat ^ (2 ^ n)) ^ x.2.toNat:=by rw [← Nat.pow_mul,Nat.mul_comm,Nat.pow_mul]
  rw [e1,e2]
  obtain ⟨y,hy,hy2,hy0⟩:=h2
  rcases List.mem_cons.1 hy with rfl | hy
  ·refine mul_lt_left (Nat.pow_lt_pow_left ?_ (by omega)) ih0 (Nat.two_pow_pos _)
   unfold hiL
   rw [if_neg hy2]
   exact hx.lt
  ·have ih:=up_lt_pow n f l hl ⟨y,hy,hy2,hy0⟩
   exact mul_lt_right (Nat.pow_le_pow_left hh _) ih (Nat.pow_pos (Nat.two_pow_pos _))
theorem negT_log {n:Nat} {f:Int→Nat} {l:List (Int×Int)} (h:∀ x∈l,LogAt n x.1 (f x.1)):∀ x∈negT l,LogAt n x.1 (f x.1):=by
 intro x hx
 obtain ⟨y,hy,rfl⟩:=List.mem_map.1 hx
 exact h y hy
theorem low_sign (n:Nat) (f:Int→Nat) (l:List (Int×Int)) (h:∀ x∈l,LogAt n x.1 (f x.1)) (h0:∀ x∈l,x.2≠0) (hne:l≠[]) (hd:(l.map Prod.fst).Nodup) (hlow:hiS f (negT l)≤loS f l) :
  upT (negT l) < upT l:=by
 have hn:∀ x∈negT l,LogAt n x.1 (f x.1):=negT_log h
 have c1:=up_le_pow n f (negT l) hn
 have c2:=pow_le_up n f l h
 have c3:2 ^ hiS f (negT l)≤2 ^ loS f l:=Nat.pow_le_pow_right (by decide) hlow
 have key:upT (negT l) ^ (2 ^ n) < upT l ^ (2 ^ n)→upT (negT l) < upT l:=fun hk=>(Nat.pow_lt_pow_iff_left (Nat.ne_of_gt (Nat.two_pow_pos n))).1 hk
 by_cases hodd:∃ x∈l,x.1≠2
 ·obtain ⟨x,hx,hx2⟩:=hodd
  have hx0:=h0 x hx
  by_cases hp:0 < x.2
  ·have:=pow_lt_up n f l h ⟨x,hx,hx2,hp⟩
   exact key (by omega)
  ·have:=up_lt_pow n f (negT l) hn ⟨(x.1,-x.2),List.mem_map.2 ⟨x,hx,rfl⟩,hx2,by show 0 < -x.2; omega⟩
   exact key (by omega)
 ·have h2:∀ x∈l,x.1=2:=fun x hx=>Classical.byContradiction fun hh=>hodd ⟨x,hx,hh⟩
  match l,hne,hd,h2,h0,hlow with
  | [x],_,_,h2,h0,hlow =>
   have e:=h2 x List.mem_cons_self
   have hx0:=h0 x List.mem_cons_self
   have hf:=(h x List.mem_cons_self).two e
   have hpos:=Nat.two_pow_pos n
   simp only [negT,List.map_cons,List.map_nil,hiS,loS,hiL,if_pos e,upT,Nat.add_zero,Nat.mul_one] at hlow ⊢
   rw [hf] at hlow
   have h3:(-x.2).toNat≤x.2.toNat:=Nat.le_of_mul_le_mul_right hlow hpos
   have h4:0 < x.2:=by omega
   have h5:(-x.2).toNat=0:=by omega
   rw [h5,e]
   exact Nat.one_lt_two_pow (by omega)
  | x :: y :: r,_,hd,h2,_,_ =>
   exfalso
   have e1:=h2 x List.mem_cons_self
   have e2:=h2 y (List.mem_cons_of_mem _ List.mem_cons_self)
   simp only [List.map_cons,List.nodup_cons,List.mem_cons] at hd
   exact hd.1 (.inl (by rw [e1,e2]))
theorem sign_low (n:Nat) (f:Int→Nat) (l:List (Int×Int)) (h:∀ x∈l,LogAt n x.1 (f x.1)) (h0:∀ x∈l,x.2≠0) (hne:l≠[]) (hd:(l.map Prod.fst).Nodup) (hlow:hiS f (negT l)≤loS f l):signT l=1:=by
 unfold signT
 rw [if_pos (low_sign n f l h h0 hne hd hlow)]
theorem signT_neg (l:List (Int×Int)):signT (negT l) = - signT l:=by
 unfold signT
 rw [negT_negT]
 by_cases h:upT (negT l) < upT l
 ·rw [if_pos h,if_neg (by omega),if_pos h]
 ·rw [if_neg h]
  by_cases h2:upT l < upT (negT l)
  ·rw [if_pos h2,if_neg h,if_pos h2]; rfl
  ·rw [if_neg h2,if_neg h,if_neg h2]; rfl
theorem sign_high (n:Nat) (f:Int→Nat) (l:List (Int×Int)) (h:∀ x∈l,LogAt n x.1 (f x.1)) (h0:∀ x∈l,x.2≠0) (hne:l≠[]) (hd:(l.map Prod.fst).Nodup) (hhigh:hiS f l≤loS f (negT l)):signT l = -1:=by
 have:=sign_low n f (negT l) (negT_log h) (by
  intro x hx
  obtain ⟨y,hy,rfl⟩:=List.mem_map.1 hx
  have:=h0 y hy
  show -y.2≠0
  omega) (by simpa [negT] using hne) (by
  have e:(negT l).map Prod.fst=l.map Prod.fst:=by simp [negT]
  rw [e]; exact hd) (by rw [negT_negT]; exact hhigh)
 rw [signT_neg] at this
 omega
def coefP (p:Int):List (Int×Int)→Int
 | []=>0
 | x :: l=>(if x.1=p then x.2 else 0) + coefP p l
theorem dotI_add (a b:List Int):∀ (u:List Int) (pr:List Int) (g h:Int→Int),dotI u (pr.map fun p=>g p + h p)=dotI u (pr.map g) + dotI u (pr.map h)
 | [],_,_,_=>by simp [dotI]
 | _ :: _,[],_,_=>by simp [dotI]
 | c :: u,p :: pr,g,h=>by
  have ih:=dotI_add a b u pr g h
  simp only [List.map_cons,dotI]
  rw [ih,Int.mul_add]
  omega
theorem dotI_none (f:Int→Int) (c q:Int):∀ pr:List Int,q ∉ pr→dotI (pr.map f) (pr.map fun p=>if q=p then c else 0)=0
 | [],_=>by simp [dotI]
 | p :: pr,h=>by
  simp only [List.mem_cons,not_or] at h
  simp only [List.map_cons,dotI]
  rw [if_neg h.1,dotI_none f c q pr h.2]; simp
theorem dotI_at (f:Int→Int) (c q:Int):∀ pr:List Int,pr.Nodup→q∈pr→dotI (pr.map f) (pr.map fun p=>if q=p then c else 0)=c * f q
 | [],_,h=>by simp at h
 | p :: pr,hd,h=>by
  simp only [List.nodup_cons] at hd
  simp only [List.map_cons,dotI]
  by_cases e:q=p
  ·rw [if_pos e,e,dotI_none f c p pr hd.1,Int.mul_comm]; omega
  ·rw [if_neg e,dotI_at f c q pr hd.2 (by simpa [e] using h)]; omega
def sumT (f:Int→Nat):List (Int×Int)→Int
 | []=>0
 | x :: l=>x.2 * f x.1 + sumT f l
theorem dotI_coef (f:Int→Nat) (pr:List Int) (hd:pr.Nodup):∀ l:List (Int×Int),(∀ x∈l,x.1∈pr)→dotI (pr.map fun p=>(f p:Int)) (pr.map fun p=>coefP p l)=sumT f l
 | [],_=>by
  simp only [coefP,sumT]
  have e:∀ u v:List Int,dotI u (v.map fun _=>0)=0:=by
   intro u
   induction u with
   | nil=>intro v; cases v <;> rfl
   | cons a u ih =>
    intro v
    cases v with
    | nil=>rfl
    | cons b v=>simp only [List.map_cons,dotI]; rw [ih]; simp
  exact e _ _
 | x :: l,h=>by
  have ih:=dotI_coef f pr hd l fun y hy=>h y (List.mem_cons_of_mem _ hy)
  simp only [coefP,sumT]
  rw [dotI_add [] [],ih,dotI_at _ _ _ pr hd (h x List.mem_cons_self)]
theorem coefP_none (p:Int):∀ l:List (Int×Int),p ∉ l.map Prod.fst→coefP p l=0
 | [],_=>rfl
 | x :: l,h=>by
  simp only [List.map_cons,List.mem_cons,not_or] at h
  rw [coefP,if_neg (fun e=>h.1 e.symm),coefP_none p l h.2]; rfl
theorem coefP_mem:∀ l:List (Int×Int),(l.map Prod.fst).Nodup→∀ x∈l,coefP x.1 l=x.2
 | [],_,_,h=>by cases h
 | y :: l,hd,x,h=>by
  simp only [List.map_cons,List.nodup_cons] at hd
  rcases List.mem_cons.1 h with rfl | h
  ·rw [coefP,if_pos rfl,coefP_none _ l hd.1]; omega
  ·rw [coefP,if_neg (fun e=>hd.1 (by rw [e]; exact List.mem_map.2 ⟨x,h,rfl⟩)),coefP_mem l hd.2 x h]; omega
theorem coefP_le (K:Nat) (l:List (Int×Int)) (hd:(l.map Prod.fst).Nodup) (hK:∀ x∈l,x.2.natAbs≤K) (p:Int):(coefP p l).natAbs≤K:=by
 by_cases h:p∈l.map Prod.fst
 ·obtain ⟨x,hx,rfl⟩:=List.mem_map.1 h
  rw [coefP_mem l hd x hx]; exact hK x hx
 ·rw [coefP_none p l h]; simp
theorem hiS_le (f:Int→Nat) (K:Nat):∀ l:List (Int×Int),(∀ x∈l,x.2.natAbs≤K)→hiS f l≤loS f l + l.length * K
 | [],_=>by simp [hiS,loS]
 | x :: l,h=>by
  have ih:=hiS_le f K l fun y hy=>h y (List.mem_cons_of_mem _ hy)
  have hx:=h x List.mem_cons_self
  have e:hiL f x.1≤f x.1 + 1:=by unfold hiL; split <;> omega
  have e2:x.2.toNat * hiL f x.1≤x.2.toNat * (f x.1 + 1):=Nat.mul_le_mul_left _ e
  rw [Nat.mul_add] at e2
  rw [hiS,loS,List.length_cons,Nat.add_mul]
  omega
theorem sumT_eq (f:Int→Nat):∀ l:List (Int×Int),sumT f l=(loS f l:Int) - (loS f (negT l):Int)
 | []=>rfl
 | x :: l=>by
  have ih:=sumT_eq f l
  have e:negT (x :: l)=(x.1,-x.2) :: negT l:=rfl
  rw [sumT,ih,e,loS,loS]
  rw [Int.natCast_add,Int.natCast_add,Int.natCast_mul,Int.natCast_mul]
  have h:x.2=(x.2.toNat:Int) - ((-x.2).toNat:Int):=by omega
  generalize (x.2.toNat:Int)=a at *
  generalize ((-x.2).toNat:Int)=b at *
  rw [h]
  grind
theorem ends_decide {a d:Int} {pr:List Int} {f:Int→Nat} {U V:List (List Int)} {K S:Nat} (hc:certOk a (pr.map fun p=>(f p:Int)) U V d K S=true) (hp:pr.Nodup) (l:List (Int×Int)) (hl:l.length * K≤S) (hne:l≠[])
  (hm:∀ x∈l,x.1∈pr∧x.2≠0∧x.2.natAbs≤K) (hd:(l.map Prod.fst).Nodup):hiS f (negT l)≤loS f l∨hiS f l≤loS f (negT l):=by
 have h1:=hiS_le f K l fun x hx=>(hm x hx).2.2
 have h2:=hiS_le f K (negT l) (by
  intro x hx
  obtain ⟨y,hy,rfl⟩:=List.mem_map.1 hx
  have:=(hm y hy).2.2
  show (-y.2).natAbs≤K
  omega)
 have e:(negT l).length=l.length:=by simp [negT]
 rw [e] at h2
 have h3:=sumT_eq f l
 by_cases hT:(sumT f l).natAbs < S
 ·exfalso
  rw [← dotI_coef f pr hp l fun x hx=>(hm x hx).1] at hT
  have h4:=cert_zero hc (pr.map fun p=>coefP p l) (by simp) (by
   intro x hx
   obtain ⟨p,_,rfl⟩:=List.mem_map.1 hx
   exact coefP_le K l hd (fun y hy=>(hm y hy).2.2) p) hT
  match l,hne with
  | x :: r,_ =>
   have h5:=h4 _ (List.mem_map.2 ⟨x.1,(hm x List.mem_cons_self).1,rfl⟩)
   rw [coefP_mem _ hd x List.mem_cons_self] at h5
   exact (hm x List.mem_cons_self).2.1 h5
 ·omega
def certL:List Int:=[179769313486231590772930519078902473361797697894230657273430081157732675805500963132708477322407536021120113879871393357658789768814416622492847430639474124377767893424865485276302219601246094119453082952085005768838150682342462881473913110540827237163350510684586298239947245938479716304835356329624224137216,284927620656063089346731796384423062894173922742544388268143673752537756183546571537032060353371466816773127126641744722713352439279873718317761842880439823388246733129821933154999969794940367169528507713597703293501225656468836512330451109106556546484957172329017475735990380315252547391823925065085415830706,417411419582294732896156489886154238448013320157255640262591015340590871398055171674354685851436277043969488387805834784269416499993679630854470083136767565961762416444355884854643698642680661331046329726609798457044907851814692689997919935740891485193992980213442174017676677705033790300799565328174789721477,504676267050488686437106225422580597666894180115835423443227083307798182118129470961836692572602004275197053008847790122226159407050037386686227374490996006831065115100048654528796805287857493370208467706711144940390867662095296958256666553836865344662997681178618211252555414200909783814338893188237609625780,621899647134989863023931440843230302890983592943748869067988172264563165309608343386292530753941856327296297447054373896510077744639892806611394391743834589735893855764598242929310750820193556622274206181954361442867402987237247717098957447016989915817775870019501087911877572648074267091007255239964369023968,665225507727408465455298695894691710776360314087386563812869573730968267223165639273012984180830913649657093046906068992579944353826624953775464535759564037586356204133016200974813196209296864512605219833214582093815415417608006173877679388939375373503941628536552970450384072436140060704944322076520073283839]
def certU:List (List Int):=[[1361033472052420067100991309064931182091716853391540550899091113545676748165654069454734507830540625923066749738613742662526501494649565328672781710912470855,2157187015429401542138602315378835738079865318741913695197763694877679196962452355322909935492129080345135728398755778866915216677702864904886518349498144093,3160221856840607851781685108452959817026979136557082784519095198183545416828782748691856911460833185893891199012493182590421586823167653542796686423181411803,3820904016851512035743762372109566630477041885378486680143976467669200300212202542157276498189701081899028256409122481989077119745557940859571796331901780602,4708402227241844230881350710329385429292965180311929874646927949603148181156687490795565250855988629463347595457426767248645121403373850130316622376205655824,5036422317702249347264984242308634347603162440235819245412201338095351364705523284785619822633893970185542775747311911336783041820236677902723153542003541995],
 [299687973565947336953693908348658651332127021025370730890883623972659747075648952750207292919729408951165823130818603758290601433328042680561826125489066428,474994200019139640690896719015381054735292729699790408945830646826654284457084852625941217336849063751168404185314953447875618807762968794960545658399964795,695853925522634307249243517247788056805708280722354982344522670436784936810433857855919843198532036588375876439367016064304325129116049564645826288286436995,841330507671831406218103970697802099080070115711533135025373126392723083358858942563189157022256615979955037365105244659930907228808843221236499661374110289,1036750051479376748850033988793626597154995220661079736838726668451637290619206291200505783075082688000877676034076233903503798073310428799011686117489740735,1108977280432649241595140457724586490268455016437124571879230895310093956060594635296497046358777904624265570982229960398488559448522718359131628436452776618],
 [2001432095227681370883033031250657280124239008502396240436193329269779899751073734437881335263033118934661407649401662184445142860843476241971244864603027187,3172194818675649062031549948976346458446291575480633127138527180430090144149945657870703384176547217957998590193298519253946520383353142275844076215046404066,4647181411918432184657996063106137228541057445042859272797028758732513247711022952874593278003645411586711998681909461184937906440067320029532798507864848774,5618730243701494716647491390234016366368147732801005815257985401286419595231562467358169747618992550500502402060613155528580022043540105943291290066113212642,6923817472786135026020292681272359069572685393380617174853881444661977508302607758245986734774019457876979478431489431680461110991886850855640535885324347296,7406178818342856776067456999577349708314416427421774025318657928833991150289316239750934511444397348343774950016253631819156198089215566095848780701490864144],
 [528536423608438686412855271308878199418637088432614320111589911024224382198177128949494362669026076740489188478845726431331723513448155828996706397443325180,837710411684647310522312564104097923139117177113334471362723484405395424151008043983617035281865417395962957088666166267423693251318731944589703713618244329,1227223571147721963246630617648243717815284933494361643201768985968400112439714151460557394407565771139456530795453357502363423731760793034538519393449417404,1483789330303873215968878480452065504812046379488041405674753539793795422454494893163083848604039861079831537330639296756576330493295598940741832154454008688,1828435615432509255958100752235191297210724831090028852837000190432020360373150501910418670178265213952829967280722348250891518419506460528213470146761147669,1955817174404911741025196141353996465572258277146385975044836535532311654150798060211842806764077658974214099154631403207719281988005843100572202176183955081],
 [-1468711569869691212917947732134083722669835323809775214024289413578456753408037268869249086956462231433613497000907220577351639694601234134310649204034172316,-2327852762618760886438615551826346136370330168494265847894449738559028087832799593039841031943095790346604355658488125946578561954780542160298345901268352557,-3410242657366559293362990450499318662931329652440687467996352748484304130112546146565531321508257651827946757887834523977466162302035935620424198790339117028,-4123194654756628344277387666377040541457073401299737549360184284561605431593927292627723203544564083235736204424728469325429173003124213574712357752737593408,-5080907243465631775491331725106607667567794020555851403113895506647993464455619343303375350433823317991140303009422864311178241460123997725934828520026953170,-5434878627639161137069877451178110586761807883549011422834890840123801581219167459321135220817687924522379993148257513492372263375648300907571638870552930820],
 [-2527278727899951042357277652887687714676139814654455825895183801797394312577171470996587787488447973546590744938596754242248050652665729495409064860168750388,-4005642012591688830853788306767450225437525695850649207367482469960977507820045796608400918880715182390339297186644147711819811945556751576743803637464260210,-5868159481922089932185961686356109783421000151793657433855863935794100273872111461436697788866984813598223636272238364084392763747068349791942404099818116664,-7094968376181407917698486220318039050815038790087114445294460660285453776174777870811938078891803417542019334178004801170201148860672020225345222745338937759,-8742947940406537175524478993752549231321711125631551583381469936189250544112233396909737085879577827848253228263908699479854100689968661105092076296067226517,-9352042583534072783038683109624319367784842669410329692573031045141955386391775295867783423242100705425423420660519481116735025587912157359844666391581864370]]
def certV:List (List Int):=[[-5056625427619646027375557688934,22492767048728521515228088672644,100757843318868131663255231251409,-109175424216025810518427626349458,43791622722594357708666376464250,31456010246780842523074201168758],
 [14843321736870989170892935211302,-1566413707272055504716434875294,-13231873144781301898553196621410,-4473938268507226690064737724278,-7234649816335129238870443013471,597916375160099280812978039558],
 [-10106195131634014064109565408074,-23752526617964760938273316614011,-2161618493810056733233408947394,11217398622667791280982723293654,-1919025075220832533891098335435,-6509868020063796828750396523277],
 [6851462341036060952856831869449,6038656074418965050194601037329,-11645716143813286921558515426769,2256681498008609696986867869759,5109170126994287454266492989097,-7313988198921797883712129588856],
 [-20280857652371422586076982416269,3240353442599273281533504304323,-6207198472621478050629739916295,10933570427373787624652298476831,-12444462319387663796445073593709,-5934842575408006771328159897859],
 [15112292982976400489100645344947,1886037157824657007738630660331,-5566814279214676496689364407767,12447496499081282177953624596476,226561372143848006543391518164,6425156145734365554949928231685]]
theorem cert_ok:certOk (2 ^ 1024) certL certU certV 1 (2 ^ 100) (2 ^ 503)=true:=by decide +kernel
end Go.Proofs.YtlomhfknmhaboaaGreatDoor.LN

namespace Go.Proofs.YtlomhfknmhaboaaGreatDoor
def digIt (unit:Nat):Nat→Nat×Nat×Nat→Option (Nat×Nat×Nat)
 | 0,s=>some s
 | n + 1,s=>(digStep unit s).bind (digIt unit n)
theorem digIt_snoc (unit:Nat):∀ (n:Nat) (s:Nat×Nat×Nat),digIt unit (n + 1) s=(digIt unit n s).bind (digStep unit)
 | 0,s=>by simp [digIt]
 | n + 1,s=>by
  show (digStep unit s).bind (digIt unit (n + 1))=((digStep unit s).bind (digIt unit n)).bind (digStep unit)
  cases digStep unit s with
  | none=>rfl
  | some t=>exact digIt_snoc unit n t
theorem digs_it (p more:Nat):∀ n,digs p more n=digIt (2 ^ more) n (p * 2 ^ (more - p.log2),p * 2 ^ (more - p.log2),p.log2)
 | 0=>rfl
 | n + 1=>by rw [digIt_snoc,← digs_it p more n]; rfl
theorem lgGo_it (unit:Nat):∀ (n lo hi out:Nat),LN.lgGo unit n lo hi out=(digIt unit n (lo,hi,out)).map fun s=>s.2.2
 | 0,_,_,_=>rfl
 | n + 1,lo,hi,out=>by
  unfold LN.lgGo digIt digStep
  simp only
  split
  ·rw [lgGo_it unit n]; rfl
  ·split
   ·rfl
   ·rw [lgGo_it unit n]; rfl
theorem lg_digs (p n more:Nat):LN.lg p p.log2 n more=(digs p more n).map fun s=>s.2.2:=by
 rw [digs_it]; exact lgGo_it _ _ _ _ _
structure Finer (u:Nat) (s t:Nat×Nat×Nat):Prop where
 lo:s.1 * u≤t.1
 hi:t.2.1≤s.2.1 * u
 out:t.2.2=s.2.2
 le:t.1≤t.2.1
theorem finer_step {unit u:Nat} (hu:0 < u) (h0:0 < unit) {s t s':Nat×Nat×Nat} (h:Finer u s t) (hs:digStep unit s=some s'):∃ t',digStep (unit * u) t=some t'∧Finer u s' t':=by
 obtain ⟨l,g,o⟩:=s
 obtain ⟨l2,g2,o2⟩:=t
 obtain ⟨hl,hg,ho,hle⟩:=h
 simp only at hl hg ho hle
 subst ho
 have q1:l * l / unit * u≤l2 * l2 / (unit * u):=by
  rw [Nat.le_div_iff_mul_le (Nat.mul_pos h0 hu)]
  have a:=Nat.div_mul_le_self (l * l) unit
  calc l * l / unit * u * (unit * u)=(l * l / unit * unit) * (u * u):=by ac_rfl
   _≤l * l * (u * u):=Nat.mul_le_mul_right _ a
   _=(l * u) * (l * u):=by ac_rfl
   _≤_:=Nat.mul_le_mul hl hl
 have q2:g2 * g2 / (unit * u) + 1≤(g * g / unit + 1) * u:=by
  rw [Nat.add_one_le_iff,Nat.div_lt_iff_lt_mul (Nat.mul_pos h0 hu)]
  have a:=Nat.lt_div_mul_add (a:=g * g) h0
  have b:g * g < (g * g / unit + 1) * unit:=by rw [Nat.add_mul,Nat.one_mul]; exact a
  calc g2 * g2≤(g * u) * (g * u):=Nat.mul_le_mul hg hg
   _=g * g * (u * u):=by ac_rfl
   _ < (g * g / unit + 1) * unit * (u * u):=Nat.mul_lt_mul_of_pos_right b (Nat.mul_pos hu hu)
   _=_:=by ac_rfl
 have q3:l2 * l2 / (unit * u)≤g2 * g2 / (unit * u) + 1:=Nat.le_succ_of_le (Nat.div_le_div_right (Nat.mul_le_mul hle hle))
 have e2:2 * (unit * u)=2 * unit * u:=by rw [Nat.mul_assoc]
 simp only [digStep] at hs ⊢
 generalize l * l / unit=A at *
 generalize g * g / unit + 1=B at *
 generalize l2 * l2 / (unit * u)=A2 at *
 generalize g2 * g2 / (unit * u) + 1=B2 at *
 by_cases h1:2 * unit≤A
 ·rw [if_pos h1] at hs
  cases hs
  have h2:2 * (unit * u)≤A2:=by rw [e2]; exact Nat.le_trans (Nat.mul_le_mul_right _ h1) q1
  rw [if_pos h2]
  refine ⟨_,rfl,?_,?_,rfl,by simp only; omega⟩
  ·show A / 2 * u≤A2 / 2
   rw [Nat.le_div_iff_mul_le (by decide)]
   calc A / 2 * u * 2=A / 2 * 2 * u:=by ac_rfl
    _≤A * u:=Nat.mul_le_mul_right _ (Nat.div_mul_le_self _ _)
    _≤_:=q1
  ·show B2 / 2 + 1≤(B / 2 + 1) * u
   have h3:B2 / 2 < (B / 2 + 1) * u:=by
    rw [Nat.div_lt_iff_lt_mul (by decide)]
    have h4:B + 1≤(B / 2 + 1) * 2:=by omega
    have h5:(B + 1) * u≤(B / 2 + 1) * 2 * u:=Nat.mul_le_mul_right _ h4
    have h6:(B / 2 + 1) * 2 * u=(B / 2 + 1) * u * 2:=by ac_rfl
    rw [Nat.add_mul] at h5
    omega
   exact h3
 ·rw [if_neg h1] at hs
  by_cases h2:2 * unit≤B
  ·rw [if_pos h2] at hs; cases hs
  ·rw [if_neg h2] at hs
   cases hs
   have h3:B2 < 2 * (unit * u):=by
    rw [e2]
    exact Nat.lt_of_le_of_lt q2 (Nat.mul_lt_mul_of_pos_right (by omega) hu)
   rw [if_neg (by omega),if_neg (by omega)]
   exact ⟨_,rfl,q1,q2,rfl,q3⟩
theorem finer_it {unit u:Nat} (hu:0 < u) (h0:0 < unit):∀ (n:Nat) {s t s':Nat×Nat×Nat},Finer u s t→digIt unit n s=some s'→∃ t',digIt (unit * u) n t=some t'∧Finer u s' t'
 | 0,s,t,s',h,hs=>by cases hs; exact ⟨t,rfl,h⟩
 | n + 1,s,t,s',h,hs=>by
  obtain ⟨m,h1,h2⟩:=Option.bind_eq_some_iff.1 hs
  obtain ⟨m',h3,h4⟩:=finer_step hu h0 h h1
  obtain ⟨t',h5,h6⟩:=finer_it hu h0 n h4 h2
  exact ⟨t',by show (digStep (unit * u) t).bind _=_; rw [h3]; exact h5,h6⟩
theorem digs_more {p more m2 n:Nat} (hp:p.log2≤more) (hm:more≤m2) {s:Nat×Nat×Nat} (h:digs p more n=some s):∃ t,digs p m2 n=some t∧t.2.2=s.2.2:=by
 rw [digs_it] at h ⊢
 have e:(2:Nat) ^ m2=2 ^ more * 2 ^ (m2 - more):=by rw [← Nat.pow_add]; congr 1; omega
 have e2:p * 2 ^ (m2 - p.log2)=p * 2 ^ (more - p.log2) * 2 ^ (m2 - more):=by rw [Nat.mul_assoc,← Nat.pow_add]; congr 2; omega
 obtain ⟨t,h1,h2⟩:=finer_it (Nat.two_pow_pos (m2 - more)) (Nat.two_pow_pos more) n (s:=(p * 2 ^ (more - p.log2),p * 2 ^ (more - p.log2),p.log2)) (t:=(p * 2 ^ (m2 - p.log2),p * 2 ^ (m2 - p.log2),p.log2)) ⟨by rw [e2]; exact Nat.le_refl _,by rw [e2]; exact Nat.le_refl _,rfl,Nat.le_refl _⟩ h
 rw [e]
 exact ⟨t,h1,h2.out⟩
theorem digs_fewer {p more:Nat}:∀ {n m:Nat},m≤n→(digs p more n).isSome=true→(digs p more m).isSome=true
 | 0,m,h,hs=>by rw [Nat.le_zero.1 h]; exact hs
 | n + 1,m,h,hs=>by
  rcases Nat.lt_or_eq_of_le h with h | h
  ·refine digs_fewer (Nat.lt_succ_iff.1 h) ?_
   cases hd:digs p more n with
   | none=>rw [digs,hd] at hs; cases hs
   | some s=>rfl
  ·rw [h]; exact hs
theorem digs_some_of_lg {p n more:Nat} (h:(LN.lg p p.log2 n more).isSome=true):(digs p more n).isSome=true:=by
 rw [lg_digs] at h
 simpa using h
def oddP:List Nat:=[3,5,7,11,13,17,19,23,29,31,37,41,43,47,53,59,61,67,71,73,79,83,89,97]
theorem lg_all:oddP.all (fun p=>(LN.lg p p.log2 1056 1120).isSome)=true:=by decide +kernel
theorem oddP_log {p:Nat} (h:p∈oddP):p.log2≤6:=by
 have:∀ q∈oddP,q.log2≤6:=by decide
 exact this p h
theorem oddP_odd {p:Nat} (h:p∈oddP):p % 2=1∧3≤p∧p≤97:=by
 have:∀ q∈oddP,q % 2=1∧3≤q∧q≤97:=by decide
 exact this p h
theorem digs_ok {p n more:Nat} (hp:p∈oddP) (hn:n≤1056) (hm:1120≤more):(digs p more n).isSome=true:=by
 have h:=lg_all
 rw [List.all_eq_true] at h
 have h1:=digs_fewer (m:=n) hn (digs_some_of_lg (h p hp))
 have hl:=oddP_log hp
 obtain ⟨s,hs⟩:=Option.isSome_iff_exists.1 h1
 obtain ⟨t,ht,_⟩:=digs_more (m2:=more) (by omega) (by omega) hs
 rw [ht]; rfl
theorem isLg_one {p N a b:Nat} (h1:IsLg p N a) (h2:IsLg p N b):a=b:=by
 have e1:2 ^ a < 2 ^ (b + 1):=Nat.lt_of_le_of_lt h1.1 h2.2
 have e2:2 ^ b < 2 ^ (a + 1):=Nat.lt_of_le_of_lt h2.1 h1.2
 have f1:=(Nat.pow_lt_pow_iff_right (by decide)).1 e1
 have f2:=(Nat.pow_lt_pow_iff_right (by decide)).1 e2
 omega
def lgN (p:Int) (n:Nat):Nat:=if p=2 then 2 ^ n else match digs p.toNat 1120 n with
 | some s=>s.2.2
 | none=>0
theorem digs_lgN {p n more:Nat} (hp:p∈oddP) (hn:n≤1056) (hm:6≤more) {s:Nat×Nat×Nat} (h:digs p more n=some s):s.2.2=lgN p n:=by
 have hl:=oddP_log hp
 have ho:=oddP_odd hp
 have h1:=(digs_inv p more (by omega) (by omega) n s h).lg
 obtain ⟨t,ht⟩:=Option.isSome_iff_exists.1 (digs_ok hp hn (Nat.le_refl 1120))
 have h2:=(digs_inv p 1120 (by omega) (by omega) n t ht).lg
 have e:lgN p n=t.2.2:=by
  unfold lgN
  rw [if_neg (by omega),Int.toNat_natCast,ht]
 rw [e]
 exact isLg_one h1 h2
theorem lgN_is {p n:Nat} (hp:p∈oddP) (hn:n≤1056):IsLg p (2 ^ n) (lgN p n):=by
 have hl:=oddP_log hp
 have ho:=oddP_odd hp
 obtain ⟨t,ht⟩:=Option.isSome_iff_exists.1 (digs_ok hp hn (Nat.le_refl 1120))
 have h2:=(digs_inv p 1120 (by omega) (by omega) n t ht).lg
 rw [digs_lgN hp hn (by decide) ht] at h2
 exact h2
theorem lgN_two (n:Nat):lgN 2 n=2 ^ n:=by unfold lgN; rw [if_pos rfl]
theorem lgN_le {p n:Nat} (hp:p=2∨p∈oddP) (hn:n≤1056):lgN p n < 7 * 2 ^ n:=by
 rcases hp with rfl | hp
 ·have:=Nat.two_pow_pos n
  rw [show ((2:Nat):Int)=2 from rfl,lgN_two]; omega
 ·have ho:=oddP_odd hp
  have h:=(lgN_is hp hn).1
  have h1:p ^ (2 ^ n) < (2 ^ 7) ^ (2 ^ n):=Nat.pow_lt_pow_left (by omega) (Nat.ne_of_gt (Nat.two_pow_pos n))
  rw [← Nat.pow_mul] at h1
  have h2:=Nat.lt_of_le_of_lt h h1
  exact (Nat.pow_lt_pow_iff_right (by decide)).1 h2
theorem pow_odd (p:Nat) (h:p % 2=1) (m:Nat):p ^ m % 2=1:=by
 induction m with
 | zero=>rfl
 | succ m ih=>rw [Nat.pow_succ,Nat.mul_mod,ih,h]
theorem lgN_at {p n:Nat} (hp:p=2∨p∈oddP) (hn:n≤1056):LN.LogAt n (p:Int) (lgN p n):=by
 rcases hp with rfl | hp
 ·rw [show ((2:Nat):Int)=2 from rfl,lgN_two]
  exact ⟨Nat.le_refl _,Nat.pow_lt_pow_right (by decide) (by omega),fun _=>rfl,fun h=>absurd rfl h⟩
 ·have ho:=oddP_odd hp
  obtain ⟨h1,h2⟩:=lgN_is hp hn
  refine ⟨by rw [Int.toNat_natCast]; exact h1,by rw [Int.toNat_natCast]; exact h2,fun h=>by omega,fun _=>?_⟩
  rw [Int.toNat_natCast]
  refine Nat.lt_of_le_of_ne h1 fun e=>?_
  have h3:=pow_odd p ho.1 (2 ^ n)
  rw [← e] at h3
  by_cases h0:lgN p n=0
  ·rw [h0] at h2
   have:p ^ 1≤p ^ (2 ^ n):=Nat.pow_le_pow_right (by omega) (Nat.two_pow_pos n)
   rw [Nat.pow_one] at this
   omega
  ·obtain ⟨k,hk⟩:=Nat.exists_eq_succ_of_ne_zero h0
   rw [hk,Nat.pow_succ] at h3
   omega
end Go.Proofs.YtlomhfknmhaboaaGreatDoor

namespace Go.Proofs.YtlomhfknmhaboaaGreatDoor
open Go.RowKit
theorem dec_two:dec 2=⟨#[50]⟩:=by
 have:(dec 2).data = #[50]:=by decide +kernel
 exact ByteArray.ext this
theorem num_two {x K:Nat} (h:x < 2 ^ K) (hK:K < 100000):Num x:=by
 unfold Num
 have h1:(dec x).size≤K + 1:=by
  rw [size_lt _ _ (by omega)]
  exact Nat.lt_of_lt_of_le h (Nat.le_trans (Nat.pow_le_pow_left (by decide) K) (Nat.pow_le_pow_right (by decide) (by omega)))
 omega
set_option maxRecDepth 100000 in
set_option maxHeartbeats 4000000 in
theorem wpow2 (w:World) (n:Nat) (hn:n≤4000) (L:Laid w):Gives Tryz.prog 162 #[.string ⟨#[50]⟩,.int .i64 n] w (.tuple #[.string (dec (2 ^ n)),.int .i64 0]):=by
 unfold Gives
 have hs:=split_any w 2
 rw [show itx 2=dec 2 by exact itx_nat 2,show ((2:Int).natAbs)=2 from rfl,dec_two,decide_eq_false (by decide)] at hs
 have Hs:=Lib.hid hs
 have Hp:Hid (∀ W,Below w.heap.size w W→Gives Tryz.prog 121 #[.string ⟨#[50]⟩,.int .i64 n] W (.tuple #[.string (dec (2 ^ n)),.int .i64 0])):=fun W hW=>by
  have:=power2_any W n hn (L.below hW)
  rw [dec_two] at this
  exact this
 have hN:Num (2 ^ n):=num_two (K:=n + 1) (Nat.pow_lt_pow_right (by decide) (by omega)) (by omega)
 have Hj:Hid (∀ W,Gives Tryz.prog 78 #[.bool false,.string (dec (2 ^ n))] W (.string (dec (2 ^ n)))):=fun W=>by
  have:=join_any W false (2 ^ n) hN
  rw [show jz false (2 ^ n)=((2 ^ n:Nat):Int) from rfl,itx_nat] at this
  exact this
 clear hs L hN
 generalize dec (2 ^ n)=s at *
 have h0:¬ (n:Int) < 0:=by omega
 have h1:¬ (4000:Int) < n:=by omega
 have hsz:((⟨#[50]⟩:ByteArray).size:Int)=1:=rfl
 go_enter Tryz.func162,Tryz.ntmps162
 go_wp2_with fail
 refine Calls.mono Hs.out ?_
 rintro e w1 ⟨rfl,hb⟩
 have B1:=Lib.hid hb
 clear hb Hs
 go_wp2_with fail
 refine Calls.mono (Hp.out _ B1.out) ?_
 rintro e w2 ⟨rfl,hb⟩
 have B2:=Lib.hid (B1.out.trans (hb.mono B1.out.size))
 clear hb Hp B1
 go_wp2_with fail
 refine Calls.mono (Hj.out _) ?_
 rintro e w3 ⟨rfl,hb⟩
 have B3:=Lib.hid (B2.out.trans (hb.mono B2.out.size))
 clear hb Hj B2
 go_wp2_with fail
 go_ret2
 exact ⟨rfl,B3.out⟩
theorem addD (w:World) (a b K:Nat) (hK:K < 90000) (ha:a < 2 ^ K) (hb:b < 2 ^ K) (L:Laid w):Gives Tryz.prog 104 #[.string (dec a),.string (dec b)] w (.string (dec (a + b))):=by
 have hn:=num_two ha (by omega)
 have hm:=num_two hb (by omega)
 have hs:Num (a + b):=num_two (K:=K + 1) (by rw [Nat.pow_succ]; omega) (by omega)
 have:=addz_any w (a:Int) (b:Int) hn hm hs L
 rw [← Int.natCast_add,itx_nat,itx_nat,itx_nat] at this
 exact this
theorem mulD (w:World) (a b K:Nat) (hK:K < 40000) (ha:a < 2 ^ K) (hb:b < 2 ^ K) (L:Laid w):Gives Tryz.prog 82 #[.string (dec a),.string (dec b)] w (.string (dec (a * b))):=by
 have hn:=num_two ha (by omega)
 have hm:=num_two hb (by omega)
 have hs:ZNum ((a:Int) * b):=num_two (K:=K + K) (by rw [← Int.natCast_mul,Int.natAbs_natCast,Nat.pow_add]; exact Nat.mul_lt_mul'' ha hb) (by omega)
 have:=mulz_any w (a:Int) (b:Int) hn hm hs L
 rw [← Int.natCast_mul,itx_nat,itx_nat,itx_nat] at this
 exact this
theorem divD (w:World) (a b K:Nat) (hK:K < 90000) (ha:a < 2 ^ K) (hb:b < 2 ^ K) (h0:0 < b) (L:Laid w):Gives Tryz.prog 107 #[.string (dec a),.string (dec b)] w (.tuple #[.string (dec (a / b)),.string (dec (a % b)),.int .i64 0]):=by
 have hn:=num_two ha (by omega)
 have hm:=num_two hb (by omega)
 have hs:Num ((a:Int).natAbs + 1):=num_two (K:=K + 1) (by rw [Int.natAbs_natCast,Nat.pow_succ]; omega) (by omega)
 have:=divmodz_any w (a:Int) b hn hm h0 hs L
 rw [(ediv_nat a b).1,(ediv_nat a b).2,itx_nat,itx_nat,itx_nat] at this
 exact this
theorem compD (_w:World) (a b K:Nat) (hK:K < 90000) (ha:a < 2 ^ K) (hb:b < 2 ^ K):∃ c:Int,(c = -1∨c=0∨c=1)∧(0≤c↔b≤a)∧∀ W,Gives Tryz.prog 183 #[.string (dec a),.string (dec b)] W (.int .i64 c):=by
 have hn:=num_two ha (by omega)
 have hm:=num_two hb (by omega)
 refine ⟨cmpZ a b,?_,?_,fun W=>?_⟩
 ·unfold cmpZ; split
  ·exact .inl rfl
  ·split
   ·exact .inr (.inl rfl)
   ·exact .inr (.inr rfl)
 ·unfold cmpZ; split
  ·constructor <;> omega
  ·split
   ·constructor <;> omega
   ·constructor <;> omega
 ·have:=comparez_any W (a:Int) (b:Int) hn hm
  rw [itx_nat,itx_nat] at this
  exact this
structure DigB (more n:Nat) (s:Nat×Nat×Nat):Prop where
 lo:s.1 < 2 * 2 ^ more
 hi:s.2.1 < 2 * 2 ^ more
 out:s.2.2 < 2 ^ (n + 3)
theorem log2_le (p:Nat) (hp:2≤p) (hp2:p≤97):p.log2≤6:=by
 have:=(Nat.log2_lt (n:=p) (k:=7) (by omega)).2 (by omega)
 omega
theorem digs_b (p more:Nat) (hp:2≤p) (hp2:p≤97) (hm:64≤more):∀ n s,digs p more n=some s→DigB more n s
 | 0,s,h=>by
  simp only [digs,Option.some.injEq] at h
  subst h
  have h1:p < 2 ^ (p.log2 + 1):=Nat.lt_log2_self
  have h2:=log2_le p hp hp2
  have h3:p * 2 ^ (more - p.log2) < 2 ^ (p.log2 + 1) * 2 ^ (more - p.log2):=Nat.mul_lt_mul_of_pos_right h1 (Nat.two_pow_pos _)
  rw [← Nat.pow_add,show p.log2 + 1 + (more - p.log2)=1 + more by omega,Nat.pow_add,Nat.pow_one] at h3
  exact ⟨h3,h3,by show p.log2 < 2 ^ 3; omega⟩
 | n + 1,s,h=>by
  simp only [digs] at h
  obtain ⟨t,ht,hs⟩:=Option.bind_eq_some_iff.1 h
  obtain ⟨f1,f2,f3⟩:=digs_b p more hp hp2 hm n t ht
  obtain ⟨l,g,o⟩:=t
  simp only at f1 f2 f3
  simp only [digStep] at hs
  have hu:=Nat.two_pow_pos more
  have hu2:2 ^ 1≤2 ^ more:=Nat.pow_le_pow_right (by decide) (by omega)
  obtain ⟨u,eu⟩:∃ u,2 ^ more=u:=⟨_,rfl⟩
  rw [eu] at hu hu2 f1 f2 hs
  have q1:l * l / u < 4 * u:=by
   rw [Nat.div_lt_iff_lt_mul hu]
   calc l * l < 2 * u * (2 * u):=Nat.mul_lt_mul'' f1 f1
    _=4 * u * u:=by grind
  have q2:g * g / u + 1≤4 * u - 3:=by
   have h1:g * g≤(2 * u - 1) * (2 * u - 1):=Nat.mul_le_mul (by omega) (by omega)
   have h2:g * g / u < 4 * u - 3:=by
    rw [Nat.div_lt_iff_lt_mul hu]
    obtain ⟨v,rfl⟩:∃ v,u=v + 1:=⟨u - 1,by omega⟩
    have e1:2 * (v + 1) - 1=2 * v + 1:=by omega
    have e2:4 * (v + 1) - 3=4 * v + 1:=by omega
    rw [e1] at h1
    rw [e2]
    have e3:(2 * v + 1) * (2 * v + 1)=4 * (v * v) + 4 * v + 1:=by grind
    have e4:(4 * v + 1) * (v + 1)=4 * (v * v) + 5 * v + 1:=by grind
    rw [e3] at h1
    rw [e4]
    omega
   omega
  have eo:2 ^ (n + 1 + 3)=2 * 2 ^ (n + 3):=by rw [show n + 1 + 3=n + 3 + 1 by omega,Nat.pow_succ]; omega
  by_cases h1:2 * u≤l * l / u
  ·rw [if_pos h1] at hs
   cases hs
   exact ⟨by simp only; rw [eu]; omega,by simp only; rw [eu]; omega,by simp only; omega⟩
  ·rw [if_neg h1] at hs
   by_cases h2:2 * u≤g * g / u + 1
   ·rw [if_pos h2] at hs; cases hs
   ·rw [if_neg h2] at hs
    cases hs
    exact ⟨by simp only; rw [eu]; omega,by simp only; rw [eu]; omega,by simp only; omega⟩
def digitsV (p n more:Nat):Value:=match digs p more n with
 | some s => .tuple #[.string (dec s.2.2),.bool true]
 | none => .tuple #[.string ⟨#[]⟩,.bool false]
theorem digs_none {p more j n:Nat} (h:digs p more j=none) (hj:j≤n):digs p more n=none:=by
 cases hd:digs p more n with
 | none=>rfl
 | some s =>
  have:=digs_fewer (m:=j) hj (show (digs p more n).isSome=true by rw [hd]; rfl)
  rw [h] at this
  cases this
end Go.Proofs.YtlomhfknmhaboaaGreatDoor

namespace Go.Proofs.YtlomhfknmhaboaaGreatDoor
open Go.RowKit
set_option maxRecDepth 100000 in
set_option maxHeartbeats 8000000 in
theorem sdigits_any (w:World) (p n more:Nat) (hp:2≤p) (hp2:p≤97) (hn:n≤4000) (hm:64≤more) (hm2:more≤4000) (L:Laid w) :
  Gives Tryz.prog 163 #[.int .i64 p,.int .i64 n,.int .i64 more] w (digitsV p n more):=by
 unfold Gives
 have hl:=log2_le p hp hp2
 have hln:=Lib.hid (Tryz.bits_Len p w (by omega) (by omega))
 rw [show ((p:Nat):Int).toNat=p from rfl,bitLen_log p (by omega) hp2] at hln
 have hw1:IntKind.i64.wrap (((p.log2 + 1:Nat):Int) - 1)=(p.log2:Int):=by rw [show ((p.log2 + 1:Nat):Int) - 1=(p.log2:Int) by omega]; exact IntWalk.i64_in _ (by omega)
 have hw2:IntKind.u64.wrap (p:Int)=p:=IntWalk.u64_in _ (by omega)
 have hw3:IntKind.i64.wrap ((more:Int) - (p.log2:Int))=((more - p.log2:Nat):Int):=by rw [show (more:Int) - (p.log2:Int)=((more - p.log2:Nat):Int) by omega]; exact IntWalk.i64_in _ (by omega)
 have HL:=Lib.hid L
 clear L
 obtain ⟨K,hK⟩:∃ K:Nat,K=4050:=⟨_,rfl⟩
 have HK:=Lib.hid hK
 have Hm2:=Lib.hid hm2
 have Hn:=Lib.hid hn
 have Hdb:Hid (∀ j lo hi o,digs p more j=some (lo,hi,o)→lo < 2 * 2 ^ more∧hi < 2 * 2 ^ more∧o < 2 ^ (j + 3)):=fun j lo hi o h=>by
  have:=digs_b p more hp hp2 hm j _ h
  exact ⟨this.lo,this.hi,this.out⟩
 have Hnext:Hid (∀ j s,digs p more j=some s→digs p more (j + 1)=digStep (2 ^ more) s):=fun j s h=>by
  simp only [digs,h,Option.bind_some]
 have Hu0:Hid (0 < 2 ^ more):=Nat.two_pow_pos more
 have Hu:Hid (2 ^ more < 2 ^ K):=Nat.pow_lt_pow_right (by decide) (by omega)
 have Huu:Hid (2 ^ more + 2 ^ more=2 * 2 ^ more):=(Nat.two_mul _).symm
 have Hu2:Hid (2 * 2 ^ more < 2 ^ K):=by
  show _ < _
  rw [Nat.mul_comm,← Nat.pow_succ]
  exact Nat.pow_lt_pow_right (by decide) (by omega)
 have Hp2:Hid (∀ W,Below w.heap.size w W→Gives Tryz.prog 162 #[.string ⟨#[50]⟩,.int .i64 more] W (.tuple #[.string (dec (2 ^ more)),.int .i64 0])):=fun W hW=>wpow2 W more hm2 (HL.out.below hW)
 have Hp3:Hid (∀ W,Below w.heap.size w W→Gives Tryz.prog 162 #[.string ⟨#[50]⟩,.int .i64 (more - p.log2:Nat)] W (.tuple #[.string (dec (2 ^ (more - p.log2))),.int .i64 0])):=fun W hW=>wpow2 W (more - p.log2) (by omega) (HL.out.below hW)
 have H0:Hid (digs p more 0=some (p * 2 ^ (more - p.log2),p * 2 ^ (more - p.log2),p.log2)):=rfl
 have Hof1:Hid (∀ W,Below w.heap.size w W→Gives Tryz.prog 97 #[.int .i64 p] W (.string (dec p))):=fun W hW=>by
  have:=ofz_any W p (by omega) (by omega) (HL.out.below hW)
  rw [itx_nat] at this; exact this
 have Hof2:Hid (∀ W,Below w.heap.size w W→Gives Tryz.prog 97 #[.int .i64 p.log2] W (.string (dec p.log2))):=fun W hW=>by
  have:=ofz_any W p.log2 (by omega) (by omega) (HL.out.below hW)
  rw [itx_nat] at this; exact this
 have Had1:Hid (∀ W,Below w.heap.size w W→Gives Tryz.prog 104 #[.string (dec (2 ^ more)),.string (dec (2 ^ more))] W (.string (dec (2 * 2 ^ more)))):=fun W hW=>by
  have:=addD W (2 ^ more) (2 ^ more) K (by have:=HK.out; omega) Hu.out Hu.out (HL.out.below hW)
  rw [Huu.out] at this; exact this
 have Hmu1:Hid (∀ W,Below w.heap.size w W→Gives Tryz.prog 82 #[.string (dec p),.string (dec (2 ^ (more - p.log2)))] W (.string (dec (p * 2 ^ (more - p.log2))))):=fun W hW =>
  mulD W p (2 ^ (more - p.log2)) (K + K) (by have:=HK.out; omega) (Nat.lt_of_lt_of_le (show p < 2 ^ 7 by omega) (Nat.pow_le_pow_right (by decide) (by have:=HK.out; omega))) (Nat.pow_lt_pow_right (by decide) (by omega)) (HL.out.below hW)
 have B0:=Lib.hid (Below.refl w.heap.size w)
 have hnn:(n:Int)≤4000:=by omega
 rw [show ((more - p.log2:Nat):Int)=(more:Int) - (p.log2:Int) by omega] at Hp3
 clear hp hp2 hK hw3
 have Hd1:=Lib.hid dec_one
 have Hd2:=Lib.hid dec_two
 generalize hlp:p.log2=lp at *
 clear hlp
 generalize 2 ^ more=unit at *
 generalize hvv:digitsV p n more=vv at *
 have Hvv:=Lib.hid hvv
 clear hvv
 go_enter Tryz.func163,Tryz.ntmps163
 go_wp2_with fail
 refine Calls.mono hln.out ?_
 rintro e w1 ⟨rfl,rfl⟩
 clear hln
 go_wp2_with fail
 refine Calls.mono (Hp2.out _ B0.out) ?_
 rintro e w2 ⟨rfl,hb⟩
 have B2:=Lib.hid (B0.out.trans (hb.mono B0.out.size))
 clear hb B0
 go_wp2_with fail
 refine Calls.mono (Had1.out _ B2.out) ?_
 rintro e w3 ⟨rfl,hb⟩
 have B3:=Lib.hid (B2.out.trans (hb.mono B2.out.size))
 clear hb B2
 go_wp2_with fail
 refine Calls.mono (Hp3.out _ B3.out) ?_
 rintro e w4 ⟨rfl,hb⟩
 have B4:=Lib.hid (B3.out.trans (hb.mono B3.out.size))
 clear hb B3
 go_wp2_with fail
 refine Calls.mono (Hof1.out _ B4.out) ?_
 rintro e w5 ⟨rfl,hb⟩
 have B5:=Lib.hid (B4.out.trans (hb.mono B4.out.size))
 clear hb B4
 go_wp2_with fail
 refine Calls.mono (Hmu1.out _ B5.out) ?_
 rintro e w6 ⟨rfl,hb⟩
 have B6:=Lib.hid (B5.out.trans (hb.mono B5.out.size))
 clear hb B5
 go_wp2_with fail
 refine Calls.mono (Hof2.out _ B6.out) ?_
 rintro e w7 ⟨rfl,hb⟩
 have B7:=Lib.hid (B6.out.trans (hb.mono B6.out.size))
 clear hb B6
 go_wp2_with fail
 clear Hp2 Had1 Hp3 Hof1 Hmu1 Hof2
 generalize p * 2 ^ (more - lp)=st at *
 go_loopw [14,15,16,50] (fun a b c i wr=>∃ (j lo hi o:Nat),j≤n∧Hid (digs p more j=some (lo,hi,o))∧a = .string (dec lo)∧b = .string (dec hi)∧c = .string (dec o)∧i = .int .i64 j∧Hid (Below w1.heap.size w1 wr)) (fun _ _ _ i _=>n - (intOf i).toNat)
 case atStart=>exact ⟨0,_,_,_,by omega,H0,rfl,rfl,rfl,rfl,B7⟩
 case round =>
  clear B7 H0
  obtain ⟨j,lo,hi,o,hj,Hd,rfl,rfl,rfl,rfl,B1⟩:=hrel
  by_cases hlt:j < n
  ·have hlt':(j:Int) < n:=by omega
   obtain ⟨f1,f2,f3⟩:=Hdb.out j _ _ _ Hd.out
   have g1:lo < 2 ^ K:=Nat.lt_trans f1 Hu2.out
   have g2:hi < 2 ^ K:=Nat.lt_trans f2 Hu2.out
   have g3:o < 2 ^ K:=Nat.lt_of_lt_of_le f3 (Nat.pow_le_pow_right (by decide) (by have:=Hn.out; have:=HK.out; omega))
   clear f1 f2 f3
   have k1:lo * lo < 2 ^ (K + K):=by rw [Nat.pow_add]; exact Nat.mul_lt_mul'' g1 g1
   have k2:hi * hi < 2 ^ (K + K):=by rw [Nat.pow_add]; exact Nat.mul_lt_mul'' g2 g2
   have k3:unit < 2 ^ (K + K):=Nat.lt_trans Hu.out (Nat.pow_lt_pow_right (by decide) (by have:=HK.out; omega))
   have k4:2 * unit < 2 ^ (K + K + 1):=Nat.lt_trans Hu2.out (Nat.pow_lt_pow_right (by decide) (by have:=HK.out; omega))
   have k5:lo * lo / unit < 2 ^ (K + K):=Nat.lt_of_le_of_lt (Nat.div_le_self _ _) k1
   have k6:hi * hi / unit < 2 ^ (K + K):=Nat.lt_of_le_of_lt (Nat.div_le_self _ _) k2
   have one:1 < 2 ^ (K + K):=Nat.one_lt_two_pow (by have:=HK.out; omega)
   have k7:hi * hi / unit + 1 < 2 ^ (K + K + 1):=by rw [Nat.pow_succ 2 (K + K)]; omega
   have k8:lo * lo / unit < 2 ^ (K + K + 1):=Nat.lt_trans k5 (Nat.pow_lt_pow_right (by decide) (by have:=HK.out; omega))
   have k9:(hi * hi / unit + 1) / 2 < 2 ^ (K + K + 1):=Nat.lt_of_le_of_lt (Nat.div_le_self _ _) k7
   have one1:1 < 2 ^ (K + K + 1):=Nat.one_lt_two_pow (by have:=HK.out; omega)
   have two1:2 < 2 ^ (K + K + 1):=by
    have:2 ^ 2≤2 ^ (K + K + 1):=Nat.pow_le_pow_right (by decide) (by have:=HK.out; omega)
    omega
   have g3':o < 2 ^ (K + K):=Nat.lt_trans g3 (Nat.pow_lt_pow_right (by decide) (by have:=HK.out; omega))
   have k10:o + o < 2 ^ (K + K + 1):=by rw [Nat.pow_succ 2 (K + K)]; omega
   have BL:=fun W (hW:Below wr.heap.size wr W)=>HL.out.below (B1.out.trans (hW.mono B1.out.size))
   have M1:Hid (∀ W,Below wr.heap.size wr W→Gives Tryz.prog 82 #[.string (dec lo),.string (dec lo)] W (.string (dec (lo * lo)))):=fun W hW=>mulD W lo lo K (by have:=HK.out; omega) g1 g1 (BL W hW)
   have M2:Hid (∀ W,Below wr.heap.size wr W→Gives Tryz.prog 82 #[.string (dec hi),.string (dec hi)] W (.string (dec (hi * hi)))):=fun W hW=>mulD W hi hi K (by have:=HK.out; omega) g2 g2 (BL W hW)
   have D1:Hid (∀ W,Below wr.heap.size wr W→Gives Tryz.prog 107 #[.string (dec (lo * lo)),.string (dec unit)] W (.tuple #[.string (dec (lo * lo / unit)),.string (dec (lo * lo % unit)),.int .i64 0])):=fun W hW=>divD W _ unit (K + K) (by have:=HK.out; omega) k1 k3 Hu0.out (BL W hW)
   have D2:Hid (∀ W,Below wr.heap.size wr W→Gives Tryz.prog 107 #[.string (dec (hi * hi)),.string (dec unit)] W (.tuple #[.string (dec (hi * hi / unit)),.string (dec (hi * hi % unit)),.int .i64 0])):=fun W hW=>divD W _ unit (K + K) (by have:=HK.out; omega) k2 k3 Hu0.out (BL W hW)
   have A1:Hid (∀ W,Below wr.heap.size wr W→Gives Tryz.prog 104 #[.string (dec (hi * hi / unit)),.string ⟨#[49]⟩] W (.string (dec (hi * hi / unit + 1)))):=fun W hW=>by
    have:=addD W _ 1 (K + K) (by have:=HK.out; omega) k6 one (BL W hW)
    rw [Hd1.out] at this; exact this
   have A2:Hid (∀ W,Below wr.heap.size wr W→Gives Tryz.prog 104 #[.string (dec o),.string (dec o)] W (.string (dec (o + o)))):=fun W hW=>addD W o o K (by have:=HK.out; omega) g3 g3 (BL W hW)
   have A3:Hid (∀ W,Below wr.heap.size wr W→Gives Tryz.prog 104 #[.string (dec (o + o)),.string ⟨#[49]⟩] W (.string (dec (o + o + 1)))):=fun W hW=>by
    have:=addD W _ 1 (K + K + 1) (by have:=HK.out; omega) k10 one1 (BL W hW)
    rw [Hd1.out] at this; exact this
   have D3:Hid (∀ W,Below wr.heap.size wr W→Gives Tryz.prog 107 #[.string (dec (lo * lo / unit)),.string ⟨#[50]⟩] W (.tuple #[.string (dec (lo * lo / unit / 2)),.string (dec (lo * lo / unit % 2)),.int .i64 0])):=fun W hW=>by
    have:=divD W _ 2 (K + K + 1) (by have:=HK.out; omega) k8 two1 (by decide) (BL W hW)
    rw [Hd2.out] at this; exact this
   have D4:Hid (∀ W,Below wr.heap.size wr W→Gives Tryz.prog 107 #[.string (dec (hi * hi / unit + 1)),.string ⟨#[50]⟩] W (.tuple #[.string (dec ((hi * hi / unit + 1) / 2)),.string (dec ((hi * hi / unit + 1) % 2)),.int .i64 0])):=fun W hW=>by
    have:=divD W _ 2 (K + K + 1) (by have:=HK.out; omega) k7 two1 (by decide) (BL W hW)
    rw [Hd2.out] at this; exact this
   have A4:Hid (∀ W,Below wr.heap.size wr W→Gives Tryz.prog 104 #[.string (dec ((hi * hi / unit + 1) / 2)),.string ⟨#[49]⟩] W (.string (dec ((hi * hi / unit + 1) / 2 + 1)))):=fun W hW=>by
    have:=addD W _ 1 (K + K + 1) (by have:=HK.out; omega) k9 one1 (BL W hW)
    rw [Hd1.out] at this; exact this
   obtain ⟨c1,hc1,hc1',C1⟩:=compD wr (lo * lo / unit) (2 * unit) (K + K + 1) (by have:=HK.out; omega) k8 k4
   obtain ⟨c2,hc2,hc2',C2⟩:=compD wr (hi * hi / unit + 1) (2 * unit) (K + K + 1) (by have:=HK.out; omega) k7 k4
   have HC1:=Lib.hid C1
   have HC2:=Lib.hid C2
   have Hc1:=Lib.hid hc1'
   have Hc2:=Lib.hid hc2'
   have Hst:=Lib.hid (Hnext.out j _ Hd.out)
   simp only [digStep] at Hst
   have Hoo:Hid (2 * o=o + o):=Nat.two_mul o
   rw [Hoo.out] at Hst
   clear C1 C2 hc1' hc2' BL k1 k2 k3 k4 k5 k6 k7 k8 k9 k10 one one1 two1 g1 g2 g3 g3' Hoo
   generalize lo * lo / unit=X1 at *
   generalize hi * hi / unit=X2 at *
   generalize lo * lo % unit=r1 at *
   generalize hi * hi % unit=r2 at *
   generalize lo * lo=q1 at *
   generalize hi * hi=q2 at *
   generalize X1 % 2=r3 at *
   generalize (X2 + 1) % 2=r4 at *
   obtain ⟨Y1,hY1⟩:∃ y,X1 / 2=y:=⟨_,rfl⟩
   obtain ⟨Y2,hY2⟩:∃ y,(X2 + 1) / 2 + 1=y:=⟨_,rfl⟩
   obtain ⟨Y3,hY3⟩:∃ y,X2 + 1=y:=⟨_,rfl⟩
   rw [hY1] at D3 Hst
   rw [hY2] at A4 Hst
   rw [hY3] at D4 A1 HC2 Hst Hc2 A4
   clear hY1 hY2 hY3
   generalize Y3 / 2=Y4 at *
   generalize dec lo=slo at *
   generalize dec hi=shi at *
   generalize dec o=so at *
   generalize o + o=oo at *
   have P0:=Lib.hid (Below.refl wr.heap.size wr)
   clear Hnext Hdb
   by_cases h1:0≤c1
   ·have Hst1:Hid (digs p more (j + 1)=some (Y1,Y2,oo + 1)):=by
     show _=_
     rw [Hst.out,if_pos (Hc1.out.1 h1)]
    clear Hst Hc1 Hc2 HC2
    go_wp2_with fail
    refine Calls.mono (M1.out _ P0.out) ?_
    rintro e w1 ⟨rfl,hb⟩
    have P1:=Lib.hid (P0.out.trans (hb.mono P0.out.size))
    clear hb P0 M1
    go_wp2_with fail
    refine Calls.mono (D1.out _ P1.out) ?_
    rintro e w2 ⟨rfl,hb⟩
    have P2:=Lib.hid (P1.out.trans (hb.mono P1.out.size))
    clear hb P1 D1
    go_wp2_with fail
    refine Calls.mono (M2.out _ P2.out) ?_
    rintro e w3 ⟨rfl,hb⟩
    have P3:=Lib.hid (P2.out.trans (hb.mono P2.out.size))
    clear hb P2 M2
    go_wp2_with fail
    refine Calls.mono (D2.out _ P3.out) ?_
    rintro e w4 ⟨rfl,hb⟩
    have P4:=Lib.hid (P3.out.trans (hb.mono P3.out.size))
    clear hb P3 D2
    go_wp2_with fail
    refine Calls.mono (A1.out _ P4.out) ?_
    rintro e w5 ⟨rfl,hb⟩
    have P5:=Lib.hid (P4.out.trans (hb.mono P4.out.size))
    clear hb P4 A1
    go_wp2_with fail
    refine Calls.mono (A2.out _ P5.out) ?_
    rintro e w6 ⟨rfl,hb⟩
    have P6:=Lib.hid (P5.out.trans (hb.mono P5.out.size))
    clear hb P5 A2
    go_wp2_with fail
    refine Calls.mono (HC1.out _) ?_
    rintro e w7 ⟨rfl,hb⟩
    have P7:=Lib.hid (P6.out.trans (hb.mono P6.out.size))
    clear hb P6 HC1
    go_wp2_with fail
    refine Calls.mono (A3.out _ P7.out) ?_
    rintro e w8 ⟨rfl,hb⟩
    have P8:=Lib.hid (P7.out.trans (hb.mono P7.out.size))
    clear hb P7 A3
    go_wp2_with fail
    refine Calls.mono (D3.out _ P8.out) ?_
    rintro e w9 ⟨rfl,hb⟩
    have P9:=Lib.hid (P8.out.trans (hb.mono P8.out.size))
    clear hb P8 D3
    go_wp2_with fail
    refine Calls.mono (D4.out _ P9.out) ?_
    rintro e w10 ⟨rfl,hb⟩
    have P10:=Lib.hid (P9.out.trans (hb.mono P9.out.size))
    clear hb P9 D4
    go_wp2_with fail
    refine Calls.mono (A4.out _ P10.out) ?_
    rintro e w11 ⟨rfl,hb⟩
    have P11:=Lib.hid (P10.out.trans (hb.mono P10.out.size))
    clear hb P10 A4
    go_wp2_with fail
    have B9:=Lib.hid (B1.out.trans (P11.out.mono B1.out.size))
    go_roundw
    case rel=>exact ⟨j + 1,Y1,Y2,oo + 1,by omega,Hst1,rfl,rfl,rfl,by go_num,B9⟩
    case measure=>simp [intOf]; omega
   ·have h1':c1 < 0:=by omega
    by_cases h2:0≤c2
    ·have Hst1:Hid (digs p more (j + 1)=none):=by
      show _=_
      rw [Hst.out,if_neg (fun h=>h1 (Hc1.out.2 h)),if_pos (Hc2.out.1 h2)]
     have Hv1:Hid (vv = .tuple #[.string ⟨#[]⟩,.bool false]):=by
      show _=_
      rw [← Hvv.out]
      unfold digitsV
      rw [digs_none Hst1.out (by omega)]
     clear Hst Hc1 Hc2 A3 D3 D4 A4
     go_wp2_with fail
     refine Calls.mono (M1.out _ P0.out) ?_
     rintro e w1 ⟨rfl,hb⟩
     have P1:=Lib.hid (P0.out.trans (hb.mono P0.out.size))
     clear hb P0 M1
     go_wp2_with fail
     refine Calls.mono (D1.out _ P1.out) ?_
     rintro e w2 ⟨rfl,hb⟩
     have P2:=Lib.hid (P1.out.trans (hb.mono P1.out.size))
     clear hb P1 D1
     go_wp2_with fail
     refine Calls.mono (M2.out _ P2.out) ?_
     rintro e w3 ⟨rfl,hb⟩
     have P3:=Lib.hid (P2.out.trans (hb.mono P2.out.size))
     clear hb P2 M2
     go_wp2_with fail
     refine Calls.mono (D2.out _ P3.out) ?_
     rintro e w4 ⟨rfl,hb⟩
     have P4:=Lib.hid (P3.out.trans (hb.mono P3.out.size))
     clear hb P3 D2
     go_wp2_with fail
     refine Calls.mono (A1.out _ P4.out) ?_
     rintro e w5 ⟨rfl,hb⟩
     have P5:=Lib.hid (P4.out.trans (hb.mono P4.out.size))
     clear hb P4 A1
     go_wp2_with fail
     refine Calls.mono (A2.out _ P5.out) ?_
     rintro e w6 ⟨rfl,hb⟩
     have P6:=Lib.hid (P5.out.trans (hb.mono P5.out.size))
     clear hb P5 A2
     go_wp2_with fail
     refine Calls.mono (HC1.out _) ?_
     rintro e w7 ⟨rfl,hb⟩
     have P7:=Lib.hid (P6.out.trans (hb.mono P6.out.size))
     clear hb P6 HC1
     go_wp2_with fail
     refine Calls.mono (HC2.out _) ?_
     rintro e w8 ⟨rfl,hb⟩
     have P8:=Lib.hid (P7.out.trans (hb.mono P7.out.size))
     clear hb P7 HC2
     go_wp2_with fail
     have B9:=Lib.hid (B1.out.trans (P8.out.mono B1.out.size))
     go_ret2
     exact ⟨by rw [Hv1.out]; rfl,B9.out⟩
    ·have h2':c2 < 0:=by omega
     have Hst1:Hid (digs p more (j + 1)=some (X1,Y3,oo)):=by
      show _=_
      rw [Hst.out,if_neg (fun h=>h1 (Hc1.out.2 h)),if_neg (fun h=>h2 (Hc2.out.2 h))]
     clear Hst Hc1 Hc2 A3 D3 D4 A4
     go_wp2_with fail
     refine Calls.mono (M1.out _ P0.out) ?_
     rintro e w1 ⟨rfl,hb⟩
     have P1:=Lib.hid (P0.out.trans (hb.mono P0.out.size))
     clear hb P0 M1
     go_wp2_with fail
     refine Calls.mono (D1.out _ P1.out) ?_
     rintro e w2 ⟨rfl,hb⟩
     have P2:=Lib.hid (P1.out.trans (hb.mono P1.out.size))
     clear hb P1 D1
     go_wp2_with fail
     refine Calls.mono (M2.out _ P2.out) ?_
     rintro e w3 ⟨rfl,hb⟩
     have P3:=Lib.hid (P2.out.trans (hb.mono P2.out.size))
     clear hb P2 M2
     go_wp2_with fail
     refine Calls.mono (D2.out _ P3.out) ?_
     rintro e w4 ⟨rfl,hb⟩
     have P4:=Lib.hid (P3.out.trans (hb.mono P3.out.size))
     clear hb P3 D2
     go_wp2_with fail
     refine Calls.mono (A1.out _ P4.out) ?_
     rintro e w5 ⟨rfl,hb⟩
     have P5:=Lib.hid (P4.out.trans (hb.mono P4.out.size))
     clear hb P4 A1
     go_wp2_with fail
     refine Calls.mono (A2.out _ P5.out) ?_
     rintro e w6 ⟨rfl,hb⟩
     have P6:=Lib.hid (P5.out.trans (hb.mono P5.out.size))
     clear hb P5 A2
     go_wp2_with fail
     refine Calls.mono (HC1.out _) ?_
     rintro e w7 ⟨rfl,hb⟩
     have P7:=Lib.hid (P6.out.trans (hb.mono P6.out.size))
     clear hb P6 HC1
     go_wp2_with fail
     refine Calls.mono (HC2.out _) ?_
     rintro e w8 ⟨rfl,hb⟩
     have P8:=Lib.hid (P7.out.trans (hb.mono P7.out.size))
     clear hb P7 HC2
     go_wp2_with fail
     have B9:=Lib.hid (B1.out.trans (P8.out.mono B1.out.size))
     go_roundw
     case rel=>exact ⟨j + 1,X1,Y3,oo,by omega,Hst1,rfl,rfl,rfl,by go_num,B9⟩
     case measure=>simp [intOf]; omega
  ·have hlt':¬ (j:Int) < n:=by omega
   have hjn:j=n:=by omega
   subst hjn
   have Hv1:Hid (vv = .tuple #[.string (dec o),.bool true]):=by
    show _=_
    rw [← Hvv.out]
    unfold digitsV
    rw [Hd.out]
   clear Hnext Hdb
   go_wp2_with fail
   go_ret2
   exact ⟨by rw [Hv1.out]; rfl,B1.out⟩
end Go.Proofs.YtlomhfknmhaboaaGreatDoor

namespace Go.Proofs.YtlomhfknmhaboaaGreatDoor
open Go.RowKit
theorem digs_ok_all {p n:Nat} (ho:p∈oddP) (hn:n≤1056):∀ more,1120≤more→(digs p more n).isSome=true:=by
 intro more hm
 exact digs_ok (p:=p) (n:=n) (more:=more) ho hn hm
theorem dec_lgN {p n:Nat} (ho:p∈oddP) (hn:n≤1056):∀ more s,64≤more→digs p more n=some s→dec (lgN p n)=dec s.2.2:=by
 intro more s hm h
 have h1:6≤more:=Nat.le_trans (by decide) hm
 have:=digs_lgN (p:=p) (n:=n) (more:=more) ho hn h1 h
 rw [this]
set_option maxRecDepth 100000 in
set_option maxHeartbeats 8000000 in
theorem log_any (w:World) (p n:Nat) (hp:p=2∨p∈oddP) (hn:n≤1056) (L:Laid w):Gives Tryz.prog 136 #[.int .i64 p,.int .i64 n] w (.string (dec (lgN p n))):=by
 unfold Gives
 by_cases h2:p=2
 ·subst h2
  have Hp:=Lib.hid (wpow2 w n (by omega) L)
  rw [show ((2:Nat):Int)=2 from rfl,lgN_two]
  clear L hp
  generalize dec (2 ^ n)=s at *
  go_enter Tryz.func136,Tryz.ntmps136
  go_wp2_with fail
  refine Calls.mono Hp.out ?_
  rintro e w1 ⟨rfl,hb⟩
  have B1:=Lib.hid hb
  clear hb Hp
  go_wp2_with fail
  go_ret
  exact ⟨rfl,B1.out⟩
 ·have ho:=hp.resolve_left h2
  have hodd:=oddP_odd ho
  have h2':((p:Int) == 2)=false:=by rw [beq_eq_false_iff_ne]; omega
  have HL:=Lib.hid L
  have Hdg:Hid (∀ (more:Nat) W,64≤more→more≤4000→Below w.heap.size w W→Gives Tryz.prog 163 #[.int .i64 p,.int .i64 n,.int .i64 more] W (digitsV p n more)):=fun more W h1 h2 hW =>
   sdigits_any W p n more (by omega) (by omega) (by omega) h1 h2 (HL.out.below hW)
  have Hok:Hid (∀ more:Nat,1120≤more→(digs p more n).isSome=true):=Lib.hid (digs_ok_all ho hn)
  have Hlg:Hid (∀ (more:Nat) s,64≤more→digs p more n=some s→dec (lgN p n)=dec s.2.2):=Lib.hid (dec_lgN ho hn)
  have hw1:IntKind.i64.wrap ((n:Int) + 64)=((n + 64:Nat):Int):=by rw [show (n:Int) + 64=((n + 64:Nat):Int) by omega]; exact IntWalk.i64_in _ (by omega)
  have B0:=Lib.hid (Below.refl w.heap.size w)
  clear L hp ho h2 hodd
  generalize dec (lgN p n)=vv at *
  go_enter Tryz.func136,Tryz.ntmps136
  go_wp2_with fail
  go_loopw [7] (fun a wr=>∃ (more:Nat),Hid (64≤more)∧more≤4000∧a = .int .i64 more∧Hid (Below w.heap.size w wr)) (fun a _=>4000 - (intOf a).toNat)
  case atStart=>exact ⟨n + 64,by show _≤_; omega,by omega,rfl,B0⟩
  case round =>
   clear B0
   obtain ⟨more,H64,h4000,rfl,B1⟩:=hrel
   have Hd:=Lib.hid (Hdg.out more wr H64.out h4000 B1.out)
   cases hd:digs p more n with
   | some s =>
    have Hs:Hid (digitsV p n more = .tuple #[.string (dec s.2.2),.bool true]):=by show _=_; unfold digitsV; rw [hd]
    have Hv:Hid (vv=dec s.2.2):=Hlg.out more s H64.out hd
    rw [Hs.out] at Hd
    clear hd Hs Hlg Hok Hdg
    go_wp2_with fail
    refine Calls.mono Hd.out ?_
    rintro e w1 ⟨rfl,hb⟩
    have B2:=Lib.hid (B1.out.trans (hb.mono B1.out.size))
    clear hb Hd
    go_wp2_with fail
    go_ret
    exact ⟨by rw [Hv.out]; rfl,B2.out⟩
   | none =>
    have Hs:Hid (digitsV p n more = .tuple #[.string ⟨#[]⟩,.bool false]):=by show _=_; unfold digitsV; rw [hd]
    rw [Hs.out] at Hd
    have hlt:more < 1120:=by
     refine Nat.lt_of_not_le fun h=>?_
     have:=Hok.out more h
     rw [hd] at this
     cases this
    have hw2:IntKind.i64.wrap ((more:Int) * 2)=((more * 2:Nat):Int):=by rw [show (more:Int) * 2=((more * 2:Nat):Int) by omega]; exact IntWalk.i64_in _ (by omega)
    clear hd Hs Hlg Hok Hdg
    go_wp2_with fail
    refine Calls.mono Hd.out ?_
    rintro e w1 ⟨rfl,hb⟩
    have B2:=Lib.hid (B1.out.trans (hb.mono B1.out.size))
    clear hb Hd
    go_wp2_with fail
    go_roundw
    case rel=>exact ⟨more * 2,by have:=H64.out; show _≤_; omega,by omega,rfl,B2⟩
    case measure=>have:=H64.out; simp [intOf]; omega
end Go.Proofs.YtlomhfknmhaboaaGreatDoor

namespace Go.Proofs.YtlomhfknmhaboaaGreatDoor.LN
def sg (x:Rat):Int:=if 1 < x then 1 else if x < 1 then -1 else 0
theorem sg_one:sg 1=0:=by decide
theorem sg_pos {x:Rat}:sg x=1↔1 < x:=by
 unfold sg
 by_cases h:1 < x
 ·simp [h]
 ·rw [if_neg h]; split <;> simp [h]
theorem sg_low {x:Rat}:sg x = -1↔x < 1:=by
 unfold sg
 by_cases h:1 < x
 ·rw [if_pos h]
  constructor
  ·intro h2; cases h2
  ·intro h2; exact absurd h2 (by grind)
 ·rw [if_neg h]; split <;> simp_all
theorem sg_ge {x:Rat}:0≤sg x↔1≤x:=by
 constructor
 ·intro h
  refine Rat.not_lt.1 fun h2=>?_
  rw [sg_low.2 h2] at h; omega
 ·intro h
  unfold sg
  split
  ·decide
  ·split
   ·rename_i h2; exact absurd h (Rat.not_le.2 h2)
   ·decide
theorem sg_le {x:Rat}:sg x≤0↔x≤1:=by
 constructor
 ·intro h
  refine Rat.not_lt.1 fun h2=>?_
  rw [sg_pos.2 h2] at h; omega
 ·intro h
  unfold sg
  split
  ·rename_i h2; exact absurd h (Rat.not_le.2 h2)
  ·split <;> decide
theorem sg_zero {x:Rat}:sg x=0↔x=1:=by
 constructor
 ·intro h
  exact Rat.le_antisymm (sg_le.1 (by omega)) (sg_ge.1 (by omega))
 ·rintro rfl; exact sg_one
theorem sg_cases (x:Rat):sg x=1∨sg x=0∨sg x = -1:=by
 unfold sg
 split
 ·exact .inl rfl
 ·split
  ·exact .inr (.inr rfl)
  ·exact .inr (.inl rfl)
theorem one_le_mul {x y:Rat} (hx:1≤x) (hy:1≤y):1≤x * y:=by
 have h:=Rat.mul_le_mul_of_nonneg_left hy (show 0≤x by grind)
 rw [Rat.mul_one] at h
 exact Rat.le_trans hx h
theorem one_lt_mul {x y:Rat} (hx:1 < x) (hy:1≤y):1 < x * y:=by
 have h:=Rat.mul_le_mul_of_nonneg_left hy (show 0≤x by grind)
 rw [Rat.mul_one] at h
 grind
theorem mul_le_one {x y:Rat} (h0:0 < x) (hx:x≤1) (hy:y≤1):x * y≤1:=by
 have h:=Rat.mul_le_mul_of_nonneg_left hy (show 0≤x by grind)
 rw [Rat.mul_one] at h
 grind
theorem mul_lt_one {x y:Rat} (h0:0 < x) (hx:x < 1) (hy:y≤1):x * y < 1:=by
 have h:=Rat.mul_le_mul_of_nonneg_left hy (show 0≤x by grind)
 rw [Rat.mul_one] at h
 grind
theorem pow_one_le {x:Rat} (hx:1≤x):∀ m:Nat,1≤x ^ m
 | 0=>by rw [Rat.pow_zero]; exact Rat.le_refl
 | m + 1=>by rw [Rat.pow_succ]; exact one_le_mul (pow_one_le hx m) hx
theorem pow_one_lt {x:Rat} (hx:1 < x) (m:Nat) (hm:0 < m):1 < x ^ m:=by
 obtain ⟨k,rfl⟩:=Nat.exists_eq_succ_of_ne_zero (by omega:m≠0)
 rw [Rat.pow_succ,Rat.mul_comm]
 exact one_lt_mul hx (pow_one_le (by grind) k)
theorem pow_le_one {x:Rat} (h0:0 < x) (hx:x≤1):∀ m:Nat,x ^ m≤1
 | 0=>by rw [Rat.pow_zero]; exact Rat.le_refl
 | m + 1=>by rw [Rat.pow_succ]; exact mul_le_one (Rat.pow_pos h0) (pow_le_one h0 hx m) hx
theorem pow_lt_one {x:Rat} (h0:0 < x) (hx:x < 1) (m:Nat) (hm:0 < m):x ^ m < 1:=by
 obtain ⟨k,rfl⟩:=Nat.exists_eq_succ_of_ne_zero (by omega:m≠0)
 rw [Rat.pow_succ,Rat.mul_comm]
 exact mul_lt_one h0 hx (pow_le_one h0 (by grind) k)
theorem sg_pow {x:Rat} (h0:0 < x) {m:Nat} (hm:0 < m):sg (x ^ m)=sg x:=by
 rcases sg_cases x with h | h | h
 ·rw [h]; exact sg_pos.2 (pow_one_lt (sg_pos.1 h) m hm)
 ·rw [h]
  rw [sg_zero.1 h]
  have:(1:Rat) ^ m=1:=by
   clear hm
   induction m with
   | zero=>rfl
   | succ m ih=>rw [Rat.pow_succ,ih,Rat.mul_one]
  rw [this]; exact sg_one
 ·rw [h]; exact sg_low.2 (pow_lt_one h0 (sg_low.1 h) m hm)
theorem sg_inv {x:Rat} (h0:0 < x):sg x⁻¹ = - sg x:=by
 have h1:=Rat.inv_pos.2 h0
 have e:=Rat.mul_inv_cancel x (by grind)
 rcases sg_cases x with h | h | h
 ·rw [h]
  have hx:=sg_pos.1 h
  refine sg_low.2 (Rat.not_le.1 fun h2=>?_)
  have:=one_lt_mul hx h2
  rw [e] at this
  exact Rat.lt_irrefl this
 ·rw [h,sg_zero.1 h,Rat.inv_eq_of_mul_eq_one (Rat.mul_one 1),sg_one]; rfl
 ·rw [h]
  have hx:=sg_low.1 h
  refine sg_pos.2 (Rat.not_le.1 fun h2=>?_)
  have:=mul_lt_one h0 hx h2
  rw [e] at this
  exact Rat.lt_irrefl this
def vp:List Int→List Int→Rat
 | p :: ps,k :: ks=>(p:Rat) ^ k * vp ps ks
 | _,_=>1
theorem vp_pos:∀ (ps ks:List Int),(∀ p∈ps,0 < p)→0 < vp ps ks
 | [],_,_=>by simp only [vp]; decide
 | _ :: _,[],_=>by simp only [vp]; decide
 | p :: ps,k :: ks,h=>by
  simp only [vp]
  exact Rat.mul_pos (Rat.zpow_pos (by have:=h p List.mem_cons_self; exact Rat.intCast_pos.2 this)) (vp_pos ps ks fun q hq=>h q (List.mem_cons_of_mem _ hq))
theorem vp_add:∀ (ps ks ms:List Int),(∀ p∈ps,0 < p)→ks.length=ms.length→vp ps (List.zipWith (· + ·) ks ms)=vp ps ks * vp ps ms
 | [],_,_,_,_=>by simp only [vp]; rw [Rat.mul_one]
 | _ :: _,[],[],_,_=>by simp [vp]
 | p :: ps,k :: ks,m :: ms,h,hl=>by
  have ih:=vp_add ps ks ms (fun q hq=>h q (List.mem_cons_of_mem _ hq)) (by simpa using hl)
  have hp:=h p List.mem_cons_self
  have hp0:(p:Rat)≠0:=by have:=Rat.intCast_pos.2 hp; grind
  simp only [List.zipWith_cons_cons,vp]
  rw [ih,Rat.zpow_add hp0]
  grind
theorem vp_zero:∀ (ps ks:List Int),(∀ k∈ks,k=0)→vp ps ks=1
 | [],_,_=>rfl
 | _ :: _,[],_=>rfl
 | p :: ps,k :: ks,h=>by
  simp only [vp]
  rw [h k List.mem_cons_self,vp_zero ps ks fun x hx=>h x (List.mem_cons_of_mem _ hx),Rat.zpow_zero,Rat.mul_one]
theorem vp_neg (ps ks:List Int) (h:∀ p∈ps,0 < p):vp ps (ks.map fun k => -k)=(vp ps ks)⁻¹:=by
 have e:=vp_add ps ks (ks.map fun k => -k) h (by simp)
 have z:vp ps (List.zipWith (· + ·) ks (ks.map fun k => -k))=1:=by
  refine vp_zero _ _ fun k hk=>?_
  rw [List.zipWith_map_right] at hk
  rw [List.mem_iff_getElem] at hk
  obtain ⟨i,hi,rfl⟩:=hk
  simp
  omega
 rw [z] at e
 exact (Rat.inv_eq_of_mul_eq_one e.symm).symm
theorem vp_nsmul (ps ks:List Int) (h:∀ p∈ps,0 < p):∀ m:Nat,vp ps (ks.map fun k=>(m:Int) * k)=vp ps ks ^ m
 | 0=>by
  rw [Rat.pow_zero]
  refine vp_zero _ _ fun k hk=>?_
  obtain ⟨x,_,rfl⟩:=List.mem_map.1 hk
  simp
 | m + 1=>by
  have ih:=vp_nsmul ps ks h m
  have e:=vp_add ps (ks.map fun k=>(m:Int) * k) ks h (by simp)
  rw [Rat.pow_succ,← ih,← e]
  congr 1
  rw [List.zipWith_map_left]
  refine List.ext_getElem (by simp) fun i h1 h2=>?_
  simp
  rw [Int.add_mul,Int.one_mul]
def vt:List (Int×Int)→Rat
 | []=>1
 | x :: l=>(x.1:Rat) ^ x.2 * vt l
theorem natCast_pow (a n:Nat):((a ^ n:Nat):Rat)=(a:Rat) ^ n:=by
 induction n with
 | zero=>rw [Nat.pow_zero,Rat.pow_zero]; rfl
 | succ n ih=>rw [Nat.pow_succ,Rat.pow_succ,Rat.natCast_mul,ih]
theorem vt_up:∀ l:List (Int×Int),(∀ x∈l,0 < x.1)→((upT l:Nat):Rat)=vt l * ((upT (negT l):Nat):Rat)
 | [],_=>by simp [upT,negT,vt]
 | x :: l,h=>by
  have ih:=vt_up l fun y hy=>h y (List.mem_cons_of_mem _ hy)
  have hx:=h x List.mem_cons_self
  have e:negT (x :: l)=(x.1,-x.2) :: negT l:=rfl
  rw [e]
  simp only [upT,vt]
  rw [Rat.natCast_mul,Rat.natCast_mul,ih,natCast_pow,natCast_pow]
  have hp:((x.1.toNat:Nat):Rat)=(x.1:Rat):=by
   rw [← Rat.intCast_natCast,Int.toNat_of_nonneg (by omega)]
  rw [hp]
  have hp0:(x.1:Rat)≠0:=by have:=Rat.intCast_pos.2 hx; grind
  have key:(x.1:Rat) ^ x.2.toNat=(x.1:Rat) ^ x.2 * (x.1:Rat) ^ (-x.2).toNat:=by
   rw [← Rat.zpow_natCast,← Rat.zpow_natCast,← Rat.zpow_add hp0]
   congr 1
   omega
  rw [key]
  grind
theorem up_pos':∀ l:List (Int×Int),(∀ x∈l,0 < x.1)→0 < upT l
 | [],_=>by simp [upT]
 | x :: l,h=>by
  have hx:=h x List.mem_cons_self
  exact Nat.mul_pos (Nat.pow_pos (by omega)) (up_pos' l fun y hy=>h y (List.mem_cons_of_mem _ hy))
theorem signT_sg (l:List (Int×Int)) (h:∀ x∈l,0 < x.1):signT l=sg (vt l):=by
 have e:=vt_up l h
 have hd:(0:Rat) < ((upT (negT l):Nat):Rat):=by
  have:=up_pos' (negT l) (by
   intro x hx
   obtain ⟨y,hy,rfl⟩:=List.mem_map.1 hx
   exact h y hy)
  exact Rat.natCast_pos.2 this
 have c1:upT (negT l) < upT l↔1 < vt l:=by
  rw [← Rat.natCast_lt_natCast,e]
  constructor
  ·intro h1
   refine Rat.lt_of_mul_lt_mul_right (c:=((upT (negT l):Nat):Rat)) ?_ (Rat.le_of_lt hd)
   rw [Rat.one_mul]; exact h1
  ·intro h1
   have:=Rat.mul_lt_mul_of_pos_right h1 hd
   rw [Rat.one_mul] at this
   exact this
 have c2:upT l < upT (negT l)↔vt l < 1:=by
  rw [← Rat.natCast_lt_natCast,e]
  constructor
  ·intro h1
   refine Rat.lt_of_mul_lt_mul_right (c:=((upT (negT l):Nat):Rat)) ?_ (Rat.le_of_lt hd)
   rw [Rat.one_mul]; exact h1
  ·intro h1
   have:=Rat.mul_lt_mul_of_pos_right h1 hd
   rw [Rat.one_mul] at this
   exact this
 unfold signT sg
 simp only [c1,c2]
theorem mkRat_den' (n:Int) (d:Nat) (h:d≠0):(mkRat n d).den=d / Nat.gcd n.natAbs d:=by
 rw [← Rat.normalize_eq_mkRat h,Rat.den_normalize]
theorem mul_den' (q:Rat):q * (q.den:Rat)=(q.num:Rat):=by
 have h:mkRat q.num q.den=(q.num:Rat) / ((q.den:Nat):Rat):=Rat.mkRat_eq_div _ _
 rw [Rat.mkRat_self] at h
 have h2:((q.den:Nat):Rat)≠0:=by have:=Rat.natCast_pos.2 q.den_pos; grind
 have h3:=Rat.div_mul_cancel (a:=(q.num:Rat)) h2
 rw [← h] at h3
 exact h3
def ex (D:Nat) (q:Rat):Int:=q.num * ((D / q.den:Nat):Int)
theorem ex_eq {D:Nat} {q:Rat} (h:q.den ∣ D):(ex D q:Rat)=q * (D:Rat):=by
 obtain ⟨m,rfl⟩:=h
 unfold ex
 rw [Nat.mul_div_cancel_left _ q.den_pos,Rat.intCast_mul,Rat.intCast_natCast,Rat.natCast_mul]
 have h1:=mul_den' q
 grind
theorem ex_neg {D:Nat} {a:Rat}:ex D (-a) = - ex D a:=by
 unfold ex
 rw [Rat.neg_num,Rat.neg_den]
 grind
theorem ex_mul {D m:Nat} {a:Rat} (ha:a.den ∣ D):ex (m * D) a=(m:Int) * ex D a:=by
 have:a.den ∣ m * D:=Nat.dvd_trans ha (Nat.dvd_mul_left ..)
 rw [← Rat.intCast_inj,Rat.intCast_mul,ex_eq ha,ex_eq this,Rat.natCast_mul,Rat.intCast_natCast]
 grind
theorem ex_zero {D:Nat} (a:Rat) (h:a.num=0):ex D a=0:=by unfold ex; rw [h]; simp
theorem vt_tlist (D:Nat):∀ (ps:List Int) (l:List Rat),vt (tlist D ps l)=vp ps (l.map (ex D))
 | [],_=>rfl
 | _ :: _,[]=>rfl
 | p :: ps,q :: l=>by
  have ih:=vt_tlist D ps l
  unfold tlist at ih ⊢
  rw [List.zip_cons_cons,List.filterMap_cons]
  by_cases h:q.num=0
  ·simp only [h,if_true,List.map_cons,vp]
   rw [ih,ex_zero q h,Rat.zpow_zero,Rat.one_mul]
  ·simp only [h,if_false,List.map_cons,vp,vt]
   rw [ih]; rfl
theorem tden_go (l:List Rat):∀ d:Nat,d ∣ l.foldl (fun d q=>Nat.lcm d q.den) d∧∀ q∈l,q.den ∣ l.foldl (fun d q=>Nat.lcm d q.den) d:=by
 induction l with
 | nil=>intro d; exact ⟨Nat.dvd_refl _,by simp⟩
 | cons a l ih =>
  intro d
  obtain ⟨h1,h2⟩:=ih (Nat.lcm d a.den)
  refine ⟨Nat.dvd_trans (Nat.dvd_lcm_left ..) h1,fun q hq=>?_⟩
  rcases List.mem_cons.1 hq with rfl | hq
  ·exact Nat.dvd_trans (Nat.dvd_lcm_right ..) h1
  ·exact h2 q hq
theorem tden_dvd {l:List Rat} {q:Rat} (h:q∈l):q.den ∣ tden l:=(tden_go l 1).2 q h
theorem tden_least (l:List Rat):∀ (D d:Nat),d ∣ D→(∀ q∈l,q.den ∣ D)→l.foldl (fun d q=>Nat.lcm d q.den) d ∣ D:=by
 induction l with
 | nil=>intro D d h _; exact h
 | cons a l ih =>
  intro D d h h2
  exact ih D _ (Nat.lcm_dvd h (h2 a List.mem_cons_self)) fun q hq=>h2 q (List.mem_cons_of_mem _ hq)
theorem tden_min {l:List Rat} {D:Nat} (h:∀ q∈l,q.den ∣ D):tden l ∣ D:=tden_least l D 1 (Nat.one_dvd _) h
theorem tden_pos' (l:List Rat):0 < tden l:=by
 have:∀ (l:List Rat) (d:Nat),0 < d→0 < l.foldl (fun d q=>Nat.lcm d q.den) d:=by
  intro l
  induction l with
  | nil=>intro d h; exact h
  | cons a l ih=>intro d h; exact ih _ (Nat.lcm_pos h a.den_pos)
 exact this l 1 Nat.one_pos
def sz (ps:List Int) (l:List Rat):Int:=signT (tlist (tden l) ps l)
theorem tlist_pos {D:Nat} {ps:List Int} {l:List Rat} (hp:∀ p∈ps,0 < p):∀ x∈tlist D ps l,0 < x.1:=by
 intro x hx
 unfold tlist at hx
 obtain ⟨y,hy,he⟩:=List.mem_filterMap.1 hx
 have h1:=(List.of_mem_zip hy).1
 split at he
 ·cases he
 ·cases he; exact hp _ h1
theorem sz_eq {ps:List Int} {l:List Rat} {D:Nat} (hp:∀ p∈ps,0 < p) (hD:0 < D) (h:∀ q∈l,q.den ∣ D):sz ps l=sg (vp ps (l.map (ex D))):=by
 unfold sz
 rw [signT_sg _ (tlist_pos hp),vt_tlist]
 obtain ⟨m,rfl⟩:=tden_min h
 have hm:0 < m:=Nat.pos_of_mul_pos_left hD
 have e:l.map (ex (tden l * m))=(l.map (ex (tden l))).map fun k=>(m:Int) * k:=by
  rw [List.map_map]
  refine List.map_congr_left fun q hq=>?_
  rw [Nat.mul_comm,ex_mul (tden_dvd hq)]; rfl
 rw [e,vp_nsmul _ _ hp,sg_pow (vp_pos _ _ hp) hm]
theorem sz_neg {ps:List Int} {l:List Rat} (hp:∀ p∈ps,0 < p):sz ps (l.map fun q => -q) = - sz ps l:=by
 have h1:∀ q∈l.map (fun q:Rat => -q),q.den ∣ tden l:=by
  intro q hq
  obtain ⟨x,hx,rfl⟩:=List.mem_map.1 hq
  rw [Rat.neg_den]; exact tden_dvd hx
 rw [sz_eq hp (tden_pos' l) h1,sz_eq hp (tden_pos' l) fun q hq=>tden_dvd hq,← sg_inv (vp_pos _ _ hp),← vp_neg _ _ hp]
 congr 2
 rw [List.map_map,List.map_map]
 exact List.map_congr_left fun q _=>ex_neg
end Go.Proofs.YtlomhfknmhaboaaGreatDoor.LN

namespace Go.Proofs.YtlomhfknmhaboaaGreatDoor.LN
theorem zpow_nat_mul {x:Rat} (hx:x≠0) (a:Int):∀ n:Nat,(x ^ a) ^ n=x ^ (a * n)
 | 0=>by simp
 | n + 1=>by
  rw [Rat.pow_succ,zpow_nat_mul hx a n,← Rat.zpow_add hx]
  congr 1
  rw [Int.natCast_add,Int.mul_add]; simp
theorem zpow_mul' {x:Rat} (hx:x≠0) (a b:Int):(x ^ a) ^ b=x ^ (a * b):=by
 rcases Int.eq_nat_or_neg b with ⟨n,rfl | rfl⟩
 ·rw [Rat.zpow_natCast,zpow_nat_mul hx]
 ·rw [Rat.zpow_neg,Rat.zpow_natCast,zpow_nat_mul hx,← Rat.zpow_neg]
  congr 1
  rw [Int.mul_neg]
theorem two_ne:(2:Rat)≠0:=by decide
theorem two_zpow_one_lt {a:Int} (h:0 < a):(1:Rat) < 2 ^ a:=by
 obtain ⟨n,rfl⟩:=Int.eq_ofNat_of_zero_le (Int.le_of_lt h)
 rw [Rat.zpow_natCast]
 exact pow_one_lt (by decide) n (by omega)
theorem two_zpow_lt_one {a:Int} (h:a < 0):(2:Rat) ^ a < 1:=by
 have h1:=two_zpow_one_lt (a := -a) (by omega)
 have h2:(2:Rat) ^ a * 2 ^ (-a)=1:=by rw [← Rat.zpow_add two_ne]; simp [Int.add_right_neg]
 have h3:(0:Rat) < 2 ^ a:=Rat.zpow_pos (by decide)
 refine Rat.not_le.1 fun h4=>?_
 have h5:=Rat.mul_le_mul_of_nonneg_right h4 (c:=2 ^ (-a)) (by grind)
 grind
theorem pow_le_pow' {x y:Rat} (h0:0 < x) (h:x≤y):∀ n:Nat,x ^ n≤y ^ n
 | 0=>by rw [Rat.pow_zero,Rat.pow_zero]; exact Rat.le_refl
 | n + 1=>by
  have ih:=pow_le_pow' h0 h n
  rw [Rat.pow_succ,Rat.pow_succ]
  have h1:=Rat.mul_le_mul_of_nonneg_right ih (c:=x) (by grind)
  have h2:=Rat.mul_le_mul_of_nonneg_left h (c:=y ^ n) (Rat.le_of_lt (Rat.pow_pos (by grind)))
  exact Rat.le_trans h1 h2
theorem inv_le_inv {x y:Rat} (h0:0 < x) (h:x≤y):y⁻¹≤x⁻¹:=by
 have hy:0 < y:=by grind
 have h1:=Rat.inv_pos.2 h0
 have h2:=Rat.inv_pos.2 hy
 have e1:=Rat.mul_inv_cancel x (by grind)
 have e2:=Rat.mul_inv_cancel y (by grind)
 have h3:=Rat.mul_le_mul_of_nonneg_right h (c:=x⁻¹ * y⁻¹) (Rat.le_of_lt (Rat.mul_pos h1 h2))
 have e3:x * (x⁻¹ * y⁻¹)=y⁻¹:=by rw [← Rat.mul_assoc,e1,Rat.one_mul]
 have e4:y * (x⁻¹ * y⁻¹)=x⁻¹:=by rw [Rat.mul_comm x⁻¹,← Rat.mul_assoc,e2,Rat.one_mul]
 rw [e3,e4] at h3
 exact h3
theorem zpow_le_zpow_neg {x y:Rat} (h0:0 < x) (h:x≤y) {j:Int} (hj:j≤0):y ^ j≤x ^ j:=by
 obtain ⟨n,hn⟩:=Int.eq_ofNat_of_zero_le (a := -j) (by omega)
 have e:j = -(n:Int):=by omega
 rw [e,Rat.zpow_neg,Rat.zpow_neg,Rat.zpow_natCast,Rat.zpow_natCast]
 exact inv_le_inv (Rat.pow_pos h0) (pow_le_pow' h0 h n)
structure Btw (v:Rat) (a b:Int):Prop where
 pos:0 < v
 lo:2 ^ a≤v
 hi:v≤2 ^ b
theorem Btw.inv {v:Rat} {a b:Int} (h:Btw v a b):Btw v⁻¹ (-b) (-a):=by
 refine ⟨Rat.inv_pos.2 h.pos,?_,?_⟩
 ·rw [Rat.zpow_neg]; exact inv_le_inv h.pos h.hi
 ·rw [Rat.zpow_neg]; exact inv_le_inv (Rat.zpow_pos (by decide)) h.lo
theorem Btw.zpow_neg {v:Rat} {a b:Int} (h:Btw v a b) {j:Int} (hj:j≤0):Btw (v ^ j) (j * b) (j * a):=by
 refine ⟨Rat.zpow_pos h.pos,?_,?_⟩
 ·rw [Int.mul_comm,← zpow_mul' two_ne]; exact zpow_le_zpow_neg h.pos h.hi hj
 ·rw [Int.mul_comm,← zpow_mul' two_ne]; exact zpow_le_zpow_neg (Rat.zpow_pos (by decide)) h.lo hj
theorem Btw.mul {v u:Rat} {a b c d:Int} (h:Btw v a b) (k:Btw u c d):Btw (v * u) (a + c) (b + d):=by
 refine ⟨Rat.mul_pos h.pos k.pos,?_,?_⟩
 ·rw [Rat.zpow_add two_ne]
  have h1:=Rat.mul_le_mul_of_nonneg_right h.lo (c:=2 ^ c) (Rat.le_of_lt (Rat.zpow_pos (by decide)))
  have h2:=Rat.mul_le_mul_of_nonneg_left k.lo (c:=v) (Rat.le_of_lt h.pos)
  exact Rat.le_trans h1 h2
 ·rw [Rat.zpow_add two_ne]
  have h1:=Rat.mul_le_mul_of_nonneg_right h.hi (c:=u) (Rat.le_of_lt k.pos)
  have h2:=Rat.mul_le_mul_of_nonneg_left k.hi (c:=2 ^ b) (Rat.le_of_lt (Rat.zpow_pos (by decide)))
  exact Rat.le_trans h1 h2
theorem Btw.lt {v:Rat} {a b:Int} (h:Btw v a b) (hb:b < 0):v < 1:=by
 have:=two_zpow_lt_one hb
 have:=h.hi
 grind
def eLo (f:Int→Nat) (l:List (Int×Int)):Int:=(l.map fun x=>if x.2 < 0 then x.2 * (hiL f x.1:Int) else x.2 * (f x.1:Int)).sum
def eHi (f:Int→Nat) (l:List (Int×Int)):Int:=(l.map fun x=>if x.2 < 0 then x.2 * (f x.1:Int) else x.2 * (hiL f x.1:Int)).sum
theorem term_split (k:Int) (a b:Nat):(if k < 0 then k * (b:Int) else k * (a:Int))=((k.toNat * a:Nat):Int) - (((-k).toNat * b:Nat):Int):=by
 by_cases h:k < 0
 ·rw [if_pos h,show k.toNat=0 by omega]
  have e:((-k).toNat:Int) = -k:=Int.toNat_of_nonneg (by omega)
  rw [Int.natCast_mul,Int.natCast_mul,e]
  grind
 ·rw [if_neg h,show (-k).toNat=0 by omega]
  have e:(k.toNat:Int)=k:=Int.toNat_of_nonneg (by omega)
  rw [Int.natCast_mul,Int.natCast_mul,e]
  grind
theorem eLo_eq (f:Int→Nat):∀ l:List (Int×Int),eLo f l=(loS f l:Int) - (hiS f (negT l):Int)
 | []=>rfl
 | x :: l=>by
  have ih:=eLo_eq f l
  unfold eLo at ih ⊢
  have e:negT (x :: l)=(x.1,-x.2) :: negT l:=rfl
  rw [List.map_cons,List.sum_cons,ih,e,loS,hiS,term_split]
  dsimp only
  omega
theorem eHi_eq (f:Int→Nat):∀ l:List (Int×Int),eHi f l=(hiS f l:Int) - (loS f (negT l):Int)
 | []=>rfl
 | x :: l=>by
  have ih:=eHi_eq f l
  unfold eHi at ih ⊢
  have e:negT (x :: l)=(x.1,-x.2) :: negT l:=rfl
  rw [List.map_cons,List.sum_cons,ih,e,hiS,loS,term_split]
  dsimp only
  omega
end Go.Proofs.YtlomhfknmhaboaaGreatDoor.LN

namespace Go.Proofs.YtlomhfknmhaboaaGreatDoor
open Go.RowKit Go.Shelf
attribute [local go_sem] Oper.semAt_some
def lf (n:Nat):Int→Nat:=fun p=>lgN p n
structure EndI (B:Nat) (n:Int) (slo shi:ByteArray) (W:World):Prop where
 c3:W.cell? ⟨B + 1,0,none⟩=some (.int .i64 n)
 c4:W.cell? ⟨B + 1 + 1,0,none⟩=some (.string slo)
 c5:W.cell? ⟨B + 1 + 1 + 1,0,none⟩=some (.string shi)
 f4:W.frozen? ⟨B + 1 + 1,0,none⟩=false
 f5:W.frozen? ⟨B + 1 + 1 + 1,0,none⟩=false
 sz:B + 4 < W.heap.size
theorem EndI.below {B:Nat} {n:Int} {slo shi:ByteArray} {W W':World} (h:EndI B n slo shi W) (hb:Below W.heap.size W W'):EndI B n slo shi W' :=
 ⟨(hb.cell (block_lt_of_cell h.c3)).trans h.c3,(hb.cell (block_lt_of_cell h.c4)).trans h.c4,(hb.cell (block_lt_of_cell h.c5)).trans h.c5,
  (hb.frozen (block_lt_of_cell h.c4)).trans h.f4,(hb.frozen (block_lt_of_cell h.c5)).trans h.f5,Nat.lt_of_lt_of_le h.sz hb.size⟩
theorem EndI.kept {B:Nat} {n:Int} {slo shi:ByteArray} {W W':World} {row:Option Nat} (h:EndI B n slo shi W) (hg:W.grownBy W' row) (hr:∀ r,row=some r→∃ o:Obj,W.heap[r]?=some o∧o.isCells=false):EndI B n slo shi W' :=
 ⟨cell_kept h.c3 hg hr,cell_kept h.c4 hg hr,cell_kept h.c5 hg hr,(frozen_kept h.c4 hg hr).trans h.f4,(frozen_kept h.c5 hg hr).trans h.f5,Nat.lt_of_lt_of_le h.sz hg.size⟩
theorem EndI.stored {B:Nat} {n:Int} {slo shi:ByteArray} {W:World} (h:EndI B n slo shi W) (s t:ByteArray) :
  EndI B n s t ((W.setCell ⟨B + 1 + 1,0,none⟩ (.string s)).setCell ⟨B + 1 + 1 + 1,0,none⟩ (.string t)):=by
 refine ⟨?_,?_,?_,?_,?_,?_⟩
 ·rw [World.cell?_setCell_other _ _ _ _ (by simp),World.cell?_setCell_other _ _ _ _ (by simp)]; exact h.c3
 ·rw [World.cell?_setCell_other _ _ _ _ (by simp),World.cell?_setCell_same _ _ _ h.c4]
 ·rw [World.cell?_setCell_same _ _ _ (by rw [World.cell?_setCell_other _ _ _ _ (by simp)]; exact h.c5)]
 ·rw [World.frozen?_setCell,World.frozen?_setCell]; exact h.f4
 ·rw [World.frozen?_setCell,World.frozen?_setCell]; exact h.f5
 ·rw [World.size_setCell,World.size_setCell]; exact h.sz
theorem ends_kt {B:Nat} {W0 W W4:World} (hB:W0.heap.size=B) (hb:Below W0.heap.size W0 W) (hsz:B + 4 < W.heap.size) (h:Below W.heap.size W W4) (v5 v6:Value) :
  KT B (B + 4) W ((W4.setCell ⟨B + 1 + 1,0,none⟩ v5).setCell ⟨B + 1 + 1 + 1,0,none⟩ v6):=by
 subst hB
 refine ⟨((h.mono hb.size).setCell (p:=⟨W0.heap.size + 1 + 1,0,none⟩) (by show _≤W0.heap.size + 1 + 1; omega) _).setCell (p:=⟨W0.heap.size + 1 + 1 + 1,0,none⟩) (by show _≤W0.heap.size + 1 + 1 + 1; omega) _,?_⟩
 rw [obj_other (g:=W0.heap.size + 1 + 1 + 1) (k:=W0.heap.size + 4) (by omega),obj_other (g:=W0.heap.size + 1 + 1) (k:=W0.heap.size + 4) (by omega),h.block _ hsz]
theorem boxes4 (w:World) (o1:Obj) (v2 v3 v4:Value) (t2 t3 t4:TypeId) (W:World) (hW:(((w.alloc o1).alloc (.cells #[v2] t2)).alloc (.cells #[v3] t3)).alloc (.cells #[v4] t4)=W) :
  W.heap[w.heap.size + 1]?=some (.cells #[v2] t2 (0,0))∧W.heap[w.heap.size + 1 + 1]?=some (.cells #[v3] t3 (0,0))∧W.heap[w.heap.size + 1 + 1 + 1]?=some (.cells #[v4] t4 (0,0)):=by
 subst hW
 exact ⟨heap_old (heap_old (heap_at _ _ _ _ (by simp)) _) _,heap_old (heap_at _ _ _ _ (by simp)) _,heap_at _ _ _ _ (by simp)⟩
def PrT (tl:List (Int×Int)):Prop:=∀ x∈tl,∃ q:Nat,x.1=q∧(q=2∨q∈oddP)
theorem eLo_snoc (f:Int→Nat) (l:List (Int×Int)) (x:Int×Int):LN.eLo f (l ++ [x])=LN.eLo f l + (if x.2 < 0 then x.2 * (LN.hiL f x.1:Int) else x.2 * (f x.1:Int)):=by simp [LN.eLo]
theorem eHi_snoc (f:Int→Nat) (l:List (Int×Int)) (x:Int×Int):LN.eHi f (l ++ [x])=LN.eHi f l + (if x.2 < 0 then x.2 * (f x.1:Int) else x.2 * (LN.hiL f x.1:Int)):=by simp [LN.eHi]
theorem lf_lt {n:Nat} {p:Int} (hp:∃ q:Nat,p=q∧(q=2∨q∈oddP)) (hn:n≤1056):lf n p < 2 ^ (n + 3)∧LN.hiL (lf n) p < 2 ^ (n + 3):=by
 obtain ⟨q,rfl,hq⟩:=hp
 have h:=lgN_le hq hn
 have e:2 ^ (n + 3)=8 * 2 ^ n:=by rw [Nat.pow_add,Nat.mul_comm]
 have h1:=Nat.two_pow_pos n
 have h2:lf n q < 7 * 2 ^ n:=h
 refine ⟨by omega,?_⟩
 unfold LN.hiL
 split <;> omega
theorem abs_mul_lt {k:Int} {a E F:Nat} (hk:k.natAbs < 2 ^ E) (ha:a < 2 ^ F):(k * (a:Int)).natAbs < 2 ^ (E + F):=by
 rw [Int.natAbs_mul,Int.natAbs_natCast,Nat.pow_add]
 exact Nat.mul_lt_mul'' hk ha
theorem eSum_le {n E:Nat} (hn:n≤1056):∀ l:List (Int×Int),PrT l→(∀ x∈l,x.2.natAbs < 2 ^ E)→(LN.eLo (lf n) l).natAbs≤l.length * 2 ^ (E + (n + 3))∧(LN.eHi (lf n) l).natAbs≤l.length * 2 ^ (E + (n + 3))
 | [],_,_=>by simp [LN.eLo,LN.eHi]
 | x :: l,hp,hk=>by
  have ih:=eSum_le hn l (fun y hy=>hp y (List.mem_cons_of_mem _ hy)) (fun y hy=>hk y (List.mem_cons_of_mem _ hy))
  obtain ⟨h1,h2⟩:=lf_lt (hp x List.mem_cons_self) hn
  have hx:=hk x List.mem_cons_self
  have a1:=abs_mul_lt hx h1
  have a2:=abs_mul_lt hx h2
  have e1:LN.eLo (lf n) (x :: l)=(if x.2 < 0 then x.2 * (LN.hiL (lf n) x.1:Int) else x.2 * (lf n x.1:Int)) + LN.eLo (lf n) l:=by simp [LN.eLo]
  have e2:LN.eHi (lf n) (x :: l)=(if x.2 < 0 then x.2 * (lf n x.1:Int) else x.2 * (LN.hiL (lf n) x.1:Int)) + LN.eHi (lf n) l:=by simp [LN.eHi]
  rw [e1,e2,List.length_cons,Nat.add_mul,Nat.one_mul]
  generalize 2 ^ (E + (n + 3))=T at *
  generalize l.length * T=S at *
  constructor
  ·refine Nat.le_trans (Int.natAbs_add_le _ _) ?_
   split <;> omega
  ·refine Nat.le_trans (Int.natAbs_add_le _ _) ?_
   split <;> omega
theorem eSum_num {n E:Nat} (hn:n≤1056) (l:List (Int×Int)) (hl:l.length≤1000) (hp:PrT l) (hk:∀ x∈l,x.2.natAbs < 2 ^ E) :
  (LN.eLo (lf n) l).natAbs < 2 ^ (E + (n + 3) + 10)∧(LN.eHi (lf n) l).natAbs < 2 ^ (E + (n + 3) + 10):=by
 obtain ⟨h1,h2⟩:=eSum_le hn l hp hk
 have h3:l.length * 2 ^ (E + (n + 3))≤1000 * 2 ^ (E + (n + 3)):=Nat.mul_le_mul_right _ hl
 have e:2 ^ (E + (n + 3) + 10)=1024 * 2 ^ (E + (n + 3)):=by rw [Nat.pow_add _ _ 10,Nat.mul_comm]
 have h4:=Nat.two_pow_pos (E + (n + 3))
 rw [e]
 constructor <;> omega
theorem EndI.cast {B:Nat} {n:Int} {s s' t t':ByteArray} {W:World} (h:EndI B n s t W) (e1:s'=s) (e2:t'=t):EndI B n s' t' W:=by subst e1; subst e2; exact h
theorem addZ (w:World) (a b:Int) (K:Nat) (hK:K < 90000) (ha:a.natAbs < 2 ^ K) (hb:b.natAbs < 2 ^ K) (L:Laid w):Gives Tryz.prog 104 #[.string (itx a),.string (itx b)] w (.string (itx (a + b))) :=
 addz_any w a b (num_two ha (by omega)) (num_two hb (by omega)) (num_two (K:=K + 1) (by rw [Nat.pow_succ]; omega) (by omega)) L
theorem mulZ (w:World) (a b:Int) (K M:Nat) (hK:K + M < 90000) (ha:a.natAbs < 2 ^ K) (hb:b.natAbs < 2 ^ M) (L:Laid w):Gives Tryz.prog 82 #[.string (itx a),.string (itx b)] w (.string (itx (a * b))) :=
 mulz_any w a b (num_two ha (by omega)) (num_two hb (by omega)) (num_two (K:=K + M) (by rw [Int.natAbs_mul,Nat.pow_add]; exact Nat.mul_lt_mul'' ha hb) (by omega)) L
def endsAct (w:World) (b1 b2:Option Addr) (d1 d2 D m:Nat) (n:Int) (p:Int) (k:ByteArray):Act:={ tmps := #[.agg (tcells b1 d1 b2 d2 m D),.int .i64 n,.pointer (some ⟨w.heap.size,0,none⟩),.pointer (some ⟨w.heap.size + 1,0,none⟩),.pointer (some ⟨w.heap.size + 1 + 1,0,none⟩),.pointer (some ⟨w.heap.size + 1 + 1 + 1,0,none⟩),.int .i64 p,.string k,undef,undef,.agg #[.slice b1 m d1,.slice b2 m d2,.string (dec D)],.func (.func 161) #[] #[.pointer (some ⟨w.heap.size + 1 + 1 + 1 + 1,0,none⟩)],.int .i64 p,.string k,undef,undef,undef,undef,undef,undef,undef,undef,undef,undef,undef,undef,undef,undef,undef,undef,undef,undef,undef,undef,undef,undef,undef,undef,undef,undef,undef],defers:=[] }
set_option maxRecDepth 100000 in
set_option maxHeartbeats 8000000 in
theorem ends_any (w:World) (b1 b2:Option Addr) (d1 d2 D n E:Nat) (tl:List (Int×Int)) (T:TermsAt w tl b1 b2) (hP:PrT tl) (hE:E≤20000) (hK:∀ x∈tl,x.2.natAbs < 2 ^ E) (hn:n≤1056) (L:Laid w) :
  Gives Tryz.prog 109 #[.agg (tcells b1 d1 b2 d2 tl.length D),.int .i64 n] w (.tuple #[.string (itx (LN.eLo (lf n) tl)),.string (itx (LN.eHi (lf n) tl))]):=by
 unfold Gives
 have hr1:=T.r1
 have hr2:=T.r2
 have hl:=T.len
 refine (callsIn_wide (n:=3)).1 ?_
 refine callsIn_of_wp_marks Tryz.func109 rfl trivial ?_ rfl
 simp only [Tryz.ntmps109,List.size_toArray,List.length_cons,List.length_nil,Nat.reduceAdd,Nat.reduceSub,Array.replicate_succ,Array.replicate_zero,List.push_toArray,List.append_toArray,List.nil_append,List.cons_append]
 have HT:=Lib.hid T
 have HL:=Lib.hid L
 have Hn:=Lib.hid hn
 have HE:=Lib.hid hE
 have HP:=Lib.hid hP
 have HK:=Lib.hid hK
 have H0:Hid (itx 0=⟨#[48]⟩):=by show _=_; rw [show (0:Int)=((0:Nat):Int) from rfl,itx_nat,dec_zero]
 clear L T hn hE hK hP
 gi_wp2_with fail
 obtain ⟨w0,hw0⟩:∃ w0,(((w.alloc (Obj.cells (tcells b1 d1 b2 d2 tl.length D) 103)).alloc (Obj.cells #[Value.int IntKind.i64 n] 3)).alloc (Obj.cells #[Value.string ⟨#[48]⟩] 28)).alloc (Obj.cells #[Value.string ⟨#[48]⟩] 28)=w0:=⟨_,rfl⟩
 have hsz0:w0.heap.size=w.heap.size + 4:=by rw [← hw0]; simp
 have hB0:Below w.heap.size w w0:=by rw [← hw0]; exact ((((Below.refl _ w).alloc nr_ _).alloc (by simp) _).alloc (by simp; omega) _).alloc (by simp; omega) _
 have hbox:=boxes4 w _ _ _ _ _ _ _ w0 hw0
 rw [hw0]
 refine ⟨trivial,?_⟩
 refine (callsIn_wide.2 (all_any w0 b1 b2 d1 d2 tl.length D)).mono ?_
 rintro e w' ⟨rfl,rfl⟩
 rw [hsz0]
 have hB5:(w0.alloc (.cells (tcells b1 d1 b2 d2 tl.length D) 103)).heap[w.heap.size + 4]?=some (.cells (tcells b1 d1 b2 d2 tl.length D) 103 (0,0)):=by
  rw [← hsz0]; exact Go.heap_alloc_new w0 _
 have hB1:Below w.heap.size w (w0.alloc (.cells (tcells b1 d1 b2 d2 tl.length D) 103)):=hB0.alloc (by omega) _
 have hsz1:(w0.alloc (.cells (tcells b1 d1 b2 d2 tl.length D) 103)).heap.size=w.heap.size + 5:=by rw [World.size_alloc,hsz0]
 have hI1:EndI w.heap.size n (itx (LN.eLo (lf n) [])) (itx (LN.eHi (lf n) [])) (w0.alloc (.cells (tcells b1 d1 b2 d2 tl.length D) 103)):=by
  obtain ⟨h1,h2,h3⟩:=hbox
  have h1:=heap_old h1 (.cells (tcells b1 d1 b2 d2 tl.length D) 103)
  have h2:=heap_old h2 (.cells (tcells b1 d1 b2 d2 tl.length D) 103)
  have h3:=heap_old h3 (.cells (tcells b1 d1 b2 d2 tl.length D) 103)
  have e1:itx (LN.eLo (lf n) [])=⟨#[48]⟩:=H0.out
  have e2:itx (LN.eHi (lf n) [])=⟨#[48]⟩:=H0.out
  rw [e1,e2]
  exact ⟨(one_cell h1).1,(one_cell h2).1,(one_cell h3).1,(one_cell h2).2,(one_cell h3).2,by rw [hsz1]; omega⟩
 clear hB0 hw0 hbox H0
 generalize w0.alloc (.cells (tcells b1 d1 b2 d2 tl.length D) 103)=w1 at *
 gi_wp2_with fail
 refine wpIn_rangeFunc_ownF rfl (by decide) (gf:=161) (lb := #[.pointer (some ⟨w.heap.size + 4,0,none⟩)]) rfl trivial (enters_of Tryz.func161 (by kernel_rfl) rfl)
  (all_stops 2 (by decide) w w1 hB1 (w.heap.size + 4) b1 b2 d1 d2 D tl hl hB5 hr1 hr2) kt_t (kt_b (by rw [hsz1]; omega) (by rw [hsz1]; omega)) (Below.refl _ _) (fun _=>rfl)
  (fun pre W=>EndI w.heap.size n (itx (LN.eLo (lf n) (pre.map Subtype.val))) (itx (LN.eHi (lf n) (pre.map Subtype.val))) W∧Below w.heap.size w W)
  (fun _ _ W=>False∧Below w.heap.size w W)
  (OwnFrom.and (Own.from (fun s A B row hs hg hr=>hs.kept hg hr) _) (ownFrom_below nr_ (by rw [hsz1]; omega)))
  (fun c=>OwnFrom.and (Own.from (fun s A B row hs hg hr=>hs.elim) _) (ownFrom_below nr_ (by rw [hsz1]; omega)))
  ⟨hI1,hB1⟩
  (fun x=>endsAct w b1 b2 d1 d2 D tl.length n x.1.1 (itx x.1.2)) ?assign ?body ?done ?stop
 case assign =>
  intro l x W K hK
  unfold endsAct at hK
  gi_wp2
  exact hK
 case body =>
  rintro l pre ⟨⟨p,k⟩,hmem⟩ W0 ⟨hI,hB⟩ hlen
  have HI:=Lib.hid hI
  have HB:=Lib.hid hB
  have hpp:=HP.out _ hmem
  have hkk:=HK.out _ hmem
  simp only at hpp hkk
  have hn:=Hn.out
  have hE:=HE.out
  obtain ⟨g1,g2⟩:=lf_lt hpp hn
  have hsub:∀ x∈pre.map Subtype.val,x∈tl:=fun x hx=>by
   obtain ⟨y,_,rfl⟩:=List.mem_map.1 hx
   exact y.2
  have hpl:(pre.map Subtype.val).length≤1000:=by rw [List.length_map]; omega
  obtain ⟨s1,s2⟩:=eSum_num hn (pre.map Subtype.val) hpl (fun x hx=>HP.out x (hsub x hx)) (fun x hx=>HK.out x (hsub x hx))
  have e1:LN.eLo (lf n) ((pre ++ [(⟨(p,k),hmem⟩:{x // x∈tl})]).map Subtype.val)=LN.eLo (lf n) (pre.map Subtype.val) + (if k < 0 then (LN.hiL (lf n) p:Int) * k else (lf n p:Int) * k):=by
   rw [List.map_append]
   have:=eLo_snoc (lf n) (pre.map Subtype.val) (p,k)
   simp only at this
   rw [Int.mul_comm k,Int.mul_comm k] at this
   exact this
  have e2:LN.eHi (lf n) ((pre ++ [(⟨(p,k),hmem⟩:{x // x∈tl})]).map Subtype.val)=LN.eHi (lf n) (pre.map Subtype.val) + (if k < 0 then (lf n p:Int) * k else (LN.hiL (lf n) p:Int) * k):=by
   rw [List.map_append]
   have:=eHi_snoc (lf n) (pre.map Subtype.val) (p,k)
   simp only at this
   rw [Int.mul_comm k,Int.mul_comm k] at this
   exact this
  have Hlog:Hid (∀ W,Below w.heap.size w W→Gives Tryz.prog 136 #[.int .i64 p,.int .i64 n] W (.string (dec (lf n p)))):=fun W hW=>by
   obtain ⟨q,rfl,hq⟩:=hpp
   exact log_any W q n hq hn (HL.out.below hW)
  have Hm1:Hid (∀ W,Below w.heap.size w W→Gives Tryz.prog 82 #[.string (dec (lf n p)),.string (itx k)] W (.string (itx ((lf n p:Int) * k)))):=fun W hW=>by
   have:=mulZ W (lf n p:Int) k (n + 3) E (by omega) (by rw [Int.natAbs_natCast]; exact g1) hkk (HL.out.below hW)
   rw [itx_nat] at this; exact this
  have Hm2:Hid (∀ W,Below w.heap.size w W→Gives Tryz.prog 82 #[.string (dec (LN.hiL (lf n) p)),.string (itx k)] W (.string (itx ((LN.hiL (lf n) p:Int) * k)))):=fun W hW=>by
   have:=mulZ W (LN.hiL (lf n) p:Int) k (n + 3) E (by omega) (by rw [Int.natAbs_natCast]; exact g2) hkk (HL.out.below hW)
   rw [itx_nat] at this; exact this
  have Hsg:Hid (∀ W,Below w.heap.size w W→Gives Tryz.prog 54 #[.string (itx k)] W (.int .i64 k.sign)):=fun W _=>sign_any W k
  have t1:((lf n p:Int) * k).natAbs < 2 ^ (E + (n + 3) + 10):=by
   have:=abs_mul_lt hkk g1
   rw [Int.mul_comm] at this
   exact Nat.lt_of_lt_of_le this (Nat.pow_le_pow_right (by decide) (by omega))
  have t2:((LN.hiL (lf n) p:Int) * k).natAbs < 2 ^ (E + (n + 3) + 10):=by
   have:=abs_mul_lt hkk g2
   rw [Int.mul_comm] at this
   exact Nat.lt_of_lt_of_le this (Nat.pow_le_pow_right (by decide) (by omega))
  have hF:E + (n + 3) + 10 < 90000:=by omega
  have one:1 < 2 ^ (n + 3):=Nat.one_lt_two_pow (by omega)
  have Had:Hid (∀ W,Below w.heap.size w W→Gives Tryz.prog 104 #[.string (dec (lf n p)),.string ⟨#[49]⟩] W (.string (dec (lf n p + 1)))):=fun W hW=>by
   have:=addD W (lf n p) 1 (n + 3) (by omega) g1 one (HL.out.below hW)
   rw [dec_one] at this; exact this
  generalize E + (n + 3) + 10=F at *
  unfold endsAct
  have Hk0:=Lib.hid (Below.refl W0.heap.size W0)
  have HI0:=HI
  have HB0:=HB
  have hw2:(k.sign = -1∧k < 0)∨(0≤k.sign∧k.sign≤1∧¬ k < 0):=by
   rcases Int.lt_trichotomy k 0 with h | h | h
   ·exact .inl ⟨Int.sign_eq_neg_one_of_neg h,h⟩
   ·subst h; exact .inr ⟨by decide,by decide,by decide⟩
   ·rw [Int.sign_eq_one_of_pos h]; exact .inr ⟨by decide,by decide,by omega⟩
  clear hI hB hr1 hr2 hI1 hB1 hB5 hpp hkk hsub g1 g2 one
  have hc3:=HI0.out.c3
  have hc4:=HI0.out.c4
  have hc5:=HI0.out.c5
  have hf4:=HI0.out.f4
  have hf5:=HI0.out.f5
  have HLL:Hid (∀ W,Below w.heap.size w W→Laid W):=fun W hW=>HL.out.below hW
  by_cases hp2:p=2
  ·subst hp2
   have hH:LN.hiL (lf n) 2=lf n 2:=by unfold LN.hiL; rw [if_pos rfl]
   rw [hH] at Hm2 e1 e2 t2
   clear hH
   rcases hw2 with ⟨hs,hk⟩ | ⟨hs1,hs2,hk⟩
   ·rw [if_pos hk] at e1 e2
    rw [hs] at Hsg
    clear hs
    have Ha1:Hid (∀ W,Below w.heap.size w W→Gives Tryz.prog 104 #[.string (itx (LN.eLo (lf n) (pre.map Subtype.val))),.string (itx ((lf n 2:Int) * k))] W (.string (itx ((LN.eLo (lf n) (pre.map Subtype.val)) + (lf n 2:Int) * k)))):=fun W hW=>addZ W _ _ F hF s1 t2 (HLL.out W hW)
    have Ha2:Hid (∀ W,Below w.heap.size w W→Gives Tryz.prog 104 #[.string (itx (LN.eHi (lf n) (pre.map Subtype.val))),.string (itx ((lf n 2:Int) * k))] W (.string (itx ((LN.eHi (lf n) (pre.map Subtype.val)) + (lf n 2:Int) * k)))):=fun W hW=>addZ W _ _ F hF s2 t1 (HLL.out W hW)
    rw [← e1] at Ha1
    rw [← e2] at Ha2
    clear e1 e2 s1 s2 t1 t2 HLL hlen hpl hF
    obtain ⟨slo2,hq1⟩:∃ s,itx (LN.eLo (lf n) ((pre ++ [(⟨(2,k),hmem⟩:{x // x∈tl})]).map Subtype.val))=s:=⟨_,rfl⟩
    obtain ⟨shi2,hq2⟩:∃ s,itx (LN.eHi (lf n) ((pre ++ [(⟨(2,k),hmem⟩:{x // x∈tl})]).map Subtype.val))=s:=⟨_,rfl⟩
    rw [hq1] at Ha1
    rw [hq2] at Ha2
    have Hf1:=Lib.hid hq1
    have Hf2:=Lib.hid hq2
    clear hq1 hq2
    generalize itx (LN.eLo (lf n) (pre.map Subtype.val))=slo at *
    generalize itx (LN.eHi (lf n) (pre.map Subtype.val))=shi at *
    generalize itx k=sk at *
    generalize itx ((lf n 2:Int) * k)=sa at *
    generalize dec (lf n 2)=sL at *
    clear Had
    gi_wp2_with fail
    refine ⟨trivial,?_⟩
    refine (CallsIn.inRound l (callsIn_wide.2 (Hlog.out W0 HB0.out))).mono ?_
    rintro e W1 ⟨rfl,hb⟩
    have HI1:=Lib.hid (HI0.out.below hb)
    have HB1:=Lib.hid (HB0.out.trans (hb.mono HB0.out.size))
    have Hk1:=Lib.hid (Hk0.out.trans (hb.mono Hk0.out.size))
    clear hb hc3 hc4 hc5 hf4 hf5 Hlog HI0 HB0 Hk0
    have hc3:=HI1.out.c3
    have hc4:=HI1.out.c4
    have hc5:=HI1.out.c5
    have hf4:=HI1.out.f4
    have hf5:=HI1.out.f5
    gi_wp2_with fail
    refine ⟨trivial,?_⟩
    refine (CallsIn.inRound l (callsIn_wide.2 (Hm1.out W1 HB1.out))).mono ?_
    rintro e W2 ⟨rfl,hb⟩
    have HI2:=Lib.hid (HI1.out.below hb)
    have HB2:=Lib.hid (HB1.out.trans (hb.mono HB1.out.size))
    have Hk2:=Lib.hid (Hk1.out.trans (hb.mono Hk1.out.size))
    clear hb hc3 hc4 hc5 hf4 hf5 Hm1 HI1 HB1 Hk1
    have hc3:=HI2.out.c3
    have hc4:=HI2.out.c4
    have hc5:=HI2.out.c5
    have hf4:=HI2.out.f4
    have hf5:=HI2.out.f5
    gi_wp2_with fail
    refine ⟨trivial,?_⟩
    refine (CallsIn.inRound l (callsIn_wide.2 (Hm2.out W2 HB2.out))).mono ?_
    rintro e W3 ⟨rfl,hb⟩
    have HI3:=Lib.hid (HI2.out.below hb)
    have HB3:=Lib.hid (HB2.out.trans (hb.mono HB2.out.size))
    have Hk3:=Lib.hid (Hk2.out.trans (hb.mono Hk2.out.size))
    clear hb hc3 hc4 hc5 hf4 hf5 Hm2 HI2 HB2 Hk2
    have hc3:=HI3.out.c3
    have hc4:=HI3.out.c4
    have hc5:=HI3.out.c5
    have hf4:=HI3.out.f4
    have hf5:=HI3.out.f5
    gi_wp2_with fail
    refine ⟨trivial,?_⟩
    refine (CallsIn.inRound l (callsIn_wide.2 (Hsg.out W3 HB3.out))).mono ?_
    rintro e W4 ⟨rfl,hb⟩
    have HI4:=Lib.hid (HI3.out.below hb)
    have HB4:=Lib.hid (HB3.out.trans (hb.mono HB3.out.size))
    have Hk4:=Lib.hid (Hk3.out.trans (hb.mono Hk3.out.size))
    clear hb hc3 hc4 hc5 hf4 hf5 Hsg HI3 HB3 Hk3
    have hc3:=HI4.out.c3
    have hc4:=HI4.out.c4
    have hc5:=HI4.out.c5
    have hf4:=HI4.out.f4
    have hf5:=HI4.out.f5
    gi_wp2_with fail
    have q0:=@CellW.h
    have q9:Nonempty (CellW ⟨w.heap.size + 1 + 1,0,none⟩ (.string slo)):=⟨⟨W4,HI4.out.c4⟩⟩
    have q8:Nonempty (CellW ⟨w.heap.size + 1 + 1 + 1,0,none⟩ (.string shi)):=⟨⟨W4,HI4.out.c5⟩⟩
    refine wpIn_region_readers2 [(8,0),(1,1),(9,3),(1,4),(0,2),(0,5),(0,6),(0,7)]
     [(6,fun w'=>∃ p:CellW ⟨w.heap.size + 1 + 1,0,none⟩ (.string slo),w'=p.w),(7,fun w'=>∃ p:CellW ⟨w.heap.size + 1 + 1 + 1,0,none⟩ (.string shi),w'=p.w)]
     (by kernel_rfl) (by kernel_rfl) ⟨.inr ⟨⟨{ W4 with drawn:=W4.drawn + 1 },HI4.out.c4⟩,rfl⟩,.inr ⟨⟨{ W4 with drawn:=W4.drawn + 1 },HI4.out.c5⟩,rfl⟩,trivial⟩ ?_
    refine walkR2_read (s:=6) _ (List.mem_cons_self ..) rfl ?_
    simp only [dz_,tsc_,tz_]
    go_big_quiet_step (fail)
    refine wpQuiet_nil ?_
    refine walkR2_any ?_
    simp only [dsc_,dz_,tsc_,tz_]
    go_big_quiet_step (fail)
    refine wpQuiet_nil ?_
    refine walkR2_read (s:=7) _ (List.mem_cons_of_mem _ (List.mem_cons_self ..)) rfl ?_
    simp only [dsc_,dz_,tsc_,tz_]
    go_big_quiet_step (fail)
    refine wpQuiet_nil ?_
    refine walkR2_any ?_
    simp only [dsc_,dz_,tsc_,tz_]
    go_big_quiet_step (fail)
    refine wpQuiet_nil ?_
    clear q0 q8 q9 hc3 hc4 hc5 hf4 hf5
    obtain ⟨V0,hV0⟩:∃ V0:World,{ heap:=W4.heap,tape:=W4.tape,drawn:=W4.drawn + 1,os:=W4.os,output:=W4.output }=V0:=⟨_,rfl⟩
    rw [hV0]
    have hdr:Below W4.heap.size W4 V0:=by rw [← hV0]; exact ⟨rfl,rfl,rfl,Nat.le_refl _,fun _ _=>rfl⟩
    have HJ0:=Lib.hid (HI4.out.below hdr)
    have HC0:=Lib.hid (HB4.out.trans (hdr.mono HB4.out.size))
    have Hl0:=Lib.hid (Hk4.out.trans (hdr.mono Hk4.out.size))
    clear hV0 hdr HI4 HB4 Hk4
    refine walkR2_move ?_
    simp only [dsc_,dz_,tsc_,tz_]
    go_wp2_with fail
    refine Calls.mono (Ha1.out V0 HC0.out) ?_
    rintro e V1 ⟨rfl,hb⟩
    have HJ1:=Lib.hid (HJ0.out.below hb)
    have HC1:=Lib.hid (HC0.out.trans (hb.mono HC0.out.size))
    have Hl1:=Lib.hid (Hl0.out.trans (hb.mono Hl0.out.size))
    clear hb HJ0 HC0 Hl0 Ha1
    go_wp2_with fail
    refine ⟨⟨.inr ⟨⟨V1,HJ1.out.c4⟩,rfl⟩,.inr ⟨⟨V1,HJ1.out.c5⟩,rfl⟩,trivial⟩,?_⟩
    refine walkR2_move ?_
    simp only [dsc_,dz_,tsc_,tz_]
    go_wp2_with fail
    refine Calls.mono (Ha2.out V1 HC1.out) ?_
    rintro e V2 ⟨rfl,hb⟩
    have HJ2:=Lib.hid (HJ1.out.below hb)
    have HC2:=Lib.hid (HC1.out.trans (hb.mono HC1.out.size))
    have Hl2:=Lib.hid (Hl1.out.trans (hb.mono Hl1.out.size))
    clear hb HJ1 HC1 Hl1 Ha2
    go_wp2_with fail
    refine ⟨⟨.inr ⟨⟨V2,HJ2.out.c4⟩,rfl⟩,.inr ⟨⟨V2,HJ2.out.c5⟩,rfl⟩,trivial⟩,?_⟩
    have hc4:=HJ2.out.c4
    have hc5:=HJ2.out.c5
    have hf4:=HJ2.out.f4
    have hf5:=HJ2.out.f5
    refine walkR2_move ?_
    simp only [dsc_,dz_,tsc_,tz_]
    go_wp2_with fail
    have hc52:(V2.setCell ⟨w.heap.size + 1 + 1,0,none⟩ (.string slo2)).cell? ⟨w.heap.size + 1 + 1 + 1,0,none⟩=some (.string shi):=by
     rw [World.cell?_setCell_other _ _ _ _ (by simp)]; exact HJ2.out.c5
    have hf52:(V2.setCell ⟨w.heap.size + 1 + 1,0,none⟩ (.string slo2)).frozen? ⟨w.heap.size + 1 + 1 + 1,0,none⟩=false:=by rw [World.frozen?_setCell]; exact HJ2.out.f5
    refine ⟨⟨.inl rfl,.inr ⟨⟨V2.setCell ⟨w.heap.size + 1 + 1,0,none⟩ (.string slo2),hc52⟩,rfl⟩,trivial⟩,?_⟩
    clear hc4 hc5 hf4 hf5
    refine walkR2_move ?_
    simp only [dsc_,dz_,tsc_,tz_]
    go_wp2_with fail
    refine ⟨⟨.inl rfl,.inl rfl,trivial⟩,?_⟩
    simp only [walkR2]
    exact ⟨(keeps_of_below Hl2.out).trans ((KeepsOthers.setCell _ _ _).trans (KeepsOthers.setCell _ _ _)),ends_kt rfl HB.out HI.out.sz Hl2.out _ _,(HJ2.out.stored _ _).cast Hf1.out Hf2.out,near_below HC2.out _ _⟩
   ·rw [if_neg hk] at e1 e2
    have hs':¬ k.sign < 0:=by omega
    have Ha1:Hid (∀ W,Below w.heap.size w W→Gives Tryz.prog 104 #[.string (itx (LN.eLo (lf n) (pre.map Subtype.val))),.string (itx ((lf n 2:Int) * k))] W (.string (itx ((LN.eLo (lf n) (pre.map Subtype.val)) + (lf n 2:Int) * k)))):=fun W hW=>addZ W _ _ F hF s1 t1 (HLL.out W hW)
    have Ha2:Hid (∀ W,Below w.heap.size w W→Gives Tryz.prog 104 #[.string (itx (LN.eHi (lf n) (pre.map Subtype.val))),.string (itx ((lf n 2:Int) * k))] W (.string (itx ((LN.eHi (lf n) (pre.map Subtype.val)) + (lf n 2:Int) * k)))):=fun W hW=>addZ W _ _ F hF s2 t2 (HLL.out W hW)
    generalize k.sign=sg at *
    rw [← e1] at Ha1
    rw [← e2] at Ha2
    clear e1 e2 s1 s2 t1 t2 HLL hlen hpl hF
    obtain ⟨slo2,hq1⟩:∃ s,itx (LN.eLo (lf n) ((pre ++ [(⟨(2,k),hmem⟩:{x // x∈tl})]).map Subtype.val))=s:=⟨_,rfl⟩
    obtain ⟨shi2,hq2⟩:∃ s,itx (LN.eHi (lf n) ((pre ++ [(⟨(2,k),hmem⟩:{x // x∈tl})]).map Subtype.val))=s:=⟨_,rfl⟩
    rw [hq1] at Ha1
    rw [hq2] at Ha2
    have Hf1:=Lib.hid hq1
    have Hf2:=Lib.hid hq2
    clear hq1 hq2
    generalize itx (LN.eLo (lf n) (pre.map Subtype.val))=slo at *
    generalize itx (LN.eHi (lf n) (pre.map Subtype.val))=shi at *
    generalize itx k=sk at *
    generalize itx ((lf n 2:Int) * k)=sa at *
    generalize dec (lf n 2)=sL at *
    clear Had
    gi_wp2_with fail
    refine ⟨trivial,?_⟩
    refine (CallsIn.inRound l (callsIn_wide.2 (Hlog.out W0 HB0.out))).mono ?_
    rintro e W1 ⟨rfl,hb⟩
    have HI1:=Lib.hid (HI0.out.below hb)
    have HB1:=Lib.hid (HB0.out.trans (hb.mono HB0.out.size))
    have Hk1:=Lib.hid (Hk0.out.trans (hb.mono Hk0.out.size))
    clear hb hc3 hc4 hc5 hf4 hf5 Hlog HI0 HB0 Hk0
    have hc3:=HI1.out.c3
    have hc4:=HI1.out.c4
    have hc5:=HI1.out.c5
    have hf4:=HI1.out.f4
    have hf5:=HI1.out.f5
    gi_wp2_with fail
    refine ⟨trivial,?_⟩
    refine (CallsIn.inRound l (callsIn_wide.2 (Hm1.out W1 HB1.out))).mono ?_
    rintro e W2 ⟨rfl,hb⟩
    have HI2:=Lib.hid (HI1.out.below hb)
    have HB2:=Lib.hid (HB1.out.trans (hb.mono HB1.out.size))
    have Hk2:=Lib.hid (Hk1.out.trans (hb.mono Hk1.out.size))
    clear hb hc3 hc4 hc5 hf4 hf5 Hm1 HI1 HB1 Hk1
    have hc3:=HI2.out.c3
    have hc4:=HI2.out.c4
    have hc5:=HI2.out.c5
    have hf4:=HI2.out.f4
    have hf5:=HI2.out.f5
    gi_wp2_with fail
    refine ⟨trivial,?_⟩
    refine (CallsIn.inRound l (callsIn_wide.2 (Hm2.out W2 HB2.out))).mono ?_
    rintro e W3 ⟨rfl,hb⟩
    have HI3:=Lib.hid (HI2.out.below hb)
    have HB3:=Lib.hid (HB2.out.trans (hb.mono HB2.out.size))
    have Hk3:=Lib.hid (Hk2.out.trans (hb.mono Hk2.out.size))
    clear hb hc3 hc4 hc5 hf4 hf5 Hm2 HI2 HB2 Hk2
    have hc3:=HI3.out.c3
    have hc4:=HI3.out.c4
    have hc5:=HI3.out.c5
    have hf4:=HI3.out.f4
    have hf5:=HI3.out.f5
    gi_wp2_with fail
    refine ⟨trivial,?_⟩
    refine (CallsIn.inRound l (callsIn_wide.2 (Hsg.out W3 HB3.out))).mono ?_
    rintro e W4 ⟨rfl,hb⟩
    have HI4:=Lib.hid (HI3.out.below hb)
    have HB4:=Lib.hid (HB3.out.trans (hb.mono HB3.out.size))
    have Hk4:=Lib.hid (Hk3.out.trans (hb.mono Hk3.out.size))
    clear hb hc3 hc4 hc5 hf4 hf5 Hsg HI3 HB3 Hk3
    have hc3:=HI4.out.c3
    have hc4:=HI4.out.c4
    have hc5:=HI4.out.c5
    have hf4:=HI4.out.f4
    have hf5:=HI4.out.f5
    gi_wp2_with fail
    have q0:=@CellW.h
    have q9:Nonempty (CellW ⟨w.heap.size + 1 + 1,0,none⟩ (.string slo)):=⟨⟨W4,HI4.out.c4⟩⟩
    have q8:Nonempty (CellW ⟨w.heap.size + 1 + 1 + 1,0,none⟩ (.string shi)):=⟨⟨W4,HI4.out.c5⟩⟩
    refine wpIn_region_readers2 [(8,0),(1,1),(9,3),(1,4),(0,2),(0,5),(0,6),(0,7)]
     [(6,fun w'=>∃ p:CellW ⟨w.heap.size + 1 + 1,0,none⟩ (.string slo),w'=p.w),(7,fun w'=>∃ p:CellW ⟨w.heap.size + 1 + 1 + 1,0,none⟩ (.string shi),w'=p.w)]
     (by kernel_rfl) (by kernel_rfl) ⟨.inr ⟨⟨{ W4 with drawn:=W4.drawn + 1 },HI4.out.c4⟩,rfl⟩,.inr ⟨⟨{ W4 with drawn:=W4.drawn + 1 },HI4.out.c5⟩,rfl⟩,trivial⟩ ?_
    refine walkR2_read (s:=6) _ (List.mem_cons_self ..) rfl ?_
    simp only [dz_,tsc_,tz_]
    go_big_quiet_step (fail)
    refine wpQuiet_nil ?_
    refine walkR2_any ?_
    simp only [dsc_,dz_,tsc_,tz_]
    go_big_quiet_step (fail)
    refine wpQuiet_nil ?_
    refine walkR2_read (s:=7) _ (List.mem_cons_of_mem _ (List.mem_cons_self ..)) rfl ?_
    simp only [dsc_,dz_,tsc_,tz_]
    go_big_quiet_step (fail)
    refine wpQuiet_nil ?_
    refine walkR2_any ?_
    simp only [dsc_,dz_,tsc_,tz_]
    go_big_quiet_step (fail)
    refine wpQuiet_nil ?_
    clear q0 q8 q9 hc3 hc4 hc5 hf4 hf5
    obtain ⟨V0,hV0⟩:∃ V0:World,{ heap:=W4.heap,tape:=W4.tape,drawn:=W4.drawn + 1,os:=W4.os,output:=W4.output }=V0:=⟨_,rfl⟩
    rw [hV0]
    have hdr:Below W4.heap.size W4 V0:=by rw [← hV0]; exact ⟨rfl,rfl,rfl,Nat.le_refl _,fun _ _=>rfl⟩
    have HJ0:=Lib.hid (HI4.out.below hdr)
    have HC0:=Lib.hid (HB4.out.trans (hdr.mono HB4.out.size))
    have Hl0:=Lib.hid (Hk4.out.trans (hdr.mono Hk4.out.size))
    clear hV0 hdr HI4 HB4 Hk4
    refine walkR2_move ?_
    simp only [dsc_,dz_,tsc_,tz_]
    go_wp2_with fail
    refine Calls.mono (Ha1.out V0 HC0.out) ?_
    rintro e V1 ⟨rfl,hb⟩
    have HJ1:=Lib.hid (HJ0.out.below hb)
    have HC1:=Lib.hid (HC0.out.trans (hb.mono HC0.out.size))
    have Hl1:=Lib.hid (Hl0.out.trans (hb.mono Hl0.out.size))
    clear hb HJ0 HC0 Hl0 Ha1
    go_wp2_with fail
    refine ⟨⟨.inr ⟨⟨V1,HJ1.out.c4⟩,rfl⟩,.inr ⟨⟨V1,HJ1.out.c5⟩,rfl⟩,trivial⟩,?_⟩
    refine walkR2_move ?_
    simp only [dsc_,dz_,tsc_,tz_]
    go_wp2_with fail
    refine Calls.mono (Ha2.out V1 HC1.out) ?_
    rintro e V2 ⟨rfl,hb⟩
    have HJ2:=Lib.hid (HJ1.out.below hb)
    have HC2:=Lib.hid (HC1.out.trans (hb.mono HC1.out.size))
    have Hl2:=Lib.hid (Hl1.out.trans (hb.mono Hl1.out.size))
    clear hb HJ1 HC1 Hl1 Ha2
    go_wp2_with fail
    refine ⟨⟨.inr ⟨⟨V2,HJ2.out.c4⟩,rfl⟩,.inr ⟨⟨V2,HJ2.out.c5⟩,rfl⟩,trivial⟩,?_⟩
    have hc4:=HJ2.out.c4
    have hc5:=HJ2.out.c5
    have hf4:=HJ2.out.f4
    have hf5:=HJ2.out.f5
    refine walkR2_move ?_
    simp only [dsc_,dz_,tsc_,tz_]
    go_wp2_with fail
    have hc52:(V2.setCell ⟨w.heap.size + 1 + 1,0,none⟩ (.string slo2)).cell? ⟨w.heap.size + 1 + 1 + 1,0,none⟩=some (.string shi):=by
     rw [World.cell?_setCell_other _ _ _ _ (by simp)]; exact HJ2.out.c5
    have hf52:(V2.setCell ⟨w.heap.size + 1 + 1,0,none⟩ (.string slo2)).frozen? ⟨w.heap.size + 1 + 1 + 1,0,none⟩=false:=by rw [World.frozen?_setCell]; exact HJ2.out.f5
    refine ⟨⟨.inl rfl,.inr ⟨⟨V2.setCell ⟨w.heap.size + 1 + 1,0,none⟩ (.string slo2),hc52⟩,rfl⟩,trivial⟩,?_⟩
    clear hc4 hc5 hf4 hf5
    refine walkR2_move ?_
    simp only [dsc_,dz_,tsc_,tz_]
    go_wp2_with fail
    refine ⟨⟨.inl rfl,.inl rfl,trivial⟩,?_⟩
    simp only [walkR2]
    exact ⟨(keeps_of_below Hl2.out).trans ((KeepsOthers.setCell _ _ _).trans (KeepsOthers.setCell _ _ _)),ends_kt rfl HB.out HI.out.sz Hl2.out _ _,(HJ2.out.stored _ _).cast Hf1.out Hf2.out,near_below HC2.out _ _⟩
  ·have hH:LN.hiL (lf n) p=lf n p + 1:=by unfold LN.hiL; rw [if_neg hp2]
   rw [hH] at Hm2 e1 e2 t2
   have hp2':(p == 2)=false:=by rw [beq_eq_false_iff_ne]; exact hp2
   clear hH
   rcases hw2 with ⟨hs,hk⟩ | ⟨hs1,hs2,hk⟩
   ·rw [if_pos hk] at e1 e2
    rw [hs] at Hsg
    clear hs
    have Ha1:Hid (∀ W,Below w.heap.size w W→Gives Tryz.prog 104 #[.string (itx (LN.eLo (lf n) (pre.map Subtype.val))),.string (itx (((lf n p + 1:Nat):Int) * k))] W (.string (itx ((LN.eLo (lf n) (pre.map Subtype.val)) + ((lf n p + 1:Nat):Int) * k)))):=fun W hW=>addZ W _ _ F hF s1 t2 (HLL.out W hW)
    have Ha2:Hid (∀ W,Below w.heap.size w W→Gives Tryz.prog 104 #[.string (itx (LN.eHi (lf n) (pre.map Subtype.val))),.string (itx ((lf n p:Int) * k))] W (.string (itx ((LN.eHi (lf n) (pre.map Subtype.val)) + (lf n p:Int) * k)))):=fun W hW=>addZ W _ _ F hF s2 t1 (HLL.out W hW)
    rw [← e1] at Ha1
    rw [← e2] at Ha2
    clear e1 e2 s1 s2 t1 t2 HLL hlen hpl hF
    obtain ⟨slo2,hq1⟩:∃ s,itx (LN.eLo (lf n) ((pre ++ [(⟨(p,k),hmem⟩:{x // x∈tl})]).map Subtype.val))=s:=⟨_,rfl⟩
    obtain ⟨shi2,hq2⟩:∃ s,itx (LN.eHi (lf n) ((pre ++ [(⟨(p,k),hmem⟩:{x // x∈tl})]).map Subtype.val))=s:=⟨_,rfl⟩
    rw [hq1] at Ha1
    rw [hq2] at Ha2
    have Hf1:=Lib.hid hq1
    have Hf2:=Lib.hid hq2
    clear hq1 hq2
    generalize itx (LN.eLo (lf n) (pre.map Subtype.val))=slo at *
    generalize itx (LN.eHi (lf n) (pre.map Subtype.val))=shi at *
    generalize itx k=sk at *
    generalize itx ((lf n p:Int) * k)=sa at *
    generalize itx (((lf n p + 1:Nat):Int) * k)=sb at *
    generalize dec (lf n p + 1)=sH at *
    generalize dec (lf n p)=sL at *
    gi_wp2_with fail
    refine ⟨trivial,?_⟩
    refine (CallsIn.inRound l (callsIn_wide.2 (Hlog.out W0 HB0.out))).mono ?_
    rintro e W1 ⟨rfl,hb⟩
    have HI1:=Lib.hid (HI0.out.below hb)
    have HB1:=Lib.hid (HB0.out.trans (hb.mono HB0.out.size))
    have Hk1:=Lib.hid (Hk0.out.trans (hb.mono Hk0.out.size))
    clear hb hc3 hc4 hc5 hf4 hf5 Hlog HI0 HB0 Hk0
    have hc3:=HI1.out.c3
    have hc4:=HI1.out.c4
    have hc5:=HI1.out.c5
    have hf4:=HI1.out.f4
    have hf5:=HI1.out.f5
    gi_wp2_with fail
    refine ⟨trivial,?_⟩
    refine (CallsIn.inRound l (callsIn_wide.2 (Had.out W1 HB1.out))).mono ?_
    rintro e W2 ⟨rfl,hb⟩
    have HI2:=Lib.hid (HI1.out.below hb)
    have HB2:=Lib.hid (HB1.out.trans (hb.mono HB1.out.size))
    have Hk2:=Lib.hid (Hk1.out.trans (hb.mono Hk1.out.size))
    clear hb hc3 hc4 hc5 hf4 hf5 Had HI1 HB1 Hk1
    have hc3:=HI2.out.c3
    have hc4:=HI2.out.c4
    have hc5:=HI2.out.c5
    have hf4:=HI2.out.f4
    have hf5:=HI2.out.f5
    gi_wp2_with fail
    refine ⟨trivial,?_⟩
    refine (CallsIn.inRound l (callsIn_wide.2 (Hm1.out W2 HB2.out))).mono ?_
    rintro e W3 ⟨rfl,hb⟩
    have HI3:=Lib.hid (HI2.out.below hb)
    have HB3:=Lib.hid (HB2.out.trans (hb.mono HB2.out.size))
    have Hk3:=Lib.hid (Hk2.out.trans (hb.mono Hk2.out.size))
    clear hb hc3 hc4 hc5 hf4 hf5 Hm1 HI2 HB2 Hk2
    have hc3:=HI3.out.c3
    have hc4:=HI3.out.c4
    have hc5:=HI3.out.c5
    have hf4:=HI3.out.f4
    have hf5:=HI3.out.f5
    gi_wp2_with fail
    refine ⟨trivial,?_⟩
    refine (CallsIn.inRound l (callsIn_wide.2 (Hm2.out W3 HB3.out))).mono ?_
    rintro e W4 ⟨rfl,hb⟩
    have HI4:=Lib.hid (HI3.out.below hb)
    have HB4:=Lib.hid (HB3.out.trans (hb.mono HB3.out.size))
    have Hk4:=Lib.hid (Hk3.out.trans (hb.mono Hk3.out.size))
    clear hb hc3 hc4 hc5 hf4 hf5 Hm2 HI3 HB3 Hk3
    have hc3:=HI4.out.c3
    have hc4:=HI4.out.c4
    have hc5:=HI4.out.c5
    have hf4:=HI4.out.f4
    have hf5:=HI4.out.f5
    gi_wp2_with fail
    refine ⟨trivial,?_⟩
    refine (CallsIn.inRound l (callsIn_wide.2 (Hsg.out W4 HB4.out))).mono ?_
    rintro e W5 ⟨rfl,hb⟩
    have HI5:=Lib.hid (HI4.out.below hb)
    have HB5:=Lib.hid (HB4.out.trans (hb.mono HB4.out.size))
    have Hk5:=Lib.hid (Hk4.out.trans (hb.mono Hk4.out.size))
    clear hb hc3 hc4 hc5 hf4 hf5 Hsg HI4 HB4 Hk4
    have hc3:=HI5.out.c3
    have hc4:=HI5.out.c4
    have hc5:=HI5.out.c5
    have hf4:=HI5.out.f4
    have hf5:=HI5.out.f5
    gi_wp2_with fail
    have q0:=@CellW.h
    have q9:Nonempty (CellW ⟨w.heap.size + 1 + 1,0,none⟩ (.string slo)):=⟨⟨W5,HI5.out.c4⟩⟩
    have q8:Nonempty (CellW ⟨w.heap.size + 1 + 1 + 1,0,none⟩ (.string shi)):=⟨⟨W5,HI5.out.c5⟩⟩
    refine wpIn_region_readers2 [(8,0),(1,1),(9,3),(1,4),(0,2),(0,5),(0,6),(0,7)]
     [(6,fun w'=>∃ p:CellW ⟨w.heap.size + 1 + 1,0,none⟩ (.string slo),w'=p.w),(7,fun w'=>∃ p:CellW ⟨w.heap.size + 1 + 1 + 1,0,none⟩ (.string shi),w'=p.w)]
     (by kernel_rfl) (by kernel_rfl) ⟨.inr ⟨⟨{ W5 with drawn:=W5.drawn + 1 },HI5.out.c4⟩,rfl⟩,.inr ⟨⟨{ W5 with drawn:=W5.drawn + 1 },HI5.out.c5⟩,rfl⟩,trivial⟩ ?_
    refine walkR2_read (s:=6) _ (List.mem_cons_self ..) rfl ?_
    simp only [dz_,tsc_,tz_]
    go_big_quiet_step (fail)
    refine wpQuiet_nil ?_
    refine walkR2_any ?_
    simp only [dsc_,dz_,tsc_,tz_]
    go_big_quiet_step (fail)
    refine wpQuiet_nil ?_
    refine walkR2_read (s:=7) _ (List.mem_cons_of_mem _ (List.mem_cons_self ..)) rfl ?_
    simp only [dsc_,dz_,tsc_,tz_]
    go_big_quiet_step (fail)
    refine wpQuiet_nil ?_
    refine walkR2_any ?_
    simp only [dsc_,dz_,tsc_,tz_]
    go_big_quiet_step (fail)
    refine wpQuiet_nil ?_
    clear q0 q8 q9 hc3 hc4 hc5 hf4 hf5
    obtain ⟨V0,hV0⟩:∃ V0:World,{ heap:=W5.heap,tape:=W5.tape,drawn:=W5.drawn + 1,os:=W5.os,output:=W5.output }=V0:=⟨_,rfl⟩
    rw [hV0]
    have hdr:Below W5.heap.size W5 V0:=by rw [← hV0]; exact ⟨rfl,rfl,rfl,Nat.le_refl _,fun _ _=>rfl⟩
    have HJ0:=Lib.hid (HI5.out.below hdr)
    have HC0:=Lib.hid (HB5.out.trans (hdr.mono HB5.out.size))
    have Hl0:=Lib.hid (Hk5.out.trans (hdr.mono Hk5.out.size))
    clear hV0 hdr HI5 HB5 Hk5
    refine walkR2_move ?_
    simp only [dsc_,dz_,tsc_,tz_]
    go_wp2_with fail
    refine Calls.mono (Ha1.out V0 HC0.out) ?_
    rintro e V1 ⟨rfl,hb⟩
    have HJ1:=Lib.hid (HJ0.out.below hb)
    have HC1:=Lib.hid (HC0.out.trans (hb.mono HC0.out.size))
    have Hl1:=Lib.hid (Hl0.out.trans (hb.mono Hl0.out.size))
    clear hb HJ0 HC0 Hl0 Ha1
    go_wp2_with fail
    refine ⟨⟨.inr ⟨⟨V1,HJ1.out.c4⟩,rfl⟩,.inr ⟨⟨V1,HJ1.out.c5⟩,rfl⟩,trivial⟩,?_⟩
    refine walkR2_move ?_
    simp only [dsc_,dz_,tsc_,tz_]
    go_wp2_with fail
    refine Calls.mono (Ha2.out V1 HC1.out) ?_
    rintro e V2 ⟨rfl,hb⟩
    have HJ2:=Lib.hid (HJ1.out.below hb)
    have HC2:=Lib.hid (HC1.out.trans (hb.mono HC1.out.size))
    have Hl2:=Lib.hid (Hl1.out.trans (hb.mono Hl1.out.size))
    clear hb HJ1 HC1 Hl1 Ha2
    go_wp2_with fail
    refine ⟨⟨.inr ⟨⟨V2,HJ2.out.c4⟩,rfl⟩,.inr ⟨⟨V2,HJ2.out.c5⟩,rfl⟩,trivial⟩,?_⟩
    have hc4:=HJ2.out.c4
    have hc5:=HJ2.out.c5
    have hf4:=HJ2.out.f4
    have hf5:=HJ2.out.f5
    refine walkR2_move ?_
    simp only [dsc_,dz_,tsc_,tz_]
    go_wp2_with fail
    have hc52:(V2.setCell ⟨w.heap.size + 1 + 1,0,none⟩ (.string slo2)).cell? ⟨w.heap.size + 1 + 1 + 1,0,none⟩=some (.string shi):=by
     rw [World.cell?_setCell_other _ _ _ _ (by simp)]; exact HJ2.out.c5
    have hf52:(V2.setCell ⟨w.heap.size + 1 + 1,0,none⟩ (.string slo2)).frozen? ⟨w.heap.size + 1 + 1 + 1,0,none⟩=false:=by rw [World.frozen?_setCell]; exact HJ2.out.f5
    refine ⟨⟨.inl rfl,.inr ⟨⟨V2.setCell ⟨w.heap.size + 1 + 1,0,none⟩ (.string slo2),hc52⟩,rfl⟩,trivial⟩,?_⟩
    clear hc4 hc5 hf4 hf5
    refine walkR2_move ?_
    simp only [dsc_,dz_,tsc_,tz_]
    go_wp2_with fail
    refine ⟨⟨.inl rfl,.inl rfl,trivial⟩,?_⟩
    simp only [walkR2]
    exact ⟨(keeps_of_below Hl2.out).trans ((KeepsOthers.setCell _ _ _).trans (KeepsOthers.setCell _ _ _)),ends_kt rfl HB.out HI.out.sz Hl2.out _ _,(HJ2.out.stored _ _).cast Hf1.out Hf2.out,near_below HC2.out _ _⟩
   ·rw [if_neg hk] at e1 e2
    have hs':¬ k.sign < 0:=by omega
    have Ha1:Hid (∀ W,Below w.heap.size w W→Gives Tryz.prog 104 #[.string (itx (LN.eLo (lf n) (pre.map Subtype.val))),.string (itx ((lf n p:Int) * k))] W (.string (itx ((LN.eLo (lf n) (pre.map Subtype.val)) + (lf n p:Int) * k)))):=fun W hW=>addZ W _ _ F hF s1 t1 (HLL.out W hW)
    have Ha2:Hid (∀ W,Below w.heap.size w W→Gives Tryz.prog 104 #[.string (itx (LN.eHi (lf n) (pre.map Subtype.val))),.string (itx (((lf n p + 1:Nat):Int) * k))] W (.string (itx ((LN.eHi (lf n) (pre.map Subtype.val)) + ((lf n p + 1:Nat):Int) * k)))):=fun W hW=>addZ W _ _ F hF s2 t2 (HLL.out W hW)
    generalize k.sign=sg at *
    rw [← e1] at Ha1
    rw [← e2] at Ha2
    clear e1 e2 s1 s2 t1 t2 HLL hlen hpl hF
    obtain ⟨slo2,hq1⟩:∃ s,itx (LN.eLo (lf n) ((pre ++ [(⟨(p,k),hmem⟩:{x // x∈tl})]).map Subtype.val))=s:=⟨_,rfl⟩
    obtain ⟨shi2,hq2⟩:∃ s,itx (LN.eHi (lf n) ((pre ++ [(⟨(p,k),hmem⟩:{x // x∈tl})]).map Subtype.val))=s:=⟨_,rfl⟩
    rw [hq1] at Ha1
    rw [hq2] at Ha2
    have Hf1:=Lib.hid hq1
    have Hf2:=Lib.hid hq2
    clear hq1 hq2
    generalize itx (LN.eLo (lf n) (pre.map Subtype.val))=slo at *
    generalize itx (LN.eHi (lf n) (pre.map Subtype.val))=shi at *
    generalize itx k=sk at *
    generalize itx ((lf n p:Int) * k)=sa at *
    generalize itx (((lf n p + 1:Nat):Int) * k)=sb at *
    generalize dec (lf n p + 1)=sH at *
    generalize dec (lf n p)=sL at *
    gi_wp2_with fail
    refine ⟨trivial,?_⟩
    refine (CallsIn.inRound l (callsIn_wide.2 (Hlog.out W0 HB0.out))).mono ?_
    rintro e W1 ⟨rfl,hb⟩
    have HI1:=Lib.hid (HI0.out.below hb)
    have HB1:=Lib.hid (HB0.out.trans (hb.mono HB0.out.size))
    have Hk1:=Lib.hid (Hk0.out.trans (hb.mono Hk0.out.size))
    clear hb hc3 hc4 hc5 hf4 hf5 Hlog HI0 HB0 Hk0
    have hc3:=HI1.out.c3
    have hc4:=HI1.out.c4
    have hc5:=HI1.out.c5
    have hf4:=HI1.out.f4
    have hf5:=HI1.out.f5
    gi_wp2_with fail
    refine ⟨trivial,?_⟩
    refine (CallsIn.inRound l (callsIn_wide.2 (Had.out W1 HB1.out))).mono ?_
    rintro e W2 ⟨rfl,hb⟩
    have HI2:=Lib.hid (HI1.out.below hb)
    have HB2:=Lib.hid (HB1.out.trans (hb.mono HB1.out.size))
    have Hk2:=Lib.hid (Hk1.out.trans (hb.mono Hk1.out.size))
    clear hb hc3 hc4 hc5 hf4 hf5 Had HI1 HB1 Hk1
    have hc3:=HI2.out.c3
    have hc4:=HI2.out.c4
    have hc5:=HI2.out.c5
    have hf4:=HI2.out.f4
    have hf5:=HI2.out.f5
    gi_wp2_with fail
    refine ⟨trivial,?_⟩
    refine (CallsIn.inRound l (callsIn_wide.2 (Hm1.out W2 HB2.out))).mono ?_
    rintro e W3 ⟨rfl,hb⟩
    have HI3:=Lib.hid (HI2.out.below hb)
    have HB3:=Lib.hid (HB2.out.trans (hb.mono HB2.out.size))
    have Hk3:=Lib.hid (Hk2.out.trans (hb.mono Hk2.out.size))
    clear hb hc3 hc4 hc5 hf4 hf5 Hm1 HI2 HB2 Hk2
    have hc3:=HI3.out.c3
    have hc4:=HI3.out.c4
    have hc5:=HI3.out.c5
    have hf4:=HI3.out.f4
    have hf5:=HI3.out.f5
    gi_wp2_with fail
    refine ⟨trivial,?_⟩
    refine (CallsIn.inRound l (callsIn_wide.2 (Hm2.out W3 HB3.out))).mono ?_
    rintro e W4 ⟨rfl,hb⟩
    have HI4:=Lib.hid (HI3.out.below hb)
    have HB4:=Lib.hid (HB3.out.trans (hb.mono HB3.out.size))
    have Hk4:=Lib.hid (Hk3.out.trans (hb.mono Hk3.out.size))
    clear hb hc3 hc4 hc5 hf4 hf5 Hm2 HI3 HB3 Hk3
    have hc3:=HI4.out.c3
    have hc4:=HI4.out.c4
    have hc5:=HI4.out.c5
    have hf4:=HI4.out.f4
    have hf5:=HI4.out.f5
    gi_wp2_with fail
    refine ⟨trivial,?_⟩
    refine (CallsIn.inRound l (callsIn_wide.2 (Hsg.out W4 HB4.out))).mono ?_
    rintro e W5 ⟨rfl,hb⟩
    have HI5:=Lib.hid (HI4.out.below hb)
    have HB5:=Lib.hid (HB4.out.trans (hb.mono HB4.out.size))
    have Hk5:=Lib.hid (Hk4.out.trans (hb.mono Hk4.out.size))
    clear hb hc3 hc4 hc5 hf4 hf5 Hsg HI4 HB4 Hk4
    have hc3:=HI5.out.c3
    have hc4:=HI5.out.c4
    have hc5:=HI5.out.c5
    have hf4:=HI5.out.f4
    have hf5:=HI5.out.f5
    gi_wp2_with fail
    have q0:=@CellW.h
    have q9:Nonempty (CellW ⟨w.heap.size + 1 + 1,0,none⟩ (.string slo)):=⟨⟨W5,HI5.out.c4⟩⟩
    have q8:Nonempty (CellW ⟨w.heap.size + 1 + 1 + 1,0,none⟩ (.string shi)):=⟨⟨W5,HI5.out.c5⟩⟩
    refine wpIn_region_readers2 [(8,0),(1,1),(9,3),(1,4),(0,2),(0,5),(0,6),(0,7)]
     [(6,fun w'=>∃ p:CellW ⟨w.heap.size + 1 + 1,0,none⟩ (.string slo),w'=p.w),(7,fun w'=>∃ p:CellW ⟨w.heap.size + 1 + 1 + 1,0,none⟩ (.string shi),w'=p.w)]
     (by kernel_rfl) (by kernel_rfl) ⟨.inr ⟨⟨{ W5 with drawn:=W5.drawn + 1 },HI5.out.c4⟩,rfl⟩,.inr ⟨⟨{ W5 with drawn:=W5.drawn + 1 },HI5.out.c5⟩,rfl⟩,trivial⟩ ?_
    refine walkR2_read (s:=6) _ (List.mem_cons_self ..) rfl ?_
    simp only [dz_,tsc_,tz_]
    go_big_quiet_step (fail)
    refine wpQuiet_nil ?_
    refine walkR2_any ?_
    simp only [dsc_,dz_,tsc_,tz_]
    go_big_quiet_step (fail)
    refine wpQuiet_nil ?_
    refine walkR2_read (s:=7) _ (List.mem_cons_of_mem _ (List.mem_cons_self ..)) rfl ?_
    simp only [dsc_,dz_,tsc_,tz_]
    go_big_quiet_step (fail)
    refine wpQuiet_nil ?_
    refine walkR2_any ?_
    simp only [dsc_,dz_,tsc_,tz_]
    go_big_quiet_step (fail)
    refine wpQuiet_nil ?_
    clear q0 q8 q9 hc3 hc4 hc5 hf4 hf5
    obtain ⟨V0,hV0⟩:∃ V0:World,{ heap:=W5.heap,tape:=W5.tape,drawn:=W5.drawn + 1,os:=W5.os,output:=W5.output }=V0:=⟨_,rfl⟩
    rw [hV0]
    have hdr:Below W5.heap.size W5 V0:=by rw [← hV0]; exact ⟨rfl,rfl,rfl,Nat.le_refl _,fun _ _=>rfl⟩
    have HJ0:=Lib.hid (HI5.out.below hdr)
    have HC0:=Lib.hid (HB5.out.trans (hdr.mono HB5.out.size))
    have Hl0:=Lib.hid (Hk5.out.trans (hdr.mono Hk5.out.size))
    clear hV0 hdr HI5 HB5 Hk5
    refine walkR2_move ?_
    simp only [dsc_,dz_,tsc_,tz_]
    go_wp2_with fail
    refine Calls.mono (Ha1.out V0 HC0.out) ?_
    rintro e V1 ⟨rfl,hb⟩
    have HJ1:=Lib.hid (HJ0.out.below hb)
    have HC1:=Lib.hid (HC0.out.trans (hb.mono HC0.out.size))
    have Hl1:=Lib.hid (Hl0.out.trans (hb.mono Hl0.out.size))
    clear hb HJ0 HC0 Hl0 Ha1
    go_wp2_with fail
    refine ⟨⟨.inr ⟨⟨V1,HJ1.out.c4⟩,rfl⟩,.inr ⟨⟨V1,HJ1.out.c5⟩,rfl⟩,trivial⟩,?_⟩
    refine walkR2_move ?_
    simp only [dsc_,dz_,tsc_,tz_]
    go_wp2_with fail
    refine Calls.mono (Ha2.out V1 HC1.out) ?_
    rintro e V2 ⟨rfl,hb⟩
    have HJ2:=Lib.hid (HJ1.out.below hb)
    have HC2:=Lib.hid (HC1.out.trans (hb.mono HC1.out.size))
    have Hl2:=Lib.hid (Hl1.out.trans (hb.mono Hl1.out.size))
    clear hb HJ1 HC1 Hl1 Ha2
    go_wp2_with fail
    refine ⟨⟨.inr ⟨⟨V2,HJ2.out.c4⟩,rfl⟩,.inr ⟨⟨V2,HJ2.out.c5⟩,rfl⟩,trivial⟩,?_⟩
    have hc4:=HJ2.out.c4
    have hc5:=HJ2.out.c5
    have hf4:=HJ2.out.f4
    have hf5:=HJ2.out.f5
    refine walkR2_move ?_
    simp only [dsc_,dz_,tsc_,tz_]
    go_wp2_with fail
    have hc52:(V2.setCell ⟨w.heap.size + 1 + 1,0,none⟩ (.string slo2)).cell? ⟨w.heap.size + 1 + 1 + 1,0,none⟩=some (.string shi):=by
     rw [World.cell?_setCell_other _ _ _ _ (by simp)]; exact HJ2.out.c5
    have hf52:(V2.setCell ⟨w.heap.size + 1 + 1,0,none⟩ (.string slo2)).frozen? ⟨w.heap.size + 1 + 1 + 1,0,none⟩=false:=by rw [World.frozen?_setCell]; exact HJ2.out.f5
    refine ⟨⟨.inl rfl,.inr ⟨⟨V2.setCell ⟨w.heap.size + 1 + 1,0,none⟩ (.string slo2),hc52⟩,rfl⟩,trivial⟩,?_⟩
    clear hc4 hc5 hf4 hf5
    refine walkR2_move ?_
    simp only [dsc_,dz_,tsc_,tz_]
    go_wp2_with fail
    refine ⟨⟨.inl rfl,.inl rfl,trivial⟩,?_⟩
    simp only [walkR2]
    exact ⟨(keeps_of_below Hl2.out).trans ((KeepsOthers.setCell _ _ _).trans (KeepsOthers.setCell _ _ _)),ends_kt rfl HB.out HI.out.sz Hl2.out _ _,(HJ2.out.stored _ _).cast Hf1.out Hf2.out,near_below HC2.out _ _⟩
 case done =>
  rintro D' ys W hD rfl ⟨hI,hB⟩ hK
  rw [List.attach_map_subtype_val] at hI
  have HI:=Lib.hid hI
  have HB:=Lib.hid hB
  have HK:=Lib.hid hK
  clear hI hB hK hr1 hr2 hI1 hB1 hB5
  have Hv:Hid (∀ s t,itx (LN.eLo (lf n) tl)=s→itx (LN.eHi (lf n) tl)=t→Ending.returned (.tuple #[.string s,.string t])=Ending.returned (.tuple #[.string (itx (LN.eLo (lf n) tl)),.string (itx (LN.eHi (lf n) tl))])):=by
   intro s t h1 h2
   rw [h1,h2]
  obtain ⟨lo,hlo⟩:∃ s,itx (LN.eLo (lf n) tl)=s:=⟨_,rfl⟩
  obtain ⟨hi,hhi⟩:∃ s,itx (LN.eHi (lf n) tl)=s:=⟨_,rfl⟩
  have Hr:=Lib.hid (Hv.out lo hi hlo hhi)
  rw [hlo,hhi] at HI
  clear Hv hlo hhi
  have hc4:=HI.out.c4
  have hc5:=HI.out.c5
  have hf4:=HI.out.f4
  have hf5:=HI.out.f5
  gi_wp2_with fail
  gi_region
  gi_wp2
  clear hc4 hc5 hf4 hf5
  have e4:((W.setCell { block:=w.heap.size + 1 + 1,off:=0 } (Value.string lo)).setCell { block:=w.heap.size + 1 + 1 + 1,off:=0 } (Value.string hi)).drew.cell? ⟨w.heap.size + 1 + 1,0,none⟩=some (.string lo):=by
   show World.cell? ((W.setCell { block:=w.heap.size + 1 + 1,off:=0 } (Value.string lo)).setCell { block:=w.heap.size + 1 + 1 + 1,off:=0 } (Value.string hi)) _=_
   rw [World.cell?_setCell_other _ _ _ _ (by simp),World.cell?_setCell_same _ _ _ HI.out.c4]
  have e5:((W.setCell { block:=w.heap.size + 1 + 1,off:=0 } (Value.string lo)).setCell { block:=w.heap.size + 1 + 1 + 1,off:=0 } (Value.string hi)).drew.cell? ⟨w.heap.size + 1 + 1 + 1,0,none⟩=some (.string hi):=by
   show World.cell? ((W.setCell { block:=w.heap.size + 1 + 1,off:=0 } (Value.string lo)).setCell { block:=w.heap.size + 1 + 1 + 1,off:=0 } (Value.string hi)) _=_
   rw [World.cell?_setCell_same _ _ _ (by rw [World.cell?_setCell_other _ _ _ _ (by simp)]; exact HI.out.c5)]
  have hk9:=((KeepsOthers.setCell W ⟨w.heap.size + 1 + 1,0,none⟩ (.string lo)).trans (KeepsOthers.setCell _ ⟨w.heap.size + 1 + 1 + 1,0,none⟩ (.string hi))).trans (KeepsOthers.drew _)
  have hK9:=hk9.same D' _ HK.out rfl
  have hb9:=((HB.out.setCell (p:=⟨w.heap.size + 1 + 1,0,none⟩) (by show _≤w.heap.size + 1 + 1; omega) (.string lo)).setCell (p:=⟨w.heap.size + 1 + 1 + 1,0,none⟩) (by show _≤w.heap.size + 1 + 1 + 1; omega) (.string hi)).drew
  generalize ((W.setCell { block:=w.heap.size + 1 + 1,off:=0 } (Value.string lo)).setCell { block:=w.heap.size + 1 + 1 + 1,off:=0 } (Value.string hi)).drew=w9 at *
  have g4:=cell_kept e4 (grownBy_putObj' _ D' (.deferred none)) (fun r e=>by cases e; exact ⟨_,hK9,rfl⟩)
  have g5:=cell_kept e5 (grownBy_putObj' _ D' (.deferred none)) (fun r e=>by cases e; exact ⟨_,hK9,rfl⟩)
  refine ⟨by simp,.inl ⟨_,_,rfl,run_takeDeferred hK9,?_⟩⟩
  refine ⟨.tuple #[.string lo,.string hi],?_,Hr.out,hb9.trans (belowK_b (w:=w) nr_ w9 D' _ _ (by rw [hsz1] at hD; omega) hK9 rfl rfl)⟩
  simp [results,Tryz.results109,go_sem,g4,g5]
 case stop =>
  rintro D' c pre W hD hSp ⟨hf,_⟩ hK
  exact hf.elim
end Go.Proofs.YtlomhfknmhaboaaGreatDoor

namespace Go.Proofs.YtlomhfknmhaboaaGreatDoor.LN
theorem sz_of_vt {ps:List Int} {l:List Rat} (hp:∀ p∈ps,0 < p):sz ps l=sg (vt (tlist (tden l) ps l)):=signT_sg _ (tlist_pos hp)
end Go.Proofs.YtlomhfknmhaboaaGreatDoor.LN

namespace Go.Proofs.YtlomhfknmhaboaaGreatDoor
open Go.RowKit
theorem lf_at {n:Nat} {tl:List (Int×Int)} (h:PrT tl) (hn:n≤1056):∀ x∈tl,LN.LogAt n x.1 (lf n x.1):=fun x hx=>by
 obtain ⟨q,e,hq⟩:=h x hx
 rw [e]
 exact lgN_at hq hn
structure TrT (tl:List (Int×Int)):Prop where
 p:PrT tl
 nz:∀ x∈tl,x.2≠0
 nd:(tl.map Prod.fst).Nodup
theorem sign_of_lo {n:Nat} {tl:List (Int×Int)} (h:TrT tl) (hn:n≤1056) (hne:tl≠[]) (h0:0≤LN.eLo (lf n) tl):LN.signT tl=1:=by
 rw [LN.eLo_eq] at h0
 exact LN.sign_low n (lf n) tl (lf_at h.p hn) h.nz hne h.nd (by omega)
theorem sign_of_hi {n:Nat} {tl:List (Int×Int)} (h:TrT tl) (hn:n≤1056) (hne:tl≠[]) (h0:LN.eHi (lf n) tl≤0):LN.signT tl = -1:=by
 rw [LN.eHi_eq] at h0
 exact LN.sign_high n (lf n) tl (lf_at h.p hn) h.nz hne h.nd (by omega)
theorem isLg_two (N:Nat):IsLg 2 N N:=⟨Nat.le_refl _,Nat.pow_lt_pow_right (by decide) (by omega)⟩
theorem digs_two (more n:Nat) (hm:1≤more) {s:Nat×Nat×Nat} (h:digs 2 more n=some s):s.2.2=2 ^ n :=
 isLg_one (digs_inv 2 more (by decide) hm n s h).lg (isLg_two _)
theorem lgA_lf {p:Int} (hp:∃ q:Nat,p=q∧(q=2∨q∈oddP)) (h:(digs p.toNat 62 26).isSome=true):lgA p=(lf 26 p:Int)∧lgB p=(LN.hiL (lf 26) p:Int):=by
 obtain ⟨q,rfl,hq⟩:=hp
 obtain ⟨s,hs⟩:=Option.isSome_iff_exists.1 h
 rw [Int.toNat_natCast] at hs
 have e:lgA q=(lf 26 q:Int):=by
  unfold lgA
  rw [Int.toNat_natCast,hs]
  show ((s.2.2:Nat):Int)=((lgN q 26:Nat):Int)
  rcases hq with rfl | hq
  ·rw [digs_two 62 26 (by decide) hs]
   rw [show ((2:Nat):Int)=2 from rfl,lgN_two]
  ·rw [digs_lgN hq (by decide) (by decide) hs]
 refine ⟨e,?_⟩
 unfold lgB LN.hiL
 rw [e]
 split
 ·rfl
 ·rfl
theorem lowT_eq {most:Int}:∀ tl:List (Int×Int),PrT tl→(∀ x∈tl,okT most x)→lowT tl=LN.eLo (lf 26) tl∧highT tl=LN.eHi (lf 26) tl
 | [],_,_=>⟨rfl,rfl⟩
 | x :: l,hp,ho=>by
  obtain ⟨i1,i2⟩:=lowT_eq l (fun y hy=>hp y (List.mem_cons_of_mem _ hy)) (fun y hy=>ho y (List.mem_cons_of_mem _ hy))
  obtain ⟨a1,a2⟩:=lgA_lf (hp x List.mem_cons_self) (ho x List.mem_cons_self).2
  have e1:lowT (x :: l)=min (x.2 * lgA x.1) (x.2 * lgB x.1) + lowT l:=by simp [lowT]
  have e2:highT (x :: l)=max (x.2 * lgA x.1) (x.2 * lgB x.1) + highT l:=by simp [highT]
  have f1:LN.eLo (lf 26) (x :: l)=(if x.2 < 0 then x.2 * (LN.hiL (lf 26) x.1:Int) else x.2 * (lf 26 x.1:Int)) + LN.eLo (lf 26) l:=by simp [LN.eLo]
  have f2:LN.eHi (lf 26) (x :: l)=(if x.2 < 0 then x.2 * (lf 26 x.1:Int) else x.2 * (LN.hiL (lf 26) x.1:Int)) + LN.eHi (lf 26) l:=by simp [LN.eHi]
  have hle:lf 26 x.1≤LN.hiL (lf 26) x.1:=by unfold LN.hiL; split <;> omega
  rw [e1,e2,f1,f2,i1,i2,a1,a2]
  by_cases hk:x.2 < 0
  ·have h1:x.2 * (LN.hiL (lf 26) x.1:Int)≤x.2 * (lf 26 x.1:Int):=Int.mul_le_mul_of_nonpos_left (by omega) (by omega)
   rw [if_pos hk,if_pos hk,Int.min_eq_right h1,Int.max_eq_left h1]
   exact ⟨rfl,rfl⟩
  ·have h1:x.2 * (lf 26 x.1:Int)≤x.2 * (LN.hiL (lf 26) x.1:Int):=Int.mul_le_mul_of_nonneg_left (by omega) (by omega)
   rw [if_neg hk,if_neg hk,Int.min_eq_left h1,Int.max_eq_right h1]
   exact ⟨rfl,rfl⟩
theorem quick_sign {tl:List (Int×Int)} (h:TrT tl) (hne:tl≠[]) (hq:quickV tl≠0):quickV tl=LN.signT tl:=by
 unfold quickV at hq ⊢
 split at hq
 ·rename_i ho
  obtain ⟨e1,e2⟩:=lowT_eq tl h.p ho
  rw [if_pos ho]
  rw [e1,e2] at hq ⊢
  split
  ·rename_i h1; rw [sign_of_lo h (by decide) hne h1]
  ·rename_i h1
   rw [if_neg h1] at hq
   split
   ·rename_i h2; rw [sign_of_hi h (by decide) hne h2]
   ·rename_i h2; rw [if_neg h2] at hq; exact absurd rfl hq
 ·exact absurd rfl hq
def Pw (n:Nat):Prop:=n=64∨n=128∨n=256∨n=512∨n=1024
def Dec (tl:List (Int×Int)):Prop:=0≤LN.eLo (lf 1024) tl∨LN.eHi (lf 1024) tl≤0
set_option maxRecDepth 100000 in
set_option maxHeartbeats 8000000 in
theorem sign_dec (w:World) (b1 b2:Option Addr) (d1 d2 D E:Nat) (tl:List (Int×Int)) (T:TermsAt w tl b1 b2) (R:TrT tl) (hE:E≤20000) (hK:∀ x∈tl,x.2.natAbs < 2 ^ E) (hd:tl≠[]→Dec tl) (L:Laid w) :
  Gives Tryz.prog 67 #[.agg (tcells b1 d1 b2 d2 tl.length D)] w (.int .i64 (LN.signT tl)):=by
 by_cases h0:tl=[]
 ·have:=sign_quick w b1 b2 d1 d2 D tl T L (.inl h0)
  rw [if_pos h0] at this
  rw [h0] at this ⊢
  exact this
 by_cases hq:quickV tl≠0
 ·have:=sign_quick w b1 b2 d1 d2 D tl T L (.inr hq)
  rw [if_neg h0,quick_sign R h0 hq] at this
  exact this
 ·have hq0:quickV tl=0:=by omega
  unfold Gives
  have Hb0:=Lib.hid ((Below.refl w.heap.size w).alloc nr_ (.cells (tcells b1 d1 b2 d2 tl.length D) 103))
  have Hn:=Lib.hid (quick_any _ b1 b2 d1 d2 D tl (T.below Hb0.out) (L.below Hb0.out))
  rw [hq0] at Hn
  have hl0:((tl.length:Int) == 0)=false:=by
   rw [beq_eq_false_iff_ne]
   intro h
   exact h0 (List.eq_nil_of_length_eq_zero (by omega))
  have He:Hid (∀ (n:Nat) W,n≤1056→Below w.heap.size w W→Gives Tryz.prog 109 #[.agg (tcells b1 d1 b2 d2 tl.length D),.int .i64 n] W (.tuple #[.string (itx (LN.eLo (lf n) tl)),.string (itx (LN.eHi (lf n) tl))])) :=
   fun n W hn hW=>ends_any W b1 b2 d1 d2 D n E tl (T.below hW) R.p hE hK hn (L.below hW)
  have Hlo:Hid (∀ n:Nat,n≤1056→0≤LN.eLo (lf n) tl→LN.signT tl=1):=fun n hn h=>sign_of_lo R hn h0 h
  have Hhi:Hid (∀ n:Nat,n≤1056→LN.eHi (lf n) tl≤0→LN.signT tl = -1):=fun n hn h=>sign_of_hi R hn h0 h
  have Hdec:=Lib.hid (hd h0)
  clear T L hq h0 hq0 R hE hK hd
  generalize LN.signT tl=sv at *
  generalize hm:tl.length=m at *
  clear hm
  have Hob:=Lib.hid (heap_at w (tcells b1 d1 b2 d2 m D) 103 w.heap.size rfl)
  obtain ⟨m0,m1,m2,m3⟩:=obj_cells3 Hob.out
  clear m3
  go_enter Tryz.func67,Tryz.ntmps67
  go_wp2_with fail
  go_step3
  go_wp2_with fail
  refine Calls.mono Hn.out ?_
  rintro e w1 ⟨rfl,hb1⟩
  have Hb1:=Lib.hid (Hb0.out.trans (hb1.mono Hb0.out.size))
  have Hk1:=Lib.hid (heap_kept Hob.out hb1 nr_)
  clear hb1 Hn Hb0 Hob m0 m1 m2
  go_wp2_with fail
  go_step3
  go_wp2_with fail
  go_loopw [4] (fun a wr=>∃ (n:Nat),Hid (Pw n)∧n≤1024∧a = .int .i64 n∧Hid (Below w.heap.size w wr)∧Hid (wr.heap[w.heap.size]?=some (.cells (tcells b1 d1 b2 d2 m D) 103 (0,0)))) (fun a _=>1024 - (intOf a).toNat)
  case atStart=>exact ⟨64,.inl rfl,by decide,rfl,Hb1,Hk1⟩
  case round =>
   clear Hb1 Hk1
   obtain ⟨n,Hp,hn,rfl,Hb,Hk⟩:=hrel
   obtain ⟨m0,m1,m2,m3⟩:=obj_cells3 Hk.out
   clear m3
   have Hen:=Lib.hid (He.out n wr (by omega) Hb.out)
   have hlo:=Hlo.out n (by omega)
   have hhi:=Hhi.out n (by omega)
   have hlast:n=1024→0≤LN.eLo (lf n) tl∨LN.eHi (lf n) tl≤0:=fun h=>by rw [h]; exact Hdec.out
   clear He Hlo Hhi Hdec
   generalize LN.eLo (lf n) tl=lo at *
   generalize LN.eHi (lf n) tl=hi at *
   have Hs1:Hid (∀ W,Gives Tryz.prog 54 #[.string (itx lo)] W (.int .i64 lo.sign)):=fun W=>sign_any W lo
   have Hs2:Hid (∀ W,Gives Tryz.prog 54 #[.string (itx hi)] W (.int .i64 hi.sign)):=fun W=>sign_any W hi
   have c1:=sign_cases lo
   have c2:=sign_cases hi
   have hw:IntKind.i64.wrap ((n:Int) * 2)=((n * 2:Nat):Int):=by rw [show (n:Int) * 2=((n * 2:Nat):Int) by omega]; exact IntWalk.i64_in _ (by omega)
   by_cases h1:0≤lo
   ·have Hv:=Lib.hid (hlo h1)
    have h1':0≤lo.sign:=by omega
    generalize lo.sign=sl at *
    clear c1 c2 hlo hhi hlast Hs2 h1
    generalize itx lo=slo at *
    generalize itx hi=shi at *
    have B1:=Hb
    have K1:=Hk
    clear Hb Hk
    go_wp2_with fail
    refine Calls.mono (Hen.out) ?_
    rintro e w2 ⟨rfl,hb⟩
    have B2:=Lib.hid (B1.out.trans (hb.mono B1.out.size))
    have K2:=Lib.hid (heap_kept K1.out hb nr_)
    clear hb B1 K1
    go_wp2_with fail
    refine Calls.mono (Hs1.out _) ?_
    rintro e w3 ⟨rfl,hb⟩
    have B3:=Lib.hid (B2.out.trans (hb.mono B2.out.size))
    have K3:=Lib.hid (heap_kept K2.out hb nr_)
    clear hb B2 K2
    go_wp2_with fail
    rw [Exit.noGoto_ret]
    go_ret
    exact ⟨by rw [Hv.out]; rfl,B3.out⟩
   ·have h1':lo.sign < 0:=by omega
    by_cases h2:hi≤0
    ·have Hv:=Lib.hid (hhi h2)
     have h2':hi.sign≤0:=by omega
     generalize lo.sign=sl at *
     generalize hi.sign=sh at *
     clear c1 c2 hlo hhi hlast h1 h2
     generalize itx lo=slo at *
     generalize itx hi=shi at *
     have B1:=Hb
     have K1:=Hk
     clear Hb Hk
     go_wp2_with fail
     refine Calls.mono (Hen.out) ?_
     rintro e w2 ⟨rfl,hb⟩
     have B2:=Lib.hid (B1.out.trans (hb.mono B1.out.size))
     have K2:=Lib.hid (heap_kept K1.out hb nr_)
     clear hb B1 K1
     go_wp2_with fail
     refine Calls.mono (Hs1.out _) ?_
     rintro e w3 ⟨rfl,hb⟩
     have B3:=Lib.hid (B2.out.trans (hb.mono B2.out.size))
     have K3:=Lib.hid (heap_kept K2.out hb nr_)
     clear hb B2 K2
     go_wp2_with fail
     refine Calls.mono (Hs2.out _) ?_
     rintro e w4 ⟨rfl,hb⟩
     have B4:=Lib.hid (B3.out.trans (hb.mono B3.out.size))
     have K4:=Lib.hid (heap_kept K3.out hb nr_)
     clear hb B3 K3
     go_wp2_with fail
     rw [Exit.noGoto_ret]
     go_ret
     exact ⟨by rw [Hv.out]; rfl,B4.out⟩
    ·have h2':0 < hi.sign:=by omega
     have hn2:n * 2≤1024:=by
      rcases Hp.out with h | h | h | h | h
      ·omega
      ·omega
      ·omega
      ·omega
      ·have:=hlast h; omega
     have hp2:Hid (Pw (n * 2)):=by
      rcases Hp.out with h | h | h | h | h
      ·subst h; exact .inr (.inl rfl)
      ·subst h; exact .inr (.inr (.inl rfl))
      ·subst h; exact .inr (.inr (.inr (.inl rfl)))
      ·subst h; exact .inr (.inr (.inr (.inr rfl)))
      ·have:=hlast h; omega
     have hn0:0 < n:=by rcases Hp.out with h | h | h | h | h <;> omega
     generalize lo.sign=sl at *
     generalize hi.sign=sh at *
     clear c1 c2 hlo hhi hlast h1 h2
     generalize itx lo=slo at *
     generalize itx hi=shi at *
     have B1:=Hb
     have K1:=Hk
     clear Hb Hk
     go_wp2_with fail
     refine Calls.mono (Hen.out) ?_
     rintro e w2 ⟨rfl,hb⟩
     have B2:=Lib.hid (B1.out.trans (hb.mono B1.out.size))
     have K2:=Lib.hid (heap_kept K1.out hb nr_)
     clear hb B1 K1
     go_wp2_with fail
     refine Calls.mono (Hs1.out _) ?_
     rintro e w3 ⟨rfl,hb⟩
     have B3:=Lib.hid (B2.out.trans (hb.mono B2.out.size))
     have K3:=Lib.hid (heap_kept K2.out hb nr_)
     clear hb B2 K2
     go_wp2_with fail
     refine Calls.mono (Hs2.out _) ?_
     rintro e w4 ⟨rfl,hb⟩
     have B4:=Lib.hid (B3.out.trans (hb.mono B3.out.size))
     have K4:=Lib.hid (heap_kept K3.out hb nr_)
     clear hb B3 K3
     go_wp2_with fail
     go_roundw
     case rel=>exact ⟨n * 2,hp2,hn2,rfl,B4,K4⟩
     case measure=>simp [intOf]; omega
end Go.Proofs.YtlomhfknmhaboaaGreatDoor

namespace Go.Proofs.YtlomhfknmhaboaaGreatDoor
open Go.RowKit
def smallP:List Int:=[2,3,5,7,11,13]
theorem lg_lgN {p n L:Nat} (hp:p∈oddP) (hn:n≤1056) (h:LN.lg p p.log2 n 1120=some L):lgN p n=L:=by
 rw [lg_digs] at h
 obtain ⟨s,hs,e⟩:=Option.map_eq_some_iff.1 h
 rw [← digs_lgN hp hn (by decide) hs,e]
theorem lg_cert:([3,5,7,11,13]:List Nat).map (fun p=>LN.lg p p.log2 1024 1120)=LN.certL.tail.map fun x=>some x.toNat:=by decide +kernel
theorem certL_head:LN.certL.head?=some (2 ^ 1024):=by decide +kernel
theorem certL_pos:∀ x∈LN.certL,(0:Int)≤x:=by decide +kernel
theorem lf_two (n:Nat):((lf n 2:Nat):Int)=2 ^ n:=by
 show ((lgN 2 n:Nat):Int)=_
 rw [lgN_two,Int.natCast_pow]; rfl
theorem mul_pow_le {a k m:Nat} (ha:a≤100) (h:7 + k≤m):a * 2 ^ k≤2 ^ m:=by
 have:a * 2 ^ k≤2 ^ 7 * 2 ^ k:=Nat.mul_le_mul_right _ (by omega)
 rw [← Nat.pow_add] at this
 exact Nat.le_trans this (Nat.pow_le_pow_right (by decide) h)
theorem certL_eq:smallP.map (fun p=>((lf 1024 p:Nat):Int))=LN.certL:=by
 have h:=lg_cert
 have h0:=certL_head
 have hp:=certL_pos
 obtain ⟨c0,c1,c2,c3,c4,c5,e⟩:∃ c0 c1 c2 c3 c4 c5,LN.certL=[c0,c1,c2,c3,c4,c5]:=⟨_,_,_,_,_,_,rfl⟩
 rw [e] at h h0 hp ⊢
 have key:∀ (p:Nat) (c:Int),p∈oddP→0≤c→LN.lg p p.log2 1024 1120=some c.toNat→((lf 1024 (p:Int):Nat):Int)=c:=fun p c hp h0 h=>by
  have:=lg_lgN hp (by decide) h
  show ((lgN p 1024:Nat):Int)=c
  rw [this]; omega
 simp only [List.map_cons,List.map_nil,List.tail_cons,List.cons.injEq,and_true] at h
 obtain ⟨h1,h2,h3,h4,h5⟩:=h
 simp only [List.head?_cons,Option.some.injEq] at h0
 have p1:=hp c1 (by simp)
 have p2:=hp c2 (by simp)
 have p3:=hp c3 (by simp)
 have p4:=hp c4 (by simp)
 have p5:=hp c5 (by simp)
 have k1:=key 3 c1 (by decide) p1 h1
 have k2:=key 5 c2 (by decide) p2 h2
 have k3:=key 7 c3 (by decide) p3 h3
 have k4:=key 11 c4 (by decide) p4 h4
 have k5:=key 13 c5 (by decide) p5 h5
 have k0:((lf 1024 2:Nat):Int)=c0:=by
  rw [h0]
  exact lf_two 1024
 show [((lf 1024 2:Nat):Int),((lf 1024 3:Nat):Int),((lf 1024 5:Nat):Int),((lf 1024 7:Nat):Int),((lf 1024 11:Nat):Int),((lf 1024 13:Nat):Int)]=_
 rw [k0]
 rw [show ((lf 1024 3:Nat):Int)=c1 from k1,show ((lf 1024 5:Nat):Int)=c2 from k2,show ((lf 1024 7:Nat):Int)=c3 from k3,show ((lf 1024 11:Nat):Int)=c4 from k4,show ((lf 1024 13:Nat):Int)=c5 from k5]
def Kb:Nat:=2 ^ 100
theorem dec_of_cert {tl:List (Int×Int)} (h1:∀ x∈tl,x.1∈smallP) (h0:∀ x∈tl,x.2≠0) (hd:(tl.map Prod.fst).Nodup) (hk:∀ x∈tl,x.2.natAbs≤Kb) (hl:tl.length≤100) (hne:tl≠[]):Dec tl:=by
 have hc:=LN.cert_ok
 rw [← certL_eq] at hc
 have hS:=@mul_pow_le tl.length 100 503 hl (by decide)
 have:=LN.ends_decide hc (by decide) tl hS hne (fun x hx=>⟨h1 x hx,h0 x hx,hk x hx⟩) hd
 unfold Dec
 rw [LN.eLo_eq,LN.eHi_eq]
 omega
structure Good (ps:List Int) (l:List Rat):Prop where
 pr:∀ p∈ps,p∈smallP
 nd:ps.Nodup
 kb:∀ x∈tlQ ps l,x.2.natAbs≤Kb
theorem tlist_fst (D:Nat):∀ (ps:List Int) (l:List Rat),((tlist D ps l).map Prod.fst).Sublist ps
 | [],_=>by simp [tlist]
 | _ :: _,[]=>by simp [tlist]
 | p :: ps,q :: l=>by
  have ih:=tlist_fst D ps l
  unfold tlist at ih ⊢
  rw [List.zip_cons_cons,List.filterMap_cons]
  by_cases h:q.num=0
  ·simp only [h,if_true]; exact ih.cons _
  ·simp only [h,if_false]; exact ih.cons_cons _
theorem smallP_pr {p:Int} (h:p∈smallP):∃ q:Nat,p=q∧(q=2∨q∈oddP):=by
 simp only [smallP,List.mem_cons,List.not_mem_nil,or_false] at h
 rcases h with rfl | rfl | rfl | rfl | rfl | rfl
 ·exact ⟨2,rfl,.inl rfl⟩
 ·exact ⟨3,rfl,.inr (by decide)⟩
 ·exact ⟨5,rfl,.inr (by decide)⟩
 ·exact ⟨7,rfl,.inr (by decide)⟩
 ·exact ⟨11,rfl,.inr (by decide)⟩
 ·exact ⟨13,rfl,.inr (by decide)⟩
theorem tlQ_nz {ps:List Int} {l:List Rat} {x:Int×Int} (h:x∈tlQ ps l):x.2≠0:=by
 obtain ⟨_,q,hq,hn,he⟩:=tlist_mem h
 rw [he]
 refine Int.mul_ne_zero hn ?_
 have h1:=LN.tden_dvd hq
 have h2:=LN.tden_pos' l
 have h3:0 < tden l / q.den:=Nat.div_pos (Nat.le_of_dvd h2 h1) q.den_pos
 omega
theorem Good.trt {ps:List Int} {l:List Rat} (h:Good ps l):TrT (tlQ ps l) :=
 ⟨fun _ hx=>smallP_pr (h.pr _ (tlist_mem hx).1),fun _ hx=>tlQ_nz hx,(tlist_fst _ ps l).nodup h.nd⟩
theorem Good.lt {ps:List Int} {l:List Rat} (h:Good ps l):∀ x∈tlQ ps l,x.2.natAbs < 2 ^ 101:=fun x hx=>Nat.lt_of_le_of_lt (h.kb x hx) (by decide)
theorem Good.dec {ps:List Int} {l:List Rat} (h:Good ps l) (hn:ps.length≤100) (hne:tlQ ps l≠[]):Dec (tlQ ps l) :=
 dec_of_cert (fun x hx=>h.pr _ (tlist_mem hx).1) h.trt.nz h.trt.nd h.kb (Nat.le_trans (by have:=(tlist_fst (tden l) ps l).length_le; rw [List.length_map] at this; exact this) hn) hne
set_option maxRecDepth 100000 in
set_option maxHeartbeats 8000000 in
theorem compare_dec (w:World) (ps:List Int) (a0 a1 a2:Option Addr) (c0 c1 c2 D:Nat) (la lb:List Rat) (A:SizeOk w ps a0 a1 la D) (B:SizeOk w ps a0 a2 lb D) (L:Laid w) (hD:D≤400)
  (hq:Good ps (sumQ ps.length [la,lb] [1,-1])) :
  Gives Tryz.prog 64 #[.slice a0 ps.length c0,.slice a1 la.length c1,.slice a2 lb.length c2] w (.int .i64 (LN.sz ps (sumQ ps.length [la,lb] [1,-1]))):=by
 unfold Gives
 have HL:=Lib.hid L
 have HA:=Lib.hid A
 have HB:=Lib.hid B
 have HD:=Lib.hid hD
 have Hq:=Lib.hid hq
 have Hn:=Lib.hid A.n
 have Hr0:Hid (LN.sz ps (sumQ ps.length [la,lb] [1,-1])=LN.signT (tlQ ps (sumQ ps.length [la,lb] [1,-1]))):=Lib.hid rfl
 have Hnum1:Hid (∀ W,Below w.heap.size w W→Gives Tryz.prog 65 #[.int .i64 1] W (.agg #[.string (itx 1),.string (dec 1)])):=fun W hW=>number_any W 1 (by decide) (by decide) (HL.out.below hW)
 have Hnum2:Hid (∀ W,Below w.heap.size w W→Gives Tryz.prog 65 #[.int .i64 (-1)] W (.agg #[.string (itx (-1)),.string (dec 1)])):=fun W hW=>number_any W (-1) (by decide) (by decide) (HL.out.below hW)
 clear hq hD A B L
 obtain ⟨r,hr⟩:∃ r,LN.sz ps (sumQ ps.length [la,lb] [1,-1])=r:=⟨_,rfl⟩
 have Hsg:Hid (LN.signT (tlQ ps (sumQ ps.length [la,lb] [1,-1]))=r):=by show _=_; rw [← Hr0.out,hr]
 rw [hr]
 clear hr Hr0
 go_enter Tryz.func64,Tryz.ntmps64
 go_wp2_with fail
 have K1:=Lib.hid (heap_at w #[.slice a1 la.length c1,.slice a2 lb.length c2] 34 _ rfl)
 have B1:=Lib.hid ((Below.refl w.heap.size w).alloc nr_ (.cells #[.slice a1 la.length c1,.slice a2 lb.length c2] 34))
 generalize hw1:w.alloc (.cells #[.slice a1 la.length c1,.slice a2 lb.length c2] 34)=w1 at *
 clear hw1
 refine Calls.mono (Hnum1.out _ B1.out) ?_
 rintro e w2 ⟨rfl,hb⟩
 have K2:=Lib.hid (heap_kept K1.out hb nr_)
 have B2:=Lib.hid (B1.out.trans (hb.mono B1.out.size))
 clear hb
 go_wp2_with fail
 refine Calls.mono (Hnum2.out _ B2.out) ?_
 rintro e w3 ⟨rfl,hb⟩
 have K3:=Lib.hid (heap_kept K2.out hb nr_)
 have B3:=Lib.hid (B2.out.trans (hb.mono B2.out.size))
 clear hb
 go_wp2_with fail
 have K4:=Lib.hid (heap_old K3.out (.cells #[.string (itx 1),.string (dec 1),.string (itx (-1)),.string (dec 1)] 30))
 have B4:=Lib.hid (B3.out.alloc B3.out.size (.cells #[.string (itx 1),.string (dec 1),.string (itx (-1)),.string (dec 1)] 30))
 have M4:=Lib.hid (heap_at w3 #[.string (itx 1),.string (dec 1),.string (itx (-1)),.string (dec 1)] 30 _ rfl)
 generalize hw4:w3.alloc (.cells #[.string (itx 1),.string (dec 1),.string (itx (-1)),.string (dec 1)] 30)=w4 at *
 clear hw4
 have Hs:=Lib.hid (sum_pair w4 _ _ a1 a2 c1 c2 ps.length D la lb 1 (-1) K4.out M4.out (HA.out.below B4.out).rl (HB.out.below B4.out).rl HA.out.len HB.out.len HA.out.sm HB.out.sm Sm.one Sm.minus Hn.out HD.out (HL.out.below B4.out))
 refine Calls.mono Hs.out ?_
 rintro e w5 ⟨a5,c5,rfl,ho,hb⟩
 have Hr5:=Lib.hid ho.rd
 have B5:=Lib.hid (B4.out.trans (hb.mono B4.out.size))
 clear hb ho
 have S5:Hid (SizeOk w5 ps a0 a5 (sumQ ps.length [la,lb] [1,-1]) (2 * D + 5)) :=
  ⟨(HA.out.below B5.out).rp,Hr5.out,sum_pair_len HA.out.len HB.out.len,Hn.out,HA.out.pr,sum_pair_sm HA.out.sm HB.out.sm Sm.one Sm.minus,by have:=HD.out; omega⟩
 have Ht:=Lib.hid (terms_ok (c0:=c0) (c:=c5) S5.out (HL.out.below B5.out))
 go_wp2_with fail
 refine Calls.mono Ht.out ?_
 rintro e w6 ⟨b1,d1,b2,d2,rfl,T,hb⟩
 have B6:=Lib.hid (B5.out.trans (hb.mono B5.out.size))
 have Hg:Hid (Gives Tryz.prog 67 #[.agg (tcells b1 d1 b2 d2 (tlQ ps (sumQ ps.length [la,lb] [1,-1])).length (tden (sumQ ps.length [la,lb] [1,-1])))] w6 (.int .i64 r)):=by
  rw [← Hsg.out]; exact sign_dec w6 b1 b2 d1 d2 _ 101 _ T Hq.out.trt (by decide) Hq.out.lt (Hq.out.dec Hn.out) (HL.out.below B6.out)
 clear hb T
 go_wp2_with fail
 refine Calls.mono Hg.out ?_
 rintro e w7 ⟨rfl,hb⟩
 have B7:=Lib.hid (B6.out.trans (hb.mono B6.out.size))
 clear hb
 go_wp2_with fail
 go_ret
 exact ⟨rfl,B7.out⟩
end Go.Proofs.YtlomhfknmhaboaaGreatDoor

namespace Go.Proofs.YtlomhfknmhaboaaGreatDoor
open Go.RowKit
theorem primesL_small:∀ k,k < 10→(∀ p∈primesL k,p∈smallP)∧(primesL k).Nodup:=by decide +kernel
theorem smallP_pos {ps:List Int} (h:∀ p∈ps,p∈smallP):∀ p∈ps,0 < p:=fun p hp=>by
 have key:∀ q∈smallP,0 < q:=by decide
 exact key p (h p hp)
def Sml (N M:Nat) (l:List Rat):Prop:=∀ q∈l,q.den ∣ M∧(LN.ex M q).natAbs≤N
theorem Sml.le {N K M:Nat} {l:List Rat} (h:Sml N M l) (hK:N≤K):Sml K M l:=fun q hq=>⟨(h q hq).1,Nat.le_trans (h q hq).2 hK⟩
theorem ex_den {M:Nat} {q:Rat} (z:Int) (hM:0 < M) (h:q * (M:Rat)=(z:Rat)):q.den ∣ M∧LN.ex M q=z:=by
 have hM':(M:Rat)≠0:=by have:=Rat.natCast_pos.2 hM; grind
 have e:q=mkRat z M:=by
  rw [Rat.mkRat_eq_div]
  have:=Rat.mul_div_cancel (a:=q) hM'
  rw [← h]; exact this.symm
 have hd:q.den ∣ M:=by
  rw [e,LN.mkRat_den' _ _ (by omega)]
  exact Nat.div_dvd_of_dvd (Nat.gcd_dvd_right _ _)
 refine ⟨hd,?_⟩
 rw [← Rat.intCast_inj,LN.ex_eq hd,h]
theorem Sml.comb {N K M:Nat} {la lb:List Rat} (hM:0 < M) (ha:Sml N M la) (hb:Sml K M lb) (f g:Int):Sml (N * f.natAbs + K * g.natAbs) M (combineQ la lb (f:Rat) (g:Rat)):=by
 intro q hq
 obtain ⟨i,hi,rfl⟩:=List.mem_iff_getElem.1 hq
 have hi':i < la.length∧i < lb.length:=by simp [combineQ] at hi; omega
 simp only [combineQ,List.getElem_zipWith]
 obtain ⟨d1,n1⟩:=ha _ (List.getElem_mem hi'.1)
 obtain ⟨d2,n2⟩:=hb _ (List.getElem_mem hi'.2)
 have h:(la[i]'hi'.1 * (f:Rat) + lb[i]'hi'.2 * (g:Rat)) * (M:Rat)=((LN.ex M (la[i]'hi'.1) * f + LN.ex M (lb[i]'hi'.2) * g:Int):Rat):=by
  rw [Rat.intCast_add,Rat.intCast_mul,Rat.intCast_mul,LN.ex_eq d1,LN.ex_eq d2]
  grind
 obtain ⟨r1,r2⟩:=ex_den _ hM h
 refine ⟨r1,?_⟩
 rw [r2]
 refine Nat.le_trans (Int.natAbs_add_le _ _) ?_
 rw [Int.natAbs_mul,Int.natAbs_mul]
 exact Nat.add_le_add (Nat.mul_le_mul_right _ n1) (Nat.mul_le_mul_right _ n2)
theorem Sml.good {N M:Nat} {ps:List Int} {l:List Rat} (hM:0 < M) (h:Sml N M l) (hN:N≤Kb) (h1:∀ p∈ps,p∈smallP) (h2:ps.Nodup):Good ps l:=by
 refine ⟨h1,h2,fun x hx=>?_⟩
 obtain ⟨_,q,hq,_,he⟩:=tlist_mem hx
 have e:x.2=LN.ex (tden l) q:=he
 obtain ⟨m,hm⟩:=LN.tden_min (fun q hq=>(h q hq).1)
 have h3:=(h q hq).2
 rw [hm,Nat.mul_comm,LN.ex_mul (LN.tden_dvd hq),Int.natAbs_mul,Int.natAbs_natCast] at h3
 have hm0:0 < m:=by
  rcases Nat.eq_zero_or_pos m with h0 | h0
  ·rw [h0,Nat.mul_zero] at hm; omega
  ·exact h0
 rw [e]
 have h4:1 * (LN.ex (tden l) q).natAbs≤m * (LN.ex (tden l) q).natAbs:=Nat.mul_le_mul_right _ hm0
 omega
def difQ (la lb:List Rat):List Rat:=combineQ la lb ((1:Int):Rat) ((-1:Int):Rat)
theorem difQ_get (la lb:List Rat) (i:Nat) (h1:i < la.length) (h2:i < lb.length) (h:i < (difQ la lb).length):(difQ la lb)[i]=la[i] - lb[i]:=by
 simp only [difQ,combineQ,List.getElem_zipWith]
 grind
theorem difQ_length (la lb:List Rat) (h:la.length=lb.length):(difQ la lb).length=la.length:=combineQ_length _ _ _ _ h
theorem sz_swap {ps:List Int} (hp:∀ p∈ps,0 < p) {la lb:List Rat} (h:la.length=lb.length):LN.sz ps (difQ lb la) = - LN.sz ps (difQ la lb):=by
 rw [← LN.sz_neg hp]
 congr 1
 refine List.ext_getElem (by simp [difQ_length,h]) fun i h1 h2=>?_
 have i1:i < la.length:=by simp [difQ_length,h] at h2; omega
 rw [difQ_get lb la i (by omega) i1 h1,List.getElem_map,difQ_get la lb i i1 (by omega)]
 grind
end Go.Proofs.YtlomhfknmhaboaaGreatDoor

namespace Go.Proofs.YtlomhfknmhaboaaGreatDoor
open Go.RowKit
theorem densL_dvd:∀ d,d < 6→0 < densL d∧densL d ∣ 12:=by decide
theorem rat_one_int:((1:Int):Rat)=1:=rfl
theorem rat_mone_int:((-1:Int):Rat) = -1:=by decide +kernel
theorem mkRat_mul_den (z:Int) (d:Nat) (hd:0 < d):mkRat z d * (d:Rat)=(z:Rat):=by
 rw [Rat.mkRat_eq_div]
 exact Rat.div_mul_cancel (by have:=Rat.natCast_pos.2 hd; grind)
theorem fracQ_twelve (n:Int) (d:Nat):∃ z:Int,fracQ n d * ((12:Nat):Rat)=(z:Rat)∧z.natAbs≤480:=by
 obtain ⟨h1,m,hm⟩:=densL_dvd (d % 6) (Nat.mod_lt _ (by decide))
 have t1:=Int.tmod_lt_of_pos n (show (0:Int) < 41 by decide)
 have t2:=Int.lt_tmod_of_pos n (show (0:Int) < 41 by decide)
 refine ⟨n.tmod 41 * m,?_,?_⟩
 ·unfold fracQ
  have e:=mkRat_mul_den (n.tmod 41) (densL (d % 6)) h1
  rw [hm,Rat.natCast_mul,← Rat.mul_assoc,e,Rat.intCast_mul,Rat.intCast_natCast]
 ·have hm2:m≤12:=by
   have:1 * m≤densL (d % 6) * m:=Nat.mul_le_mul_right _ h1
   omega
  rw [Int.natAbs_mul,Int.natAbs_natCast]
  exact Nat.le_trans (Nat.mul_le_mul (show (n.tmod 41).natAbs≤40 by omega) hm2) (by decide)
theorem partsQ_sml (nu:Nat→Int) (de:Nat→Nat) (m:Nat):Sml 480 12 (partsQ nu de m):=by
 intro q hq
 obtain ⟨i,_,rfl⟩:=List.mem_map.1 hq
 obtain ⟨z,h,hz⟩:=fracQ_twelve (nu i) (de i)
 obtain ⟨r1,r2⟩:=ex_den z (by decide) h
 exact ⟨r1,by rw [r2]; exact hz⟩
theorem sz_cases {ps:List Int} (hp:∀ p∈ps,0 < p) (l:List Rat):LN.sz ps l=1∨LN.sz ps l=0∨LN.sz ps l = -1:=by
 rw [LN.sz_of_vt hp]; exact LN.sg_cases _
theorem pow_kb {a:Nat} (h:a≤1000000000):a≤Kb:=by
 have:(1000000000:Nat)≤Kb:=by decide
 omega
end Go.Proofs.YtlomhfknmhaboaaGreatDoor

namespace Go.Proofs.YtlomhfknmhaboaaGreatDoor
open Go.RowKit
theorem elIntS:ElemOf Tryz.prog 25 3 (.int .i64 0) 1 8:=⟨Tryz.underlying25,info_parts infoP,rfl,by decide⟩
structure SortAt (W:World) (ps:List Int) (g2 g3:Nat) (a0 al:Option Addr) (c0 cl:Nat) (LL:List (List Rat)):Prop where
 h2:W.heap[g2]?=some (.cells #[.slice a0 ps.length c0] 26 (0,0))
 h3:W.heap[g3]?=some (.cells #[.slice al LL.length cl] 33 (0,0))
 rp:Rd W a0 (ints ps)
 rl:RdL W al (LL.map (List.map qs))
theorem SortAt.below {W W':World} {ps:List Int} {g2 g3:Nat} {a0 al:Option Addr} {c0 cl:Nat} {LL:List (List Rat)} (h:SortAt W ps g2 g3 a0 al c0 cl LL) {D:Nat} (hb:Below D W W') (hD:W.heap.size≤D):SortAt W' ps g2 g3 a0 al c0 cl LL :=
 ⟨heap_kept h.h2 hb hD,heap_kept h.h3 hb hD,h.rp.below hb hD,h.rl.below hb hD⟩
structure SortOk (ps:List Int) (LL:List (List Rat)):Prop where
 p0:pcode ps=0
 pr:∀ p∈ps,2≤p∧p≤97
 pos:∀ p∈ps,0 < p
 n:ps.length≤100
 len:∀ l∈LL,l.length=ps.length
 sm:∀ l∈LL,∀ q∈l,Sm 30 q
 good:∀ a∈LL,∀ b∈LL,Good ps (difQ a b)
def cS (ps:List Int) (LL:List (List Rat)) (u v:Nat):Int:=if u < LL.length∧v < LL.length then LN.sz ps (difQ (LL.getD u []) (LL.getD v [])) else 0
theorem getD_memL {LL:List (List Rat)} {u:Nat} (h:u < LL.length):LL.getD u []∈LL:=by
 rw [List.getD_eq_getElem?_getD,List.getElem?_eq_getElem h]; exact List.getElem_mem h
theorem cS_neg {ps:List Int} {LL:List (List Rat)} (O:SortOk ps LL) (u v:Nat):cS ps LL v u = - cS ps LL u v:=by
 unfold cS
 by_cases h:u < LL.length∧v < LL.length
 ·rw [if_pos h,if_pos ⟨h.2,h.1⟩]
  exact sz_swap O.pos ((O.len _ (getD_memL h.1)).trans (O.len _ (getD_memL h.2)).symm)
 ·rw [if_neg h,if_neg (fun h2=>h ⟨h2.2,h2.1⟩)]; rfl
theorem cS_le {ps:List Int} {LL:List (List Rat)} (O:SortOk ps LL) (u v:Nat) : -1≤cS ps LL u v∧cS ps LL u v≤1:=by
 unfold cS
 split
 ·rcases sz_cases O.pos (difQ (LL.getD u []) (LL.getD v [])) with h | h | h <;> omega
 ·omega
set_option maxRecDepth 100000 in
set_option maxHeartbeats 8000000 in
theorem srt1_any (w:World) (ps:List Int) (g2 g3:Nat) (a0 al:Option Addr) (c0 cl:Nat) (LL:List (List Rat)) (S:SortAt w ps g2 g3 a0 al c0 cl LL) (O:SortOk ps LL) (i j:Nat) (hi:i < LL.length) (hj:j < LL.length) (L:Laid w) :
  Gives Tryz.prog 93 #[.int .i64 i,.int .i64 j,.pointer (some ⟨g2,0,none⟩),.pointer (some ⟨g3,0,none⟩)] w (.int .i64 (cS ps LL i j)):=by
 unfold Gives
 have e:sumQ ps.length [LL.getD i [],LL.getD j []] [1,-1]=difQ (LL.getD i []) (LL.getD j []):=by
  rw [sumQ_two _ _ _ _ _ (O.len _ (getD_memL hi)) (O.len _ (getD_memL hj))]
  unfold difQ
  rw [rat_one_int,rat_mone_int]
 obtain ⟨b,off,rfl,hb,hcells⟩:∃ b off,al=some ⟨b,off,none⟩∧b < w.heap.size∧∀ i,i < LL.length→∃ a' c',w.cell? ⟨b,off + i,none⟩=some (.slice a' ps.length c')∧Rd w a' (cellsQ (LL.getD i [])):=by
  rcases S.rl with h | ⟨b,off,h1,h2,h3⟩
  ·have:=congrArg List.length h
   simp at this
   rw [this] at hi
   simp at hi
  ·refine ⟨b,off,h1,h2,fun i hi=>?_⟩
   obtain ⟨a',c',k1,k2⟩:=h3 i (by simpa using hi)
   have e:(LL.map (List.map qs)).getD i []=(LL.getD i []).map qs:=by
    rw [List.getD_eq_getElem?_getD,List.getD_eq_getElem?_getD,List.getElem?_map]
    cases LL[i]? <;> rfl
   rw [e] at k1 k2
   rw [List.length_map,O.len _ (getD_memL hi)] at k1
   exact ⟨a',c',k1,k2⟩
 obtain ⟨a1,c1,k1,r1⟩:=hcells i hi
 obtain ⟨a2,c2,k2,r2⟩:=hcells j hj
 have HC:Hid (∀ W,Below w.heap.size w W→Gives Tryz.prog 64 #[.slice a0 ps.length c0,.slice a1 ps.length c1,.slice a2 ps.length c2] W (.int .i64 (cS ps LL i j))):=fun W hW=>by
  have h:=compare_dec W ps a0 a1 a2 c0 c1 c2 30 _ _ ⟨S.rp.below hW nr_,r1.below hW nr_,O.len _ (getD_memL hi),O.n,O.pr,O.sm _ (getD_memL hi),by decide⟩ ⟨S.rp.below hW nr_,r2.below hW nr_,O.len _ (getD_memL hj),O.n,O.pr,O.sm _ (getD_memL hj),by decide⟩ (L.below hW) (by decide)
   (by rw [e]; exact O.good _ (getD_memL hi) _ (getD_memL hj))
  rw [e,O.len _ (getD_memL hi),O.len _ (getD_memL hj)] at h
  unfold cS
  rw [if_pos ⟨hi,hj⟩]
  exact h
 have m2:=(one_cell S.h2).1
 have m3:=(one_cell S.h3).1
 have q1:=BW.cell k1
 have q2:=BW.cell k2
 have q3:=BW.cell m2
 have q4:=BW.cell m3
 have hnon:Nonempty (BW w):=⟨⟨w,Below.refl _ _⟩⟩
 have I:Hid (Below w.heap.size w w.drew):=(Below.refl _ _).drew
 have hi':(i:Int) < LL.length:=by omega
 have hj':(j:Int) < LL.length:=by omega
 clear S O L e hcells r1 r2 hb
 generalize cS ps LL i j=z at *
 generalize LL.length=m at *
 generalize ps.length=n at *
 go_enter Tryz.func93,Tryz.ntmps93
 go_wp2_with fail
 clear k1 k2 m2 m3
 refine RX.wp_region_readers 9 [(1,0),(1,1),(1,2),(1,3),(1,4),(1,5),(1,6),(1,7),(1,8),(0,9),(0,10)] (fun w'=>∃ p:BW w,w'=p.w) (by kernel_rfl) (by kernel_rfl) ?_ ?_
 ·exact ⟨⟨_,I.out⟩,rfl⟩
 iterate 9 (refine RX.walkR_read ?_; simp only [dsc_,dz_,tsc_,tz_]; go_big_quiet_step (fail); refine wpQuiet_nil ?_)
 clear hnon q1 q2 q3 q4
 refine RX.walkR_move ?_
 simp only [dsc_,dz_,tsc_,tz_]
 go_wp2_with fail
 refine Calls.mono (HC.out _ I.out) ?_
 rintro e_ w2 ⟨rfl,hb_⟩
 have B2:=Lib.hid (I.out.trans (hb_.mono I.out.size))
 clear hb_ I HC
 go_wp2_with fail
 refine RX.walkR_move ?_
 simp only [dsc_,dz_,tsc_,tz_]
 go_wp2_with fail
 simp only [RX.walkR]
 go_wp2_with fail
 go_ret
 exact ⟨rfl,B2.out⟩
set_option maxHeartbeats 4000000 in
theorem stable_any (w:World) (B g n cap:Nat) (P2 P3:Value) (c:Nat→Nat→Int) (hc:∀ u v,c v u = - c u v) (hb:∀ u v,-1≤c u v∧c u v≤1) (hB:B≤g) (hn:n≤19) (hrow:RowF w g n fun k=>k)
  (hcmp:∀ W,Below B w W→∀ i j:Nat,i < n→j < n→Gives Tryz.prog 93 #[.int .i64 i,.int .i64 j,P2,P3] W (.int .i64 (c i j))) :
  Calls Tryz.prog 92 #[.slice (some ⟨g,0,none⟩) n cap,.func (.func 93) #[] #[P2,P3]] w fun e w'=>e = .returned (.tuple #[])∧∃ F,Fin' c n F∧RowF w' g n F∧Below B w w':=by
 have Hi:=Lib.hid (insertion_any w B g n cap P2 P3 c hc hb hB (by omega) hrow hcmp)
 clear hc hb hrow hcmp
 have hn1:¬ (20:Int)≤n:=by omega
 have hn2:¬ (20:Int) < n:=by omega
 have H2:Hid (Calls Tryz.prog 127 #[.slice (some ⟨g,0,none⟩) n cap,.int .i64 n,.func (.func 93) #[] #[P2,P3]] w fun e w'=>e = .returned (.tuple #[])∧∃ F,Fin' c n F∧RowF w' g n F∧Below B w w'):=by
  show Calls _ _ _ _ _
  go_enter Tryz.func127,Tryz.ntmps127
  go_wp2_with fail
  refine wp_loop_rounds 1 ?_
  rw [rounds_succ]
  go_wp2_with fail
  refine Calls.mono Hi.out ?_
  rintro e w1 ⟨rfl,F,hF,hR,hb⟩
  have HF:=Lib.hid hF
  have HR:=Lib.hid hR
  have HB:=Lib.hid hb
  clear hF hR hb Hi
  go_wp2_with fail
  refine wp_loop_rounds 1 ?_
  rw [rounds_succ]
  go_wp2
  go_end0
  exact ⟨rfl,F,HF.out,HR.out,HB.out⟩
 clear Hi
 go_enter Tryz.func92,Tryz.ntmps92
 go_wp2_with fail
 refine Calls.mono H2.out ?_
 rintro e w1 ⟨rfl,F,hF,hR,hb⟩
 have HF:=Lib.hid hF
 have HR:=Lib.hid hR
 have HB:=Lib.hid hb
 clear hF hR hb H2
 go_wp2_with fail
 go_end0
 exact ⟨rfl,F,HF.out,HR.out,HB.out⟩
set_option maxHeartbeats 4000000 in
theorem stable_nil (w:World) (P2 P3:Value):Calls Tryz.prog 92 #[.slice none 0 0,.func (.func 93) #[] #[P2,P3]] w fun e w'=>e = .returned (.tuple #[])∧w'=w:=by
 have H1:Hid (Calls Tryz.prog 150 #[.slice none 0 0,.int .i64 0,.int .i64 0,.func (.func 93) #[] #[P2,P3]] w fun e w'=>e = .returned (.tuple #[])∧w'=w):=by
  show Calls _ _ _ _ _
  go_enter Tryz.func150,Tryz.ntmps150
  go_wp2_with fail
  refine wp_loop_rounds 1 ?_
  rw [rounds_succ]
  go_wp2
  go_end0
  exact ⟨rfl,rfl⟩
 have H2:Hid (Calls Tryz.prog 127 #[.slice none 0 0,.int .i64 0,.func (.func 93) #[] #[P2,P3]] w fun e w'=>e = .returned (.tuple #[])∧w'=w):=by
  show Calls _ _ _ _ _
  go_enter Tryz.func127,Tryz.ntmps127
  go_wp2_with fail
  refine wp_loop_rounds 1 ?_
  rw [rounds_succ]
  go_wp2_with fail
  refine Calls.mono H1.out ?_
  rintro e w1 ⟨rfl,rfl⟩
  go_wp2_with fail
  refine wp_loop_rounds 1 ?_
  rw [rounds_succ]
  go_wp2
  go_end0
  exact ⟨rfl,rfl⟩
 clear H1
 go_enter Tryz.func92,Tryz.ntmps92
 go_wp2_with fail
 refine Calls.mono H2.out ?_
 rintro e w1 ⟨rfl,rfl⟩
 go_wp2_with fail
 go_end0
 exact ⟨rfl,rfl⟩
end Go.Proofs.YtlomhfknmhaboaaGreatDoor

namespace Go.Proofs.YtlomhfknmhaboaaGreatDoor
open Go.RowKit
def idL (j:Nat):List Int:=(List.range j).map fun (k:Nat)=>(k:Int)
theorem idL_length (j:Nat):(idL j).length=j:=by simp [idL]
theorem idL_succ (j:Nat):idL (j + 1)=idL j ++ [(j:Int)]:=by simp [idL,List.range_succ]
theorem RowF.rd {W:World} {g n:Nat} {F:Nat→Nat} (h:RowF W g n F):Rd W (some ⟨g,0,none⟩) (ints ((List.range n).map fun (k:Nat)=>((F k:Nat):Int))):=by
 refine .inr ⟨g,0,rfl,h.lt,fun i v hv=>?_⟩
 rw [Nat.zero_add]
 have hi:i < n:=by
  have:=(List.getElem?_eq_some_iff.1 hv).1
  simpa [ints_length] using this
 rw [ints_get _ i (by simpa using hi)] at hv
 cases hv
 rw [h.cell i hi]
 simp
set_option maxRecDepth 100000 in
set_option maxHeartbeats 16000000 in
theorem Sort_ok (w:World) (ps:List Int) (a0 al:Option Addr) (c0 cl:Nat) (LL:List (List Rat)) (rp:Rd w a0 (ints ps)) (rl:RdL w al (LL.map (List.map qs))) (O:SortOk ps LL) (hm:LL.length≤19) (L:Laid w) :
  Calls Tryz.prog 47 #[.slice a0 ps.length c0,.slice al LL.length cl] w fun e w'=>∃ a c F,e = .returned (.tuple #[.slice a LL.length c,.int .i64 0])∧Fin' (cS ps LL) LL.length F∧Rd w' a (ints ((List.range LL.length).map fun (k:Nat)=>((F k:Nat):Int)))∧Below w.heap.size w w':=by
 have hn:=O.n
 have hi:I64s ps:=fun x hx=>by have:=O.pr x hx; omega
 have Hc:Hid (∀ W,Below w.heap.size w W→Gives Tryz.prog 52 #[.slice a0 ps.length c0,.slice al LL.length cl] W (.int .i64 0)):=fun W hW=>by
  have h:=checkAll_any W a0 al c0 cl ps (LL.map (List.map qs)) (rp.below hW nr_) hi (by omega) (rl.below hW nr_) (by rw [List.length_map]; omega) (fun l hl=>by
   obtain ⟨x,hx,rfl⟩:=List.mem_map.1 hl
   exact ⟨by rw [List.length_map,O.len x hx]; omega,ssz_ok (O.sm x hx)⟩) (L.below hW)
  rw [lcode_ok O.p0 fun l hl=>⟨O.len l hl,O.sm l hl⟩,List.length_map] at h
  exact h
 have HL:=Lib.hid L
 have HO:=Lib.hid O
 have Hrp:=Lib.hid rp
 have Hrl:=Lib.hid rl
 clear L O rp rl hi
 have B0:=Lib.hid ((((Below.refl w.heap.size w).alloc nr_ (.cells #[.slice a0 ps.length c0] 26)).alloc (by simp) (.cells #[.slice al LL.length cl] 33)))
 have K2:=Lib.hid (heap_old (heap_at w #[.slice a0 ps.length c0] 26 _ rfl) (.cells #[.slice al LL.length cl] 33))
 have K3:=Lib.hid (heap_at (w.alloc (.cells #[.slice a0 ps.length c0] 26)) #[.slice al LL.length cl] 33 (w.heap.size + 1) (by simp))
 have S0:Hid (SortAt ((w.alloc (.cells #[.slice a0 ps.length c0] 26)).alloc (.cells #[.slice al LL.length cl] 33)) ps w.heap.size (w.heap.size + 1) a0 al c0 cl LL) :=
  ⟨K2.out,K3.out,Hrp.out.below B0.out nr_,Hrl.out.below B0.out nr_⟩
 clear K2 K3 Hrp Hrl
 have m2:=(one_cell S0.out.h2).1
 have m3:=(one_cell S0.out.h3).1
 obtain ⟨m,hmm⟩:∃ m,LL.length=m:=⟨_,rfl⟩
 obtain ⟨n,hnn⟩:∃ n,ps.length=n:=⟨_,rfl⟩
 rw [hmm] at hm
 simp only [hmm,hnn] at Hc B0 S0 m2 m3 ⊢
 have Hm:=Lib.hid hmm
 clear hmm hnn hn
 go_enter Tryz.func47,Tryz.ntmps47
 go_wp2_with fail
 generalize (w.alloc (.cells #[.slice a0 n c0] 26)).alloc (.cells #[.slice al m cl] 33)=w0 at *
 clear m2 m3
 refine Calls.mono (Hc.out _ B0.out) ?_
 rintro e w2 ⟨rfl,hb⟩
 have B2:=Lib.hid (B0.out.trans (hb.mono B0.out.size))
 have S2:=Lib.hid (S0.out.below hb nr_)
 clear hb B0 S0 Hc
 have m3:=(one_cell S2.out.h3).1
 rw [Hm.out] at m3
 go_wp2_with fail
 clear m3
 go_loopw [7,17] (fun o z wr=>∃ (j:Nat) (a:Option Addr) (c:Nat),j≤m∧z = .int .i64 j∧o = .slice a j c∧Hid (j=0→a=none∧c=0)∧Hid (wr.ownsRow w2.heap.size 3 1 (.slice a j c) j (ints (idL j)))∧Hid (Below w2.heap.size w2 wr)) (fun _ z _=>m - (intOf z).toNat)
 case atStart=>exact ⟨0,none,0,Nat.zero_le _,rfl,rfl,fun _=>⟨rfl,rfl⟩,World.ownsRow_nil ..,Below.refl _ _⟩
 case round =>
  obtain ⟨j,a,c,hj,rfl,rfl,HN,HR,HB⟩:=hrel
  by_cases hlt:j < m
  ·have hlt':(j:Int) < m:=by omega
   go_wp2_with (at_builtin; refine wpList_append_new rfl (.tmp 20) (.tmp 22) 25 rfl elIntS _ 1 [.int .i64 j] rfl rfl HR.out HB.out.size rfl ?c1 (by omega) (by omega) ?_)
   case c1=>first | rfl | (intro u hu; obtain rfl:=List.mem_singleton.1 hu; rfl)
   intro v' w3 hown3 hg3 _
   obtain ⟨a3,c3,rfl⟩:=own_form hown3
   have HB3:Hid (Below w2.heap.size w2 w3):=(HB.out.alloc HB.out.size _).grown hg3 (by have:=HB.out.size; simp; omega) (fun k hk=>(HR.out.lt k hk).1)
   have HR3:Hid (w3.ownsRow w2.heap.size 3 1 (.slice a3 (j + 1) c3) (j + 1) (ints (idL (j + 1)))):=by
    rw [idL_succ,ints_append]
    exact hown3
   clear hown3 hg3 HB HR HN
   go_wp2
   go_roundw
   case rel=>exact ⟨j + 1,a3,c3,by omega,by go_num,rfl,fun h=>by omega,HR3,HB3⟩
   case measure=>simp [intOf]; omega
  ·have hlt':¬ (j:Int) < m:=by omega
   obtain rfl:j=m:=by omega
   have SR:=Lib.hid (S2.out.below HB.out nr_)
   rcases Nat.eq_zero_or_pos j with h0 | h0
   ·subst h0
    obtain ⟨rfl,rfl⟩:=HN.out rfl
    have Hs:=Lib.hid (stable_nil wr (.pointer (some ⟨w.heap.size,0,none⟩)) (.pointer (some ⟨w.heap.size + 1,0,none⟩)))
    clear HN HR
    go_wp2_with fail
    refine Calls.mono Hs.out ?_
    rintro e w4 ⟨rfl,rfl⟩
    clear Hs
    go_wp2_with fail
    go_ret2
    exact ⟨none,0,fun k=>k,rfl,⟨fun k hk=>absurd hk (Nat.not_lt_zero _),fun k _ hk=>absurd hk (Nat.not_lt_zero _),fun k hk=>absurd hk (Nat.not_lt_zero _)⟩,.inl rfl,B2.out.trans (HB.out.mono B2.out.size)⟩
   ·obtain ⟨g,cap,hv,hg1,hg2,hg3,hg4,hg5⟩:=own_open HR.out h0
    obtain ⟨rfl,rfl⟩:a=some ⟨g,0,none⟩∧c=cap:=by
     simp only [Value.slice.injEq] at hv
     exact ⟨hv.1,hv.2.2⟩
    have hrow:RowF wr g j fun k=>k:=⟨hg2,fun k hk=>by
     rw [hg4 k (by omega),ints_get _ k (by rw [idL_length]; exact hk)]
     simp [idL],hg5⟩
    have Hs:=Lib.hid (stable_any wr w2.heap.size g j c (.pointer (some ⟨w.heap.size,0,none⟩)) (.pointer (some ⟨w.heap.size + 1,0,none⟩)) (cS ps LL) (cS_neg HO.out) (cS_le HO.out) hg1 hm hrow fun W hW i k hi hk =>
     srt1_any W ps _ _ a0 al c0 cl LL (S2.out.below (HB.out.trans hW) nr_) HO.out i k (by rw [Hm.out]; exact hi) (by rw [Hm.out]; exact hk) (HL.out.below ((B2.out.trans (HB.out.mono B2.out.size)).trans (hW.mono B2.out.size))))
    clear HN HR hv hg1 hg2 hg3 hg4 hg5 hrow
    go_wp2_with fail
    refine Calls.mono Hs.out ?_
    rintro e w4 ⟨rfl,F,hF,hR,hb⟩
    have HF:=Lib.hid hF
    have HR:=Lib.hid hR
    have HB4:=Lib.hid (HB.out.trans hb)
    clear Hs hF hR hb
    go_wp2_with fail
    go_ret2
    exact ⟨some ⟨g,0,none⟩,c,F,rfl,HF.out,HR.out.rd,B2.out.trans (HB4.out.mono B2.out.size)⟩
end Go.Proofs.YtlomhfknmhaboaaGreatDoor

namespace Go.Proofs.YtlomhfknmhaboaaGreatDoor
open Go.RowKit
def refQuickV (s:ByteArray):Value:=if s.size≤18 then .tuple #[.int .u64 (dval (lb s)),.bool true] else .tuple #[.int .u64 0,.bool false]
theorem dval_take_lt18 {l:List UInt8} (h:Digs l) (t:Nat) (ht:t≤18):dval (l.take t) < 1000000000000000000:=by
 have h1:=dval_lt (h.take t)
 have h2:10 ^ (l.take t).length≤10 ^ 18:=Nat.pow_le_pow_right (by decide) (by simp; omega)
 exact Nat.lt_of_lt_of_le h1 h2
set_option maxRecDepth 100000 in
set_option maxHeartbeats 4000000 in
theorem refQuick_any (w:World) (s:ByteArray) (hd:Digs (lb s)) (hl:s.size≤10000000) :
  Gives Tryz.prog 111 #[.string s] w (refQuickV s):=by
 unfold Gives
 have Hlb:=Lib.hid (lb_length s)
 have Hd:=Lib.hid hd
 clear hd
 by_cases h:s.size≤18
 ·have Hv:Hid (refQuickV s = .tuple #[.int .u64 (dval (lb s)),.bool true]):=by show _=_; unfold refQuickV; rw [if_pos h]
  have h':¬ (18:Int) < s.size:=by omega
  generalize refQuickV s=vv at *
  go_enter Tryz.func111,Tryz.ntmps111
  go_wp2_with fail
  go_loop [4,5] (fun n i=>∃ t:Nat,t≤s.size∧i = .int .i64 t∧n = .int .u64 (dval ((lb s).take t):Nat)) (fun _ i=>s.size - (intOf i).toNat)
  case atStart=>exact ⟨0,Nat.zero_le _,rfl,rfl⟩
  case round =>
   obtain ⟨t,ht,rfl,rfl⟩:=hrel
   have hD:=dval_take_lt18 Hd.out t (by omega)
   by_cases hlt:t < s.size
   ·have hlt':(t:Int) < s.size:=by omega
    have hts:=dval_take_succ (lb s) t (by rw [Hlb.out]; exact hlt)
    have hcd:=Hd.out ((lb s).getD t 0) (by rw [List.getD_eq_getElem?_getD,List.getElem?_eq_getElem (by rw [Hlb.out]; exact hlt)]; exact List.getElem_mem _)
    have hg:(lb s).getD t 0=s[t]'hlt:=by
     rw [List.getD_eq_getElem?_getD,List.getElem?_eq_getElem (by rw [Hlb.out]; exact hlt)]; rfl
    rw [hg] at hts hcd
    clear hg
    have Hts:=Lib.hid hts
    clear hts
    generalize dval ((lb s).take t)=D at *
    generalize hbb:(s[t]'hlt).toNat=b at *
    obtain ⟨hc1,hc2⟩:=hcd
    go_wp2
    go_round
    case rel=>exact ⟨t + 1,by omega,by go_num,by rw [Hts.out]; congr 1; omega⟩
    case measure=>simp [intOf]; omega
   ·have hlt':¬ (t:Int) < s.size:=by omega
    have hts:t=s.size:=by omega
    have Hf:Hid (dval ((lb s).take t)=dval (lb s)):=by
     show _=_
     rw [hts,← Hlb.out,List.take_length]
    rw [Hf.out]
    generalize dval (lb s)=D at *
    go_wp2
    go_ret2
    exact ⟨by rw [Hv.out]; rfl,Below.refl _ _⟩
 ·have Hv:Hid (refQuickV s = .tuple #[.int .u64 0,.bool false]):=by show _=_; unfold refQuickV; rw [if_neg h]
  have h':(18:Int) < s.size:=by omega
  generalize refQuickV s=vv at *
  go_enter Tryz.func111,Tryz.ntmps111
  go_wp2_with fail
  go_ret2
  exact ⟨by rw [Hv.out]; rfl,Below.refl _ _⟩
end Go.Proofs.YtlomhfknmhaboaaGreatDoor

namespace Go.Proofs.YtlomhfknmhaboaaGreatDoor
open Go.RowKit
def RowB (W:World) (g:Nat) (t:TypeId) (D:List UInt8):Prop:=W.rowIs g t D.length (fun i => .int .u8 ((D.getD i 0).toNat:Nat))
theorem RowB.cell {W:World} {g:Nat} {t:TypeId} {D:List UInt8} (h:RowB W g t D) {i:Nat} (hi:i < D.length):W.cell? ⟨g,i,none⟩=some (.int .u8 ((D.getD i 0).toNat:Nat)):=World.rowIs.cell h hi
theorem RowB.frozen {W:World} {g:Nat} {t:TypeId} {D:List UInt8} (h:RowB W g t D) (i:Nat):W.frozen? ⟨g,i,none⟩=false:=World.rowIs.frozen h i
theorem RowB.set {W:World} {g:Nat} {t:TypeId} {D:List UInt8} (h:RowB W g t D) (i x:Nat) (hx:x < 256):RowB (W.setCell ⟨g,i,none⟩ (.int .u8 (x:Nat))) g t (D.set i (UInt8.ofNat x)):=by
 unfold RowB
 rw [List.length_set]
 refine (World.rowIs.set h i _).congr fun j hj=>?_
 by_cases e:j=i
 ·subst e
  rw [if_pos rfl]
  simp only [List.getD_eq_getElem?_getD,List.getElem?_set]
  simp only [if_true,if_pos hj,Option.getD_some]
  simp [Nat.mod_eq_of_lt hx]
 ·rw [if_neg e]
  simp only [List.getD_eq_getElem?_getD,List.getElem?_set]
  rw [if_neg (fun h=>e h.symm)]
theorem RowB.text {W:World} {g:Nat} {t src dst e:TypeId} {D:List UInt8} (h:RowB W g t D) (k n c:Nat) (hn:k + n=D.length)
  (hs:Tryz.prog.underlying src=some (.slice e)) (he:Tryz.prog.underlying e=some (.int .u8)) (hd:Tryz.prog.underlying dst=some .string) :
  (convert src dst (.slice (some ⟨g,k,none⟩) n c)).run Tryz.prog W = .ok (.string ⟨(D.drop k).toArray⟩) W:=by
 have hl:(D.drop k).length=n:=by simp; omega
 rw [← hl]
 refine run_convert_bytes_back W src dst e ⟨g,k,none⟩ c (D.drop k) hs he hd fun j hj=>?_
 rw [Lib.add_plain]
 rw [RowB.cell h (by omega)]
 rw [List.getD_eq_getElem?_getD,List.getElem?_eq_getElem (by omega)]
 simp
theorem pad_dec {N j:Nat} (hj:j=0∨10 ^ j≤N) (h:N < 10 ^ (j + 1)):(pad (j + 1) N).reverse=Lib.decDigits N:=by
 have e:pad (j + 1) N=le N:=by
  rcases Nat.eq_zero_or_pos N with h0 | h0
  ·subst h0
   rcases hj with rfl | hj
   ·rw [le_small (by omega)]; rfl
   ·have:=Nat.pow_pos (n:=j) (show 0 < 10 by decide); omega
  ·refine pad_le _ _ h0 h ?_
   rw [Nat.add_sub_cancel]
   rcases hj with rfl | hj
   ·simp; omega
   ·exact hj
 rw [e]; unfold le; rw [List.reverse_reverse]
theorem drop_set_pad {D:List UInt8} {k j N:Nat} (hl:D.length=20) (hk:k + 1 + j=20) (h:D.drop (k + 1)=(pad j N).reverse) :
  (D.set k (UInt8.ofNat (48 + N / 10 ^ j % 10))).drop k=(pad (j + 1) N).reverse:=by
 rw [pad_succ,List.reverse_append,← h]
 rw [List.drop_eq_getElem_cons (by simp; omega)]
 simp [List.drop_set]
structure OfAt (N j:Nat) (w wr:World):Prop where
 bel:Below w.heap.size w wr
 row:∃ D:List UInt8,RowB wr w.heap.size 141 D∧D.length=20∧D.drop (20 - j)=(pad j N).reverse
set_option maxRecDepth 100000 in
set_option maxHeartbeats 4000000 in
theorem refOf_any (w:World) (N:Nat) (hN:N < 18446744073709551616) :
  Gives Tryz.prog 71 #[.int .u64 N] w (.string (dec N)):=by
 unfold Gives
 have Hd:Hid (dec N=⟨(Lib.decDigits N).toArray⟩):=rfl
 go_enter Tryz.func71,Tryz.ntmps71
 go_wp2_with fail
 go_loopw [0,4] (fun n k wr=>∃ j kk:Nat,kk + j=20∧n = .int .u64 (N / 10 ^ j:Nat)∧k = .int .i64 kk∧(j=0∨10 ^ j≤N)∧Hid (OfAt N j w wr)) (fun _ k _=>(intOf k).toNat)
 case atStart =>
  refine ⟨0,20,rfl,by simp,rfl,.inl rfl,⟨(Below.refl _ _).alloc nr_ _,List.replicate 20 0,?_,by simp,by simp [pad]⟩⟩
  exact World.rowIs_alloc w _ _ _ (fun i hi=>by
   have hi':i < 20:=hi
   clear hi
   iterate 20 (rcases i with _ | i; · rfl)
   omega)
 case round =>
  obtain ⟨j,kk,hkk,rfl,rfl,hj,HX⟩:=hrel
  have hj20:j < 20:=by
   rcases hj with rfl | hj
   ·omega
   ·refine Nat.lt_of_not_le fun h=>?_
    have:=Nat.pow_le_pow_right (n:=10) (by decide) h
    omega
  obtain ⟨k,rfl⟩:∃ k,kk=k + 1:=⟨kk - 1,by omega⟩
  obtain ⟨D,hD,hDl,hDd⟩:=HX.out.row
  have hc:=hD.cell (i:=k) (by omega)
  have hz:=hD.frozen k
  have Hdd:Hid (N / 10 ^ j / 10=N / 10 ^ (j + 1)):=by show _=_; rw [Nat.div_div_eq_div_mul,Nat.pow_succ]
  have hy:N / 10 ^ j < 18446744073709551616:=Nat.lt_of_le_of_lt (Nat.div_le_self _ _) hN
  have HD:=Lib.hid hD
  have Hnew:=Lib.hid (drop_set_pad hDl hkk (by rw [← hDd]; congr 1; omega))
  have Hpd:Hid (N / 10 ^ (j + 1)=0→(pad (j + 1) N).reverse=Lib.decDigits N):=fun h=>pad_dec hj (by
   rcases Nat.lt_or_ge N (10 ^ (j + 1)) with h' | h'
   ·exact h'
   ·have:=Nat.div_pos h' (Nat.pow_pos (by decide)); omega)
  have Hj1:Hid (N / 10 ^ (j + 1)≠0→10 ^ (j + 1)≤N):=fun h=>by
   rcases Nat.lt_or_ge N (10 ^ (j + 1)) with h' | h'
   ·exact absurd (Nat.div_eq_of_lt h') h
   ·exact h'
  have Hset:=Lib.hid fun x hx=>hD.set k x hx
  have hsl:∀ W,(Instr.sliceAt 141 (.pointer (some ⟨w.heap.size,0,none⟩)) (some (.int .i64 (k:Int))) none none).run Tryz.prog W = .ok (.slice (some ⟨w.heap.size,k,none⟩) (20 - k) (20 - k)) W:=fun W=>by
   have e20:Tryz.prog.arrayLen 141=20:=by simp [Program.arrayLen,Tryz.underlying141]
   rw [run_sliceAt_array_l W 141 ⟨w.heap.size,0,none⟩ (by simp [Program.arrayLen,Program.elem,Tryz.underlying141]) .i64 (k:Int) (by omega) (by rw [e20]; omega)]
   have eE:Tryz.prog.elem 141=5:=by simp [Program.elem,Tryz.underlying141]
   rw [eE]
   go_simp
   omega
  clear hD hDd hj
  generalize N / 10 ^ j=y at *
  obtain ⟨z,hzz⟩:∃ z,z=N / 10 ^ (j + 1):=⟨_,rfl⟩
  rw [← hzz] at Hdd Hpd Hj1
  have Hzz:=Lib.hid hzz
  clear hzz
  have hD1:=Hset.out (48 + y % 10) (by omega)
  have ev:((48 + y % 10:Nat):Int)=48 + (y:Int) % 10:=by omega
  rw [ev] at hD1
  have hb1:Below w.heap.size w (wr.setCell ⟨w.heap.size,k,none⟩ (.int .u8 (48 + (y:Int) % 10))):=HX.out.bel.setCell nr_ _
  have hcv:=hD1.text (src:=142) (dst:=28) (e:=5) k (20 - k) (20 - k) (by simp; omega) Tryz.underlying142 Tryz.underlying5 Tryz.underlying28
  rw [Hnew.out] at hcv
  have Hb1:=Lib.hid hb1
  have HD1:=Lib.hid hD1
  clear hD1 hb1
  by_cases hz0:z=0
  ·have hy0:((y:Int) / 10 == 0)=true:=by have:=Hdd.out; rw [beq_iff_eq]; omega
   rw [Hpd.out hz0] at hcv
   have Hcv:=Lib.hid hcv
   go_wp2
   go_ret
   exact ⟨by rw [Hd.out]; rfl,Hb1.out⟩
  ·have hy0:((y:Int) / 10 == 0)=false:=by have:=Hdd.out; rw [beq_eq_false_iff_ne]; omega
   clear hcv
   go_wp2
   go_roundw
   case rel=>exact ⟨j + 1,k,by omega,by rw [← Hzz.out,← Hdd.out]; simp,rfl,.inr (Hj1.out hz0),Hb1.out,_,HD1.out,by simp; omega,by rw [← Hnew.out]; congr 1; omega⟩
   case measure=>simp [intOf]
end Go.Proofs.YtlomhfknmhaboaaGreatDoor

namespace Go.Proofs.YtlomhfknmhaboaaGreatDoor
open Go.RowKit
def jn (L:List ByteArray):ByteArray:=⟨(Lib.join (L.map (·.data.toList)) [32]).toArray⟩
theorem jn_one (x:ByteArray):jn [x]=x:=by
 unfold jn
 rw [List.map_cons,List.map_nil,Lib.join_one]
theorem jn_snoc {L:List ByteArray} (x:ByteArray) (h:L≠[]):jn (L ++ [x])=jn L ++ ⟨#[32]⟩ ++ x:=by
 match L,h with
 | y :: r,_ =>
  refine ByteArray.ext ?_
  simp only [jn,List.cons_append,List.map_cons,List.map_append,List.map_nil,Lib.join_cons,ByteArray.data_append]
  apply Array.ext'
  simp [Lib.joinTail]
theorem jn_pos:∀ {L:List ByteArray},L≠[]→(∀ x∈L,0 < x.size)→0 < (jn L).size
 | [],h,_=>absurd rfl h
 | [x],_,h=>by rw [jn_one]; exact h x List.mem_cons_self
 | x :: y :: r,_,h=>by
  have h1:=h x List.mem_cons_self
  have e:(x :: y :: r:List ByteArray)=(x :: y :: r).dropLast ++ [(x :: y :: r).getLast (by simp)]:=(List.dropLast_concat_getLast (by simp)).symm
  rw [e,jn_snoc _ (by simp),ByteArray.size_append,ByteArray.size_append]
  show 0 < _ + 1 + _
  omega
theorem txP_pos (p:Int) (q:Rat):0 < (txP p q).size:=by
 have h:0 < (itx p).size:=by
  rcases Int.eq_nat_or_neg p with ⟨n,rfl | rfl⟩
  ·rw [itx_nat,dec_size]; exact dec_pos n
  ·have h1:=itx_size_ge (-(n:Int))
   have h2:=dec_pos (-(n:Int)).natAbs
   rw [← dec_size] at h2
   omega
 unfold txP
 split
 ·exact h
 ·split <;> rw [ByteArray.size_append] <;> omega
theorem txL_pos (ps:List Int) (l:List Rat):∀ x∈txL ps l,0 < x.size:=by
 intro x hx
 unfold txL at hx
 obtain ⟨y,_,he⟩:=List.mem_filterMap.1 hx
 split at he
 ·cases he
 ·cases he; exact txP_pos _ _
theorem bz0 (x:ByteArray):(⟨#[]⟩:ByteArray) ++ x=x:=ByteArray.empty_append
theorem bz1:(⟨#[32]⟩:ByteArray).size=1:=rfl
theorem bz2:(⟨#[94]⟩:ByteArray).size=1:=rfl
theorem bz3:(⟨#[94,40]⟩:ByteArray).size=2:=rfl
theorem bz4:(⟨#[41]⟩:ByteArray).size=1:=rfl
set_option maxRecDepth 100000 in
set_option maxHeartbeats 4000000 in
theorem ltext_ok (w:World) (ps:List Int) (a0 a1:Option Addr) (c0 c1:Nat) (l:List Rat) (A:SizeOk w ps a0 a1 l 30) (L:Laid w) :
  Gives Tryz.prog 46 #[.slice a0 ps.length c0,.slice a1 ps.length c1] w (.string (txS ps l)):=by
 unfold Gives
 have HA:=Lib.hid A
 have HL:=Lib.hid L
 have hn:=A.n
 have Hpl:Hid (l.length=ps.length):=A.len
 have Hrp:=Lib.hid A.rp
 have Hrl:=Lib.hid A.rl
 have Hv:Hid (txS ps l=if (txL ps l).length=0 then ⟨#[49]⟩ else jn (txL ps l)):=Lib.hid rfl
 generalize txS ps l=vv at *
 clear A L
 generalize hnn:ps.length=n at *
 have Hn:=Lib.hid hnn
 clear hnn
 have Hfull:Hid (ps.take n=ps∧l.take n=l):=⟨by rw [← Hn.out,List.take_length],by rw [← Hpl.out,List.take_length]⟩
 go_enter Tryz.func46,Tryz.ntmps46
 go_wp2_with fail
 go_loopw [5,6] (fun o i wr=>∃ (k:Nat) (s:ByteArray),k≤n∧i = .int .i64 k∧o = .string s∧s.size≤300 * k∧Hid (s=jn (txL (ps.take k) (l.take k)))∧Hid (Below w.heap.size w wr)) (fun _ i _=>n - (intOf i).toNat)
 case atStart=>exact ⟨0,⟨#[]⟩,Nat.zero_le _,rfl,rfl,Nat.zero_le _,rfl,Below.refl _ _⟩
 case round =>
  obtain ⟨k,s,hk,rfl,rfl,hsz,HS,B⟩:=hrel
  by_cases hlt:k < n
  ·have hlt':(k:Int) < n:=by omega
   have hkp:k < ps.length:=by rw [Hn.out]; exact hlt
   have hkl:k < l.length:=by rw [Hpl.out]; exact hlt
   obtain ⟨bb,off,rfl,hb,hcells⟩:=Hrl.out.open (by rw [cellsQ_length]; omega)
   obtain ⟨x0,x1⟩:=cellsS_rd hcells k (by rw [List.length_map]; exact hkl)
   rw [qs_getD _ k hkl] at x0 x1
   obtain ⟨bp,op,rfl,hbp,hcp⟩:=Hrp.out.open (by rw [ints_length]; omega)
   have hcp0:w.cell? ⟨bp,op + k,none⟩=some (.int .i64 ps[k]):=hcp k _ (ints_get ps k hkp)
   have Hsucc:=Lib.hid (txL_succ ps l k hkp hkl)
   have hsm:=HA.out.sm _ (List.getElem_mem hkl)
   have hpr:=HA.out.pr _ (List.getElem_mem hkp)
   have Hpos:=Lib.hid (txL_pos (ps.take k) (l.take k))
   clear hcells hcp
   generalize l[k]=q at *
   generalize ps[k]=p at *
   obtain ⟨Q,rfl⟩:∃ Q:Nat,p=Q:=⟨p.toNat,by omega⟩
   have hQ:Q≤97:=by omega
   have HCE:Hid (∀ W,Below w.heap.size w W→W.cell? ⟨bb,off + k * 2,none⟩=some (.string (itx q.num))∧W.cell? ⟨bb,off + k * 2 + 1,none⟩=some (.string (dec q.den))):=fun W hW=>⟨(hW.cell (p:=⟨bb,off + k * 2,none⟩) hb).trans x0,(hW.cell (p:=⟨bb,off + k * 2 + 1,none⟩) hb).trans x1⟩
   have HCP:Hid (∀ W,Below w.heap.size w W→W.cell? ⟨bp,op + k,none⟩=some (.int .i64 Q)):=fun W hW=>(hW.cell (p:=⟨bp,op + k,none⟩) hbp).trans hcp0
   have HOf:=Lib.hid fun W=>refOf_any W Q (by omega)
   have Htx:Hid (∀ W:World,Gives Tryz.prog 90 #[fr q] W (.string (txQ q))):=fun W=>textR W q (hsm.le (by decide))
   have Hsg:Hid (∀ W:World,Gives Tryz.prog 25 #[fr q] W (.int .i64 q.num.sign)):=fun W=>signR W q
   have Hpt:Hid (∀ W,Below w.heap.size w W→Gives Tryz.prog 18 #[.int .i64 1,.int .i64 1] W (.agg #[.string (itx (1:Rat).num),.string (dec (1:Rat).den)])):=fun W hW=>by
    have h:=partR W 1 1 (by decide) (by decide) (by decide) (by decide) (HL.out.below hW)
    rw [show mkRat 1 1=1 by decide +kernel] at h
    exact h
   have ho:=is_one q.den
   have hs1:(dec Q).size≤100:=by have:=(size_lt Q 2 (by decide)).2 (by omega); omega
   have hs2:(txQ q).size≤100:=txQ_size hsm
   have Hit:Hid (itx (Q:Int)=dec Q):=itx_nat Q
   unfold txP at Hsucc
   rw [Hit.out] at Hsucc
   unfold fr fv at Htx Hsg
   clear x0 x1 hb hbp hcp0 hsm hpr Hit
   generalize txQ q=tx at *
   generalize dec Q=dq at *
   obtain ⟨y0,y1⟩:=HCE.out wr B.out
   go_wp2_with fail
   clear y0 y1
   refine Calls.mono (Hsg.out _) ?_
   rintro e w2 ⟨rfl,hb_⟩
   have B2:=Lib.hid (B.out.trans (hb_.mono B.out.size))
   clear hb_ B
   by_cases hq0:q.num=0
   ·rw [if_pos hq0,List.append_nil] at Hsucc
    rw [hq0]
    have e0:(0:Int).sign=0:=rfl
    clear hq0
    go_wp2_with fail
    go_roundw
    case rel=>exact ⟨k + 1,s,by omega,by go_num,rfl,by omega,by rw [Hsucc.out]; exact HS.out,B2⟩
    case measure=>simp [intOf]; omega
   ·have hsn:(q.num.sign == 0)=false:=by rw [beq_eq_false_iff_ne]; intro h; exact hq0 (Int.sign_eq_zero_iff_zero.1 h)
    have hsp:=@Int.sign_pos_iff q.num
    have hsb:=sign_cases q.num
    have hsl : -1≤q.num.sign∧q.num.sign≤1:=by omega
    rw [if_neg hq0] at Hsucc
    clear hsb hq0
    generalize hsgn:q.num.sign=sg at *
    clear hsgn
    by_cases hL:txL (ps.take k) (l.take k)=[]
    ·have es:s=⟨#[]⟩:=by rw [HS.out,hL]; rfl
     have HX:Hid (∀ x:ByteArray,jn (txL (ps.take k) (l.take k) ++ [x])=x):=fun x=>by rw [hL]; exact jn_one x
     subst es
     clear hL HS
     have hcp:=HCP.out w2 B2.out
     go_wp2_with fail
     clear hcp
     refine Calls.mono (HOf.out _) ?_
     rintro e_ w3 ⟨rfl,hb_⟩
     have B3:=Lib.hid (B2.out.trans (hb_.mono B2.out.size))
     clear hb_ B2 HOf
     obtain ⟨y0,y1⟩:=HCE.out w3 B3.out
     have q0:=BW.cell y0
     have q1:=BW.cell y1
     have hnon:Nonempty (BW w3):=⟨⟨w3,Below.refl _ _⟩⟩
     have I:Hid (Below w3.heap.size w3 w3.drew):=(Below.refl _ _).drew
     go_wp2_with fail
     clear y0 y1
     refine RX.wp_region_readers 6 [(1,0),(1,1),(1,2),(1,3),(0,4),(2,5),(0,6)] (fun w'=>∃ p:BW w3,w'=p.w) (by kernel_rfl) (by kernel_rfl) ?_ ?_
     ·exact ⟨⟨_,I.out⟩,rfl⟩
     iterate 4 (refine RX.walkR_read ?_; simp only [dsc_,dz_,tsc_,tz_]; go_big_quiet_step (fail); refine wpQuiet_nil ?_)
     clear hnon q0 q1
     refine RX.walkR_move ?_
     simp only [dsc_,dz_,tsc_,tz_]
     go_wp2_with fail
     refine Calls.mono (Hpt.out _ B3.out.drew) ?_
     rintro e_ w4 ⟨rfl,hb_⟩
     have D:Hid (Below w3.heap.size w3 w4):=I.out.trans (hb_.mono I.out.size)
     have B4:=Lib.hid (B3.out.trans (D.out.mono B3.out.size))
     clear hb_ I B3 Hpt
     go_wp2_with fail
     refine ⟨⟨⟨_,D.out⟩,rfl⟩,?_⟩
     refine RX.walkR_any ?_
     simp only [dsc_,dz_,tsc_,tz_]
     refine BigFrame.wpQuiet_want rfl fun K hK=>quiet_eqlQ _ _ _ q 1 rfl rfl rfl (hK _ ?_)
     refine wpQuiet_nil ?_
     refine RX.walkR_move ?_
     simp only [dsc_,dz_,tsc_,tz_]
     go_wp2_with fail
     simp only [RX.walkR]
     clear D
     by_cases hq1:q=1
     ·rw [decide_eq_true hq1]
      rw [if_pos hq1] at Hsucc
      clear hq1
      go_wp2_with fail
      go_roundw
      case rel=>exact ⟨k + 1,_,by omega,by go_num,rfl,by have:=bz1; have:=bz2; have:=bz3; have:=bz4; first | omega | (simp only [ByteArray.size_append]; omega),by rw [Hsucc.out,HX.out]; show _=_; first | rfl | exact bz0 _ | (simp only [ByteArray.append_assoc]; done) | (simp only [ByteArray.append_assoc]; exact bz0 _),B4⟩
      case measure=>simp [intOf]; omega
     ·rw [decide_eq_false hq1]
      rw [if_neg hq1] at Hsucc
      clear hq1
      obtain ⟨y0,y1⟩:=HCE.out w4 B4.out
      by_cases hd:q.den=1
      ·rw [decide_eq_true hd] at ho
       have Hd:=Lib.hid hd
       clear hd
       go_wp2_with fail
       clear y0 y1
       refine Calls.mono (Hsg.out _) ?_
       rintro e_ w5 ⟨rfl,hb_⟩
       have B5:=Lib.hid (B4.out.trans (hb_.mono B4.out.size))
       clear hb_ B4 
       obtain ⟨y0,y1⟩:=HCE.out w5 B5.out
       by_cases hp0:0 < q.num
       ·rw [if_pos ⟨Hd.out,hp0⟩] at Hsucc
        have hsg1:0 < sg:=hsp.2 hp0
        clear hp0 Hd hsp
        go_wp2_with fail
        clear y0 y1
        refine Calls.mono (Htx.out _) ?_
        rintro e_ w6 ⟨rfl,hb_⟩
        have B6:=Lib.hid (B5.out.trans (hb_.mono B5.out.size))
        clear hb_ B5 
        go_wp2_with fail
        go_roundw
        case rel=>exact ⟨k + 1,_,by omega,by go_num,rfl,by have:=bz1; have:=bz2; have:=bz3; have:=bz4; first | omega | (simp only [ByteArray.size_append]; omega),by rw [Hsucc.out,HX.out]; show _=_; first | rfl | exact bz0 _ | (simp only [ByteArray.append_assoc]; done) | (simp only [ByteArray.append_assoc]; exact bz0 _),B6⟩
        case measure=>simp [intOf]; omega
       ·rw [if_neg (fun h=>hp0 h.2)] at Hsucc
        have hsg1:¬ 0 < sg:=fun h=>hp0 (hsp.1 h)
        clear hp0 Hd hsp
        go_wp2_with fail
        clear y0 y1
        refine Calls.mono (Htx.out _) ?_
        rintro e_ w6 ⟨rfl,hb_⟩
        have B6:=Lib.hid (B5.out.trans (hb_.mono B5.out.size))
        clear hb_ B5 
        go_wp2_with fail
        go_roundw
        case rel=>exact ⟨k + 1,_,by omega,by go_num,rfl,by have:=bz1; have:=bz2; have:=bz3; have:=bz4; first | omega | (simp only [ByteArray.size_append]; omega),by rw [Hsucc.out,HX.out]; show _=_; first | rfl | exact bz0 _ | (simp only [ByteArray.append_assoc]; done) | (simp only [ByteArray.append_assoc]; exact bz0 _),B6⟩
        case measure=>simp [intOf]; omega
      ·rw [decide_eq_false hd] at ho
       rw [if_neg (fun h=>hd h.1)] at Hsucc
       clear hd
       go_wp2_with fail
       clear y0 y1
       refine Calls.mono (Htx.out _) ?_
       rintro e_ w5 ⟨rfl,hb_⟩
       have B5:=Lib.hid (B4.out.trans (hb_.mono B4.out.size))
       clear hb_ B4 
       go_wp2_with fail
       go_roundw
       case rel=>exact ⟨k + 1,_,by omega,by go_num,rfl,by have:=bz1; have:=bz2; have:=bz3; have:=bz4; first | omega | (simp only [ByteArray.size_append]; omega),by rw [Hsucc.out,HX.out]; show _=_; first | rfl | exact bz0 _ | (simp only [ByteArray.append_assoc]; done) | (simp only [ByteArray.append_assoc]; exact bz0 _),B5⟩
       case measure=>simp [intOf]; omega
    ·have hpos:=jn_pos hL Hpos.out
     rw [← HS.out] at hpos
     have hse:¬ s=ByteArray.empty:=fun e=>by rw [e] at hpos; exact absurd hpos (by decide)
     have hsi:s.toList.isEmpty=false:=by rw [ByteArray.toList_eq]; exact List.isEmpty_eq_false_iff.2 fun e=>hse (ByteArray.ext (Array.toList_inj.1 e))
     have HX:Hid (∀ x:ByteArray,jn (txL (ps.take k) (l.take k) ++ [x])=s ++ ⟨#[32]⟩ ++ x):=fun x=>by rw [jn_snoc x hL,← HS.out]
     clear hL HS hpos
     have hcp:=HCP.out w2 B2.out
     go_wp2_with fail
     clear hcp
     refine Calls.mono (HOf.out _) ?_
     rintro e_ w3 ⟨rfl,hb_⟩
     have B3:=Lib.hid (B2.out.trans (hb_.mono B2.out.size))
     clear hb_ B2 HOf
     obtain ⟨y0,y1⟩:=HCE.out w3 B3.out
     have q0:=BW.cell y0
     have q1:=BW.cell y1
     have hnon:Nonempty (BW w3):=⟨⟨w3,Below.refl _ _⟩⟩
     have I:Hid (Below w3.heap.size w3 w3.drew):=(Below.refl _ _).drew
     go_wp2_with fail
     clear y0 y1
     refine RX.wp_region_readers 6 [(1,0),(1,1),(1,2),(1,3),(0,4),(2,5),(0,6)] (fun w'=>∃ p:BW w3,w'=p.w) (by kernel_rfl) (by kernel_rfl) ?_ ?_
     ·exact ⟨⟨_,I.out⟩,rfl⟩
     iterate 4 (refine RX.walkR_read ?_; simp only [dsc_,dz_,tsc_,tz_]; go_big_quiet_step (fail); refine wpQuiet_nil ?_)
     clear hnon q0 q1
     refine RX.walkR_move ?_
     simp only [dsc_,dz_,tsc_,tz_]
     go_wp2_with fail
     refine Calls.mono (Hpt.out _ B3.out.drew) ?_
     rintro e_ w4 ⟨rfl,hb_⟩
     have D:Hid (Below w3.heap.size w3 w4):=I.out.trans (hb_.mono I.out.size)
     have B4:=Lib.hid (B3.out.trans (D.out.mono B3.out.size))
     clear hb_ I B3 Hpt
     go_wp2_with fail
     refine ⟨⟨⟨_,D.out⟩,rfl⟩,?_⟩
     refine RX.walkR_any ?_
     simp only [dsc_,dz_,tsc_,tz_]
     refine BigFrame.wpQuiet_want rfl fun K hK=>quiet_eqlQ _ _ _ q 1 rfl rfl rfl (hK _ ?_)
     refine wpQuiet_nil ?_
     refine RX.walkR_move ?_
     simp only [dsc_,dz_,tsc_,tz_]
     go_wp2_with fail
     simp only [RX.walkR]
     clear D
     by_cases hq1:q=1
     ·rw [decide_eq_true hq1]
      rw [if_pos hq1] at Hsucc
      clear hq1
      go_wp2_with fail
      go_roundw
      case rel=>exact ⟨k + 1,_,by omega,by go_num,rfl,by have:=bz1; have:=bz2; have:=bz3; have:=bz4; first | omega | (simp only [ByteArray.size_append]; omega),by rw [Hsucc.out,HX.out]; show _=_; first | rfl | exact bz0 _ | (simp only [ByteArray.append_assoc]; done) | (simp only [ByteArray.append_assoc]; exact bz0 _),B4⟩
      case measure=>simp [intOf]; omega
     ·rw [decide_eq_false hq1]
      rw [if_neg hq1] at Hsucc
      clear hq1
      obtain ⟨y0,y1⟩:=HCE.out w4 B4.out
      by_cases hd:q.den=1
      ·rw [decide_eq_true hd] at ho
       have Hd:=Lib.hid hd
       clear hd
       go_wp2_with fail
       clear y0 y1
       refine Calls.mono (Hsg.out _) ?_
       rintro e_ w5 ⟨rfl,hb_⟩
       have B5:=Lib.hid (B4.out.trans (hb_.mono B4.out.size))
       clear hb_ B4 
       obtain ⟨y0,y1⟩:=HCE.out w5 B5.out
       by_cases hp0:0 < q.num
       ·rw [if_pos ⟨Hd.out,hp0⟩] at Hsucc
        have hsg1:0 < sg:=hsp.2 hp0
        clear hp0 Hd hsp
        go_wp2_with fail
        clear y0 y1
        refine Calls.mono (Htx.out _) ?_
        rintro e_ w6 ⟨rfl,hb_⟩
        have B6:=Lib.hid (B5.out.trans (hb_.mono B5.out.size))
        clear hb_ B5 
        go_wp2_with fail
        go_roundw
        case rel=>exact ⟨k + 1,_,by omega,by go_num,rfl,by have:=bz1; have:=bz2; have:=bz3; have:=bz4; first | omega | (simp only [ByteArray.size_append]; omega),by rw [Hsucc.out,HX.out]; show _=_; first | rfl | exact bz0 _ | (simp only [ByteArray.append_assoc]; done) | (simp only [ByteArray.append_assoc]; exact bz0 _),B6⟩
        case measure=>simp [intOf]; omega
       ·rw [if_neg (fun h=>hp0 h.2)] at Hsucc
        have hsg1:¬ 0 < sg:=fun h=>hp0 (hsp.1 h)
        clear hp0 Hd hsp
        go_wp2_with fail
        clear y0 y1
        refine Calls.mono (Htx.out _) ?_
        rintro e_ w6 ⟨rfl,hb_⟩
        have B6:=Lib.hid (B5.out.trans (hb_.mono B5.out.size))
        clear hb_ B5 
        go_wp2_with fail
        go_roundw
        case rel=>exact ⟨k + 1,_,by omega,by go_num,rfl,by have:=bz1; have:=bz2; have:=bz3; have:=bz4; first | omega | (simp only [ByteArray.size_append]; omega),by rw [Hsucc.out,HX.out]; show _=_; first | rfl | exact bz0 _ | (simp only [ByteArray.append_assoc]; done) | (simp only [ByteArray.append_assoc]; exact bz0 _),B6⟩
        case measure=>simp [intOf]; omega
      ·rw [decide_eq_false hd] at ho
       rw [if_neg (fun h=>hd h.1)] at Hsucc
       clear hd
       go_wp2_with fail
       clear y0 y1
       refine Calls.mono (Htx.out _) ?_
       rintro e_ w5 ⟨rfl,hb_⟩
       have B5:=Lib.hid (B4.out.trans (hb_.mono B4.out.size))
       clear hb_ B4 
       go_wp2_with fail
       go_roundw
       case rel=>exact ⟨k + 1,_,by omega,by go_num,rfl,by have:=bz1; have:=bz2; have:=bz3; have:=bz4; first | omega | (simp only [ByteArray.size_append]; omega),by rw [Hsucc.out,HX.out]; show _=_; first | rfl | exact bz0 _ | (simp only [ByteArray.append_assoc]; done) | (simp only [ByteArray.append_assoc]; exact bz0 _),B5⟩
       case measure=>simp [intOf]; omega
  ·have hlt':¬ (k:Int) < n:=by omega
   have hkn:k=n:=by omega
   subst hkn
   rw [Hfull.out.1,Hfull.out.2] at HS
   by_cases hL:txL ps l=[]
   ·have es:s=⟨#[]⟩:=by rw [HS.out,hL]; rfl
    have ev:vv=⟨#[49]⟩:=by rw [Hv.out,hL]; rfl
    subst es
    have Hev:=Lib.hid ev
    clear hL HS ev Hv
    go_wp2_with fail
    go_ret
    exact ⟨by rw [Hev.out]; rfl,B.out⟩
   ·have hpos:=jn_pos hL (txL_pos ps l)
    rw [← HS.out] at hpos
    have hse:¬ s=ByteArray.empty:=fun e=>by rw [e] at hpos; exact absurd hpos (by decide)
    have hsi:s.toList.isEmpty=false:=by rw [ByteArray.toList_eq]; exact List.isEmpty_eq_false_iff.2 fun e=>hse (ByteArray.ext (Array.toList_inj.1 e))
    have ev:vv=s:=by
     rw [Hv.out,if_neg (fun h=>hL (List.eq_nil_of_length_eq_zero h)),HS.out]
    have Hev:=Lib.hid ev
    clear hL HS hpos ev Hv
    go_wp2_with fail
    go_ret
    exact ⟨by rw [Hev.out]; rfl,B.out⟩
end Go.Proofs.YtlomhfknmhaboaaGreatDoor

namespace Go.Proofs.YtlomhfknmhaboaaGreatDoor
open Go.RowKit
set_option maxHeartbeats 1000000 in
theorem refCmp_any (w:World) (a b:Nat) :
  Gives Tryz.prog 73 #[.string (dec a),.string (dec b)] w (.int .i64 (cmpN a b)):=by
 unfold Gives
 by_cases hlen:(dec a).size=(dec b).size
 ·have hl2:(Lib.decDigits a).length=(Lib.decDigits b).length:=by rw [← dec_size,← dec_size]; exact hlen
  have h1:=less_dec a b hl2
  have h2:=same_dec a b
  have hlen2:(((dec a).size:Int) != (dec b).size)=false:=by simp [hlen]
  rcases Nat.lt_trichotomy a b with hlt | heq | hgt
  ·have Hv:Hid (cmpN a b = -1):=by show _=_; unfold cmpN; rw [if_pos hlt]
   rw [decide_eq_true hlt] at h1
   rw [decide_eq_false (show ¬ a=b by omega)] at h2
   clear hl2 hlen hlt
   generalize dec a=s at *
   generalize dec b=t at *
   go_enter Tryz.func73,Tryz.ntmps73
   go_wp2
   go_ret
   exact ⟨by rw [Hv.out]; rfl,Below.refl _ _⟩
  ·have Hv:Hid (cmpN a b=0):=by show _=_; unfold cmpN; rw [if_neg (by omega),if_pos heq]
   rw [decide_eq_false (show ¬ a < b by omega)] at h1
   rw [decide_eq_true heq] at h2
   clear hl2 hlen heq
   generalize dec a=s at *
   generalize dec b=t at *
   go_enter Tryz.func73,Tryz.ntmps73
   go_wp2
   go_ret
   exact ⟨by rw [Hv.out]; rfl,Below.refl _ _⟩
  ·have Hv:Hid (cmpN a b=1):=by show _=_; unfold cmpN; rw [if_neg (by omega),if_neg (by omega)]
   rw [decide_eq_false (show ¬ a < b by omega)] at h1
   rw [decide_eq_false (show ¬ a=b by omega)] at h2
   clear hl2 hlen hgt
   generalize dec a=s at *
   generalize dec b=t at *
   go_enter Tryz.func73,Tryz.ntmps73
   go_wp2
   go_ret
   exact ⟨by rw [Hv.out]; rfl,Below.refl _ _⟩
 ·rcases Nat.lt_or_gt_of_ne hlen with h | h
  ·have Hv:Hid (cmpN a b = -1):=by
    show _=_
    have:=dec_len_lt (a:=a) (b:=b) (by rw [← dec_size,← dec_size]; exact h)
    unfold cmpN; rw [if_pos this]
   clear hlen
   generalize dec a=s at *
   generalize dec b=t at *
   have hnn:((s.size:Int) != t.size)=true:=by rw [bne_iff_ne]; omega
   have hnn2:((s.size:Int) == t.size)=false:=by rw [beq_eq_false_iff_ne]; omega
   go_enter Tryz.func73,Tryz.ntmps73
   go_wp2
   all_goals
    go_ret
    exact ⟨by rw [Hv.out]; first | rfl | exact ret_int (by omega),Below.refl _ _⟩
  ·have Hv:Hid (cmpN a b=1):=by
    show _=_
    have:=dec_len_lt (a:=b) (b:=a) (by rw [← dec_size,← dec_size]; exact h)
    unfold cmpN; rw [if_neg (by omega),if_neg (by omega)]
   clear hlen
   generalize dec a=s at *
   generalize dec b=t at *
   have hnn:((s.size:Int) != t.size)=true:=by rw [bne_iff_ne]; omega
   have hnn2:((s.size:Int) == t.size)=false:=by rw [beq_eq_false_iff_ne]; omega
   go_enter Tryz.func73,Tryz.ntmps73
   go_wp2
   all_goals
    go_ret
    exact ⟨by rw [Hv.out]; first | rfl | exact ret_int (by omega),Below.refl _ _⟩
theorem dval_drop_zero {D:List UInt8} {k:Nat} (hk:k < D.length) (hz:(D.getD k 0).toNat=48):dval (D.drop (k + 1))=dval (D.drop k):=by
 rw [List.drop_eq_getElem_cons hk,dval_cons]
 rw [List.getD_eq_getElem?_getD,List.getElem?_eq_getElem hk] at hz
 simp only [Option.getD_some] at hz
 rw [hz]; simp
theorem trim_dec {D:List UInt8} {k V:Nat} (hd:Digs D) (hk:k < D.length) (hv:dval (D.drop k)=V) (hz:k + 1=D.length∨(D.getD k 0).toNat≠48):D.drop k=Lib.decDigits V:=by
 rw [← hv]
 refine canon_dec ⟨fun x hx=>hd x (List.mem_of_mem_drop hx),by simp; omega,?_⟩
 rcases hz with h | h
 ·left; simp; omega
 ·right
  rw [List.head?_drop]
  rw [List.getD_eq_getElem?_getD,List.getElem?_eq_getElem hk] at h
  rw [List.getElem?_eq_getElem hk]
  intro e
  rw [Option.some.injEq] at e
  simp only [Option.getD_some] at h
  rw [e] at h
  exact h rfl
set_option maxRecDepth 100000 in
set_option maxHeartbeats 4000000 in
theorem refTrim_any (w:World) (g:Nat) (t:TypeId) (D:List UInt8) (V:Nat) (hr:RowB w g t D) (hd:Digs D) (hn:0 < D.length) (hl:D.length≤10000000) (hv:dval D=V) :
  Gives Tryz.prog 138 #[.slice (some ⟨g,0,none⟩) D.length D.length] w (.string (dec V)):=by
 unfold Gives
 have Hd:Hid (dec V=⟨(Lib.decDigits V).toArray⟩):=rfl
 have HR:=Lib.hid hr
 obtain ⟨n,hnn⟩:∃ n,n=D.length:=⟨_,rfl⟩
 rw [← hnn] at hn hl ⊢
 have Hnn:=Lib.hid hnn
 have HD:=Lib.hid hd
 clear hr hd hnn
 go_enter Tryz.func138,Tryz.ntmps138
 go_wp2_with fail
 go_loop [3] (fun k=>∃ kk:Nat,kk < n∧k = .int .i64 kk∧Hid (dval (D.drop kk)=V)) (fun k=>n - (intOf k).toNat)
 case atStart=>exact ⟨0,hn,rfl,hv⟩
 case round =>
  obtain ⟨k,hk,rfl,HV⟩:=hrel
  have hc:=HR.out.cell (i:=k) (by rw [← Hnn.out]; exact hk)
  have hz:=HR.out.frozen k
  have Hz:=Lib.hid (dval_drop_zero (D:=D) (k:=k) (by rw [← Hnn.out]; exact hk))
  have Ht:=Lib.hid (trim_dec (D:=D) (k:=k) HD.out (by rw [← Hnn.out]; exact hk) HV.out)
  have Hcv:=Lib.hid (HR.out.text (src:=142) (dst:=28) (e:=5) k (n - k) (n - k) (by rw [← Hnn.out]; omega) Tryz.underlying142 Tryz.underlying5 Tryz.underlying28)
  generalize (D.getD k 0).toNat=b at *
  by_cases h1:k + 1 < n
  ·have h1':(k:Int) < n - 1:=by omega
   by_cases h2:b=48
   ·have h2':((b:Int) == 48)=true:=by rw [beq_iff_eq]; omega
    go_wp2_with fail
    go_round
    case rel=>exact ⟨k + 1,h1,by go_num,(Hz.out h2).trans HV.out⟩
    case measure=>simp [intOf]; omega
   ·have h2':((b:Int) == 48)=false:=by rw [beq_eq_false_iff_ne]; omega
    have hcv:=Hcv.out
    rw [Ht.out (.inr h2)] at hcv
    go_wp2
    go_ret
    exact ⟨by rw [Hd.out]; rfl,Below.refl _ _⟩
  ·have h1':¬ (k:Int) < n - 1:=by omega
   have hcv:=Hcv.out
   rw [Ht.out (.inl (by rw [← Hnn.out]; omega))] at hcv
   go_wp2
   go_ret
   exact ⟨by rw [Hd.out]; rfl,Below.refl _ _⟩
end Go.Proofs.YtlomhfknmhaboaaGreatDoor

namespace Go.Proofs.YtlomhfknmhaboaaGreatDoor
open Go.RowKit
theorem elU64:ElemOf Tryz.prog 145 112 (.int .u64 0) 1 8:=⟨Tryz.underlying145,info_parts infoU,rfl,by decide⟩
def GivesL (f:FuncId) (args:Array Value) (w:World) (n k:Nat):Prop :=
 Calls Tryz.prog f args w fun e w'=>∃ a c L,e = .returned (.slice a L.length c)∧OwnU w' w.heap.size a c L∧Below w.heap.size w w'∧Pcs L∧val L=n∧L.length≤k
set_option maxRecDepth 100000 in
set_option maxHeartbeats 4000000 in
theorem refLimbs_any (s:ByteArray) (w:World) (hd:Digs (lb s)) (hl:s.size≤10000000) :
  GivesL 112 #[.string s] w (dval (lb s)) (s.size / 9 + 1):=by
 unfold GivesL
 have Hd:=Lib.hid hd
 clear hd
 have hlb:(lb s).length=s.size:=lb_length s
 have Hlb:=Lib.hid hlb
 clear hlb
 go_enter Tryz.func112,Tryz.ntmps112
 go_wp2_with fail
 go_loopw [3,4] (fun o z wr=>∃ (j:Nat) (a:Option Addr) (c:Nat),9 * j < s.size + 9∧z = .int .i64 ((s.size:Int) - 9 * j)∧o = .slice a j c∧Hid (CAt s w.heap.size j a c w wr)) (fun _ z _=>(intOf z + 9).toNat)
 case atStart=>exact ⟨0,_,_,by omega,by simp,rfl,⟨by simpa [digs9] using OwnU.nil w w.heap.size,Below.refl _ _,Nat.le_refl _⟩⟩
 case round =>
  obtain ⟨j,a,c,hj,rfl,rfl,HC⟩:=hrel
  by_cases hpos:9 * j < s.size
  ·obtain ⟨e,he⟩:∃ e,s.size - 9 * j=e:=⟨_,rfl⟩
   have hz:(s.size:Int) - 9 * j=(e:Int):=by omega
   obtain ⟨lo,hlo⟩:∃ lo,lo=s.size - 9 * j - 9:=⟨_,rfl⟩
   obtain ⟨K,hK⟩:∃ K,K=min 9 (s.size - 9 * j):=⟨_,rfl⟩
   have hmx:max ((e:Int) - 9) 0=(lo:Int):=by omega
   have hmx2:max 0 ((e:Int) - 9)=(lo:Int):=by omega
   have hek:e=lo + K:=by omega
   have hK0:0 < K:=by omega
   have hK9:K≤9:=by omega
   have hes:lo + K≤s.size:=by omega
   have Hdv:Hid (dval (((lb s).drop lo).take K)=dval (lb s) / 1000000000 ^ j % 1000000000):=by
    show _=_
    rw [hlo,hK,← Hlb.out]
    exact chunk_val (lb s) Hd.out j (by rw [Hlb.out]; exact hpos)
   have Hnx:Hid ((s.size:Int) - 9 * (j + 1:Nat)=(e:Int) - 9):=by show _=_; omega
   have hj2:9 * (j + 1) < s.size + 9:=by omega
   rw [hz]
   have hez:(0:Int) < e:=by omega
   have hez2:0 < e:=by omega
   have hez3:decide (0 < e)=true:=decide_eq_true hez2
   have Hch:Hid (∀ t,t < K→∃ h:lo + t < s.size,(((lb s).drop lo).take K).getD t 0=s[lo + t]'h):=fun t ht=>⟨by omega,by
    simp only [List.getD_eq_getElem?_getD,List.getElem?_take,List.getElem?_drop]
    rw [if_pos ht,List.getElem?_eq_getElem (by rw [Hlb.out]; omega)]
    rfl⟩
   have Hdc:Hid (Digs (((lb s).drop lo).take K)):=(Hd.out.drop _).take _
   have Hlc:Hid ((((lb s).drop lo).take K).length=K):=by show _=_; simp only [List.length_take,List.length_drop,Hlb.out]; omega
   have hek1:e≤lo + K:=by omega
   have hek2:lo + K≤e:=by omega
   clear he hlo hK hz hek
   generalize ((lb s).drop lo).take K=ch at *
   go_wp2_with fail
   go_loopw [5,6] (fun n i w2=>∃ t:Nat,t≤K∧i = .int .i64 ((lo:Int) + t)∧n = .int .u64 (dval (ch.take t):Nat)∧Hid (w2=wr)) (fun _ i _=>e - (intOf i).toNat)
   case atStart=>exact ⟨0,Nat.zero_le _,by simp,rfl,rfl⟩
   case round =>
    obtain ⟨t,ht,rfl,rfl,Hww⟩:=hrel
    obtain rfl:=Hww.out
    have hD:=dval_take_lt Hdc.out t (by omega)
    by_cases hlt:t < K
    ·obtain ⟨hlo2,hcx⟩:=Hch.out t hlt
     have hts:=dval_take_succ ch t (by rw [Hlc.out]; exact hlt)
     have hcd:=Hdc.out (ch.getD t 0) (by rw [List.getD_eq_getElem?_getD,List.getElem?_eq_getElem (by rw [Hlc.out]; exact hlt)]; exact List.getElem_mem _)
     have Hts:=Lib.hid hts
     clear hts
     generalize dval (ch.take t)=D at *
     rw [hcx] at hcd Hts
     clear hcx
     generalize hb:(s[lo + t]'hlo2).toNat=b at *
     obtain ⟨hc1,hc2⟩:=hcd
     have hlt':(lo:Int) + t < e:=by omega
     go_wp2
     go_roundw
     case rel=>exact ⟨t + 1,by omega,by go_num,by rw [Hts.out]; congr 1; omega,trivial⟩
     case measure=>simp [intOf]; omega
    ·obtain rfl:t=K:=by omega
     have hDt:dval (ch.take t)=dval (lb s) / 1000000000 ^ j % 1000000000:=by
      rw [← Hlc.out,List.take_length]; exact Hdv.out
     have HDt:=Lib.hid hDt
     clear hDt
     generalize dval (ch.take t)=D at *
     have hlt':¬ (lo:Int) + t < e:=by omega
     have hme:(0:Int) < e:=by omega
     have hrow:wr.ownsRow w.heap.size 112 1 (.slice a j c) j (u64s (digs9 (dval (lb s)) j)):=by have:=HC.out.own; unfold OwnU at this; rw [digs9_length] at this; exact this
     have Hrow:=Lib.hid hrow
     clear hrow
     go_wp2_with (at_builtin; refine wpList_append_new rfl (.tmp 29) (.tmp 31) 145 rfl elU64 _ 1 [.int .u64 D] rfl rfl Hrow.out HC.out.siz rfl ?c1 (by omega) (by omega) ?_)
     case c1=>first | rfl | (intro u hu; obtain rfl:=List.mem_singleton.1 hu; rfl)
     intro v' w3 hown3 hg3 _
     obtain ⟨a3,c3,rfl⟩:=own_form hown3
     have HC3:Hid (CAt s w.heap.size (j + 1) a3 c3 w w3):=by
      refine ⟨?_,(HC.out.bel.alloc HC.out.siz _).grown hg3 (by have:=HC.out.siz; simp; omega) (fun k hk=>(Hrow.out.lt k hk).1),Nat.le_trans HC.out.siz (Nat.le_trans (by simp) hg3.size)⟩
      unfold OwnU
      rw [digs9_length,digs9_succ,u64s_append]
      have:=hown3
      rw [HDt.out] at this
      exact this
     clear hown3 hg3 HC
     go_wp2
     go_roundw
     case rel=>exact ⟨j + 1,a3,c3,hj2,by rw [Hnx.out],rfl,HC3⟩
     case measure=>simp [intOf]; omega
  ·have hz:¬ (0:Int) < (s.size:Int) - 9 * j:=by omega
   have hv:val (digs9 (dval (lb s)) j)=dval (lb s):=by
    rw [digs9_val,Nat.mod_eq_of_lt]
    have h1:=dval_lt Hd.out
    rw [Hlb.out] at h1
    have h2:10 ^ s.size≤10 ^ (9 * j):=Nat.pow_le_pow_right (by decide) (by omega)
    rw [show (1000000000:Nat) ^ j=10 ^ (9 * j) by rw [Nat.pow_mul]]
    omega
   have Hv:=Lib.hid hv
   clear hv
   go_wp2
   go_ret
   exact ⟨a,c,digs9 (dval (lb s)) j,by rw [digs9_length]; rfl,HC.out.own,HC.out.bel,digs9_pcs _ _,Hv.out,by rw [digs9_length]; omega⟩
end Go.Proofs.YtlomhfknmhaboaaGreatDoor
