/- Lemmas for the laws of this seat, part 5. -/
import Derived.Laws.AppendOwnNone
import Derived.BigQuiet
import Derived.Deep.OwnRows
import Derived.Lib.SmallJoins
import Derived.Deep.LoopGhost
import Derived.Lib.Walk
import Derived.Lib.SliceRun
import Derived.RangeFuncNested
import Derived.RangeFuncBound
import Derived.RangeFuncCalls
import Derived.RangeFuncLeaves
import Derived.Shelf.Abstract
import Derived.Shelf.RegionOpen
import Derived.OwnWalkIn
import Derived.TacticsInMore
import Derived.LoopNIn
import Derived.LoopIn
import Derived.Sort.LoopGhostIn
import Derived.RangeFuncOwn
import Derived.Maps.OwnIn
import Derived.RangeFuncBox
import Derived.Deep.CutRange
import Derived.Test.YtkoicfghplmghaaGreatDoorMa4
set_option maxRecDepth 100000
set_option maxHeartbeats 16000000
namespace Go.Proofs.YtkoicfghplmghaaGreatDoor
open Go.RowKit
theorem infoRw:(Tryz.prog.info? 25).map (fun i=>(i.zero,i.size,i.bytes))=some (some (.slice none 0 0),1,24):=by kernel_rfl
theorem elRw:ElemOf Tryz.prog 26 25 (.slice none 0 0) 1 24:=⟨Tryz.underlying26,info_parts infoRw,rfl,by decide⟩
structure RowV (w:World) (V:List Value) (ls:List (List Int)):Prop where
 len:V.length=ls.length
 at_:∀ i,i < ls.length→∃ a' c',V[i]?=some (.slice a' (ls.getD i []).length c')∧Rd w a' (ints (ls.getD i []))
theorem RowV.below {w w':World} {V:List Value} {ls:List (List Int)} {B:Nat} (h:RowV w V ls) (hb:Below B w w') (hB:w.heap.size≤B):RowV w' V ls :=
 ⟨h.len,fun i hi=>by obtain ⟨a',c',h1,h2⟩:=h.at_ i hi; exact ⟨a',c',h1,h2.below hb hB⟩⟩
theorem RowV.nil (w:World):RowV w [] []:=⟨rfl,fun i hi=>absurd hi (Nat.not_lt_zero i)⟩
theorem RowV.append {w:World} {V V':List Value} {ls ls':List (List Int)} (h:RowV w V ls) (k:RowV w V' ls'):RowV w (V ++ V') (ls ++ ls'):=by
 refine ⟨by simp [h.len,k.len],fun i hi=>?_⟩
 by_cases hi1:i < ls.length
 ·obtain ⟨a',c',h1,h2⟩:=h.at_ i hi1
  have e:(ls ++ ls').getD i []=ls.getD i []:=by rw [List.getD_eq_getElem?_getD,List.getD_eq_getElem?_getD,List.getElem?_append_left hi1]
  rw [e]
  exact ⟨a',c',by rw [List.getElem?_append_left (by rw [h.len]; exact hi1)]; exact h1,h2⟩
 ·rw [List.length_append] at hi
  obtain ⟨a',c',h1,h2⟩:=k.at_ (i - ls.length) (by omega)
  have e:(ls ++ ls').getD i []=ls'.getD (i - ls.length) []:=by rw [List.getD_eq_getElem?_getD,List.getD_eq_getElem?_getD,List.getElem?_append_right (by omega)]
  rw [e]
  exact ⟨a',c',by rw [List.getElem?_append_right (by rw [h.len]; omega),h.len]; exact h1,h2⟩
theorem RowV.one {w:World} {V:List Value} {ls:List (List Int)} (h:RowV w V ls):∀ u∈V,u.oneCell'=true:=fun u hu=>by
 obtain ⟨i,hi,rfl⟩:=List.mem_iff_getElem.1 hu
 obtain ⟨a',c',h1,_⟩:=h.at_ i (by rw [← h.len]; exact hi)
 rw [List.getElem?_eq_getElem hi] at h1
 rw [Option.some.inj h1]; rfl
theorem RowV.rdi {w:World} {a:Option Addr} {V:List Value} {ls:List (List Int)} (h:RowV w V ls) (r:Rd w a V):RdI w a ls:=by
 rcases r with r | ⟨b,off,rfl,hb,hc⟩
 ·left
  have:=h.len
  rw [r] at this
  exact List.eq_nil_of_length_eq_zero this.symm
 ·refine .inr ⟨b,off,rfl,hb,fun i hi=>?_⟩
  obtain ⟨a',c',h1,h2⟩:=h.at_ i hi
  exact ⟨a',c',hc i _ h1,h2⟩
theorem RdI.vals {w:World} {a:Option Addr} {ls:List (List Int)} (h:RdI w a ls):∃ V,RowV w V ls∧Rd w a V:=by
 rcases h with rfl | ⟨b,off,rfl,hb,hc⟩
 ·exact ⟨[],RowV.nil w,.inl rfl⟩
 ·refine ⟨(List.range ls.length).map fun i=>(w.cell? ⟨b,off + i,none⟩).getD (.slice none 0 0),⟨by simp,fun i hi=>?_⟩,.inr ⟨b,off,rfl,hb,fun i v hv=>?_⟩⟩
  ·obtain ⟨a',c',h1,h2⟩:=hc i hi
   refine ⟨a',c',?_,h2⟩
   rw [List.getElem?_map,List.getElem?_range hi,Option.map_some,h1]; rfl
  ·have hi:i < ls.length:=by
    have:=(List.getElem?_eq_some_iff.1 hv).1
    simpa using this
   obtain ⟨a',c',h1,h2⟩:=hc i hi
   rw [List.getElem?_map,List.getElem?_range hi,Option.map_some,h1] at hv
   rw [h1,← Option.some.inj hv]; rfl
theorem own_cut0 {w:World} {B n c size:Nat} {e:TypeId} {a:Option Addr} {xs:List Value} (h:w.ownsRow B e size (.slice a n c) n xs) (h0:0 < n):w.ownsRow B e size (.slice a 0 c) 0 []:=by
 rcases h.2 with ⟨_,hz⟩ | ⟨g,cap,cur,hv,hb,hg,hc,hm,hs,_⟩
 ·omega
 ·simp only [Value.slice.injEq] at hv
  obtain ⟨rfl,-,rfl⟩:=hv
  exact ⟨by simp,.inr ⟨g,c,cur,rfl,hb,hg,Nat.zero_le _,hm,hs,by simp⟩⟩
theorem wpList_append_rd {P:Program} {w:World} {ops:Array Oper} {rest:List Oper} {o:Oper} {a:Act} {Q:Exit→Act→World→Prop} (hgd:o.guard=none) (s x:Operand) (t:TypeId)
  (ho:o.op = .call { callee := .builtin .append,args := #[s,x],argTypes := #[t,t] }) {e:TypeId} {z:Value} {bytes:Nat} (E:ElemOf P t e z 1 bytes)
  (v:Value) (hs:a.eval s=v) {base n:Nat} {xs:List Value} (hown:w.ownsRow base e 1 v n xs) (ad:Option Addr) (m c:Nat) (V:List Value) (hx:a.eval x = .slice ad m c) (hnil:ad=none→m=0∧c=0) (hl:V.length=m) (hr:Rd w ad V) (h1:∀ u∈V,u.oneCell'=true)
  (h63:n + m≤4611686018427387904) (hbytes:(n + m) * bytes≤140737488355328) (hbase:base≤w.heap.size)
  (h:∀ v' w',w'.ownsRow base e 1 v' (n + m) (xs ++ V)→w.grownBy w' v.ownBlock→wpList P ops Q rest (a.put o.dst v') w'):wpList P ops Q (o :: rest) a w:=by
 obtain ⟨i,hi,hz,hsize,hby⟩:=E.info
 match ad,hr,hnil with
 | none,hr,hnil =>
  obtain ⟨rfl,rfl⟩:=hnil rfl
  obtain rfl:V=[]:=List.eq_nil_of_length_eq_zero hl
  refine wpList_append_own_none hgd s x t ho base e i 1 E.ht hi v n xs hs hown hx ?_
  exact h v w (by simpa using hown) ⟨rfl,rfl,rfl,Nat.le_refl _,fun _ _ _=>rfl⟩
 | some ad,hr,_ =>
  refine wpList_append_own _ hgd s x t ho base e i z 1 bytes E.ht hi hz hsize hby E.hzs E.pos v n xs hs hown ad m c V hx (by omega) ?_ h1 (by unfold maxLen; omega) hbytes hbase fun v' w' h2 h3 _=>h v' w' h2 h3
  intro j u hj
  rcases hr with rfl | ⟨b,off,hb,_,hc⟩
  ·simp at hj
  ·obtain rfl:=Option.some.inj hb
   have:=hc j u hj
   have hadd:(⟨b,off,none⟩:Addr).add j=⟨b,off + j,none⟩:=by unfold Addr.add; split <;> simp_all
   rw [hadd]; exact this
theorem grow_any (w:World) (n:Nat) (hn:n≤2000) :
  Calls Tryz.prog 184 #[.slice none 0 0,.int .i64 n] w fun e w'=>∃ a c,e = .returned (.slice a 0 c)∧w'.ownsRow w.heap.size 25 1 (.slice a 0 c) 0 []∧Below w.heap.size w w':=by
 rcases Nat.eq_zero_or_pos n with rfl | h0
 ·go_enter Tryz.func184,Tryz.ntmps184
  go_wp2_with fail
  go_ret
  exact ⟨none,0,rfl,World.ownsRow_nil ..,Below.refl _ _⟩
 ·have h0':(0:Int) < n:=by omega
  have hw1:IntKind.i64.wrap ((n:Int) - 0)=n:=iw_ _ (by omega)
  go_enter Tryz.func184,Tryz.ntmps184
  go_wp2_with (at_builtin; refine wpList_append_zeros rfl (.tmp 20) (.tmp 21) 26 3 rfl elRw rfl rfl Tryz.underlying3 (.slice none 0 0) n rfl rfl (World.ownsRow_nil w w.heap.size _ 1) nr_ (by omega) (by omega) ?_)
  intro v' w1 hown hg _
  obtain ⟨a,c,rfl⟩:=own_form hown
  have O:=hd_ (own_cut0 hown h0)
  have B:Hid (Below w.heap.size w w1):=(Below.refl _ _).grown hg nr_ (fun k hk=>by simp [Value.ownBlock] at hk)
  obtain ⟨g,cap,hv,-,-,hcap,-,-⟩:=own_open hown h0
  simp only [Value.slice.injEq] at hv
  obtain ⟨rfl,-,rfl⟩:=hv
  clear hown hg
  go_wp2_with fail
  go_ret
  exact ⟨_,_,rfl,O.out,B.out⟩
def Nil0 (a:Option Addr) (n c:Nat):Prop:=a=none→n=0∧c=0
theorem concat2_any (w:World) (g:Nat) (a1 a2:Option Addr) (c1 c2:Nat) (l1 l2:List (List Int)) (hg:w.heap[g]?=some (.cells #[.slice a1 l1.length c1,.slice a2 l2.length c2] 26 (0,0)))
  (r1:RdI w a1 l1) (r2:RdI w a2 l2) (n1:Nil0 a1 l1.length c1) (n2:Nil0 a2 l2.length c2) (h1:l1.length≤1000) (h2:l2.length≤1000) :
  Calls Tryz.prog 147 #[.slice (some ⟨g,0,none⟩) 2 2] w fun e w'=>∃ a c,e = .returned (.slice a (l1.length + l2.length) c)∧RdI w' a (l1 ++ l2)∧Below w.heap.size w w':=by
 obtain ⟨V1,W1,R1⟩:=r1.vals
 obtain ⟨V2,W2,R2⟩:=r2.vals
 have HR1:=hd_ R1
 have HR2:=hd_ R2
 have HL1:=hd_ W1.len
 have HL2:=hd_ W2.len
 have HO1:=hd_ W1.one
 have HO2:=hd_ W2.one
 have HN1:=hd_ n1
 have HN2:=hd_ n2
 have HW:Hid (RowV w (V1 ++ V2) (l1 ++ l2)):=W1.append W2
 have Hg:=hd_ hg
 have HGr:Hid (∀ W,Calls Tryz.prog 184 #[.slice none 0 0,.int .i64 (l1.length + l2.length:Nat)] W fun e w'=>∃ a c,e = .returned (.slice a 0 c)∧w'.ownsRow W.heap.size 25 1 (.slice a 0 c) 0 []∧Below W.heap.size W w'):=fun W=>grow_any W _ (by omega)
 have k0:w.cell? ⟨g,0,none⟩=some (.slice a1 l1.length c1):=by rw [cell_of_row w g 0 _ _ (0,0) hg]; rfl
 have k1:w.cell? ⟨g,1,none⟩=some (.slice a2 l2.length c2):=by rw [cell_of_row w g 1 _ _ (0,0) hg]; rfl
 have hgs:=(Array.getElem?_eq_some_iff.1 hg).1
 clear hg r1 r2 n1 n2 W1 W2 R1 R2
 generalize l1.length=m1 at *
 generalize l2.length=m2 at *
 have hw1:IntKind.i64.wrap ((0:Int) + m1)=m1:=by rw [Int.zero_add]; exact iw_ _ (by omega)
 have hw2:IntKind.i64.wrap ((m1:Int) + m2)=((m1 + m2:Nat):Int):=by rw [← Int.natCast_add]; exact iw_ _ (by omega)
 have hs2:¬ (((m1 + m2:Nat):Int) < 0):=by omega
 go_enter Tryz.func147,Tryz.ntmps147
 go_wp2_with fail
 go_loopw [3,11] (fun s i wr=>((i = .int .i64 0∧s = .int .i64 0)∨(i = .int .i64 1∧s = .int .i64 m1)∨(i = .int .i64 2∧s = .int .i64 (m1 + m2:Nat)))∧Hid (Below w.heap.size w wr)) (fun _ i _=>2 - (intOf i).toNat)
 case atStart=>exact ⟨.inl ⟨rfl,rfl⟩,Below.refl _ _⟩
 case round =>
  obtain ⟨h,HB0⟩:=hrel
  have z0:=(HB0.out.cell (p:=⟨g,0,none⟩) hgs).trans k0
  have z1:=(HB0.out.cell (p:=⟨g,1,none⟩) hgs).trans k1
  clear k0 k1
  rcases h with ⟨rfl,rfl⟩ | ⟨rfl,rfl⟩ | ⟨rfl,rfl⟩
  ·clear HGr z1
   go_wp2
   go_roundw
   case rel=>exact ⟨.inr (.inl ⟨rfl,by first | rfl | (rw [hw1])⟩),HB0⟩
   case measure=>simp [intOf]
  ·clear HGr z0
   go_wp2
   go_roundw
   case rel=>exact ⟨.inr (.inr ⟨rfl,by first | rfl | (rw [hw2])⟩),HB0⟩
   case measure=>simp [intOf]
  ·obtain ⟨wo,hwo⟩:∃ wo:World,wo=wr:=⟨_,rfl⟩
   subst hwo
   go_wp2_with fail
   refine cm_ (HGr.out _) ?_
   rintro e w1 ⟨a,c,rfl,ho,hb⟩
   have O:=hd_ ho
   have B:=hd_ hb
   have hsz0:=HB0.out.size
   have hgo:=Nat.lt_of_lt_of_le hgs hsz0
   clear ho hb HGr
   go_wp2_with fail
   go_loopw [6,27] (fun v i wr=>((∃ a c,i = .int .i64 0∧v = .slice a 0 c∧Hid (wr.ownsRow wo.heap.size 25 1 (.slice a 0 c) 0 []))∨(∃ a c,i = .int .i64 1∧v = .slice a m1 c∧Hid (wr.ownsRow wo.heap.size 25 1 (.slice a m1 c) m1 V1))∨(∃ a c,i = .int .i64 2∧v = .slice a (m1 + m2) c∧Hid (wr.ownsRow wo.heap.size 25 1 (.slice a (m1 + m2) c) (m1 + m2) (V1 ++ V2))))∧Hid (Below wo.heap.size wo wr)) (fun _ i _=>2 - (intOf i).toNat)
   case atStart=>exact ⟨.inl ⟨a,c,rfl,rfl,O⟩,B⟩
   case round =>
    clear O B
    obtain ⟨h,HB⟩:=hrel
    have q0:=(HB.out.cell (p:=⟨g,0,none⟩) hgo).trans z0
    have q1:=(HB.out.cell (p:=⟨g,1,none⟩) hgo).trans z1
    clear z0 z1
    rcases h with ⟨a,c,rfl,rfl,HO⟩ | ⟨a,c,rfl,rfl,HO⟩ | ⟨a,c,rfl,rfl,HO⟩
    ·clear q1
     go_wp2_with (at_builtin; refine wpList_append_rd rfl (.tmp 31) (.tmp 32) 26 rfl elRw _ rfl HO.out a1 m1 c1 V1 rfl HN1.out HL1.out (HR1.out.below (HB0.out.trans (HB.out.mono hsz0)) nr_) HO1.out (by omega) (by omega) HB.out.size ?_)
     intro v' w3 hown hg3
     obtain ⟨a3,c3,rfl⟩:=own_form hown
     have B3:Hid (Below wo.heap.size wo w3):=HB.out.grown hg3 HB.out.size (fun kk hk=>(HO.out.lt kk hk).1)
     have O3:=hd_ hown
     clear hown hg3 HB HO
     go_wp2
     go_roundw
     case rel=>exact ⟨.inr (.inl ⟨a3,c3,rfl,rfl,O3⟩),B3⟩
     case measure=>simp [intOf]
    ·clear q0
     go_wp2_with (at_builtin; refine wpList_append_rd rfl (.tmp 31) (.tmp 32) 26 rfl elRw _ rfl HO.out a2 m2 c2 V2 rfl HN2.out HL2.out (HR2.out.below (HB0.out.trans (HB.out.mono hsz0)) nr_) HO2.out (by omega) (by omega) HB.out.size ?_)
     intro v' w3 hown hg3
     obtain ⟨a3,c3,rfl⟩:=own_form hown
     have B3:Hid (Below wo.heap.size wo w3):=HB.out.grown hg3 HB.out.size (fun kk hk=>(HO.out.lt kk hk).1)
     have O3:=hd_ hown
     clear hown hg3 HB HO
     go_wp2
     go_roundw
     case rel=>exact ⟨.inr (.inr ⟨a3,c3,rfl,rfl,O3⟩),B3⟩
     case measure=>simp [intOf]
    ·clear q0 q1
     have hrow:=own_rd HO.out
     have hR:=HW.out.below (HB0.out.trans (HB.out.mono hsz0)) nr_
     have HRd:Hid (RdI wr a (l1 ++ l2)):=hR.rdi hrow
     clear hrow hR
     go_wp2_with fail
     go_ret
     exact ⟨a,c,rfl,HRd.out,HB0.out.trans (HB.out.mono hsz0)⟩
def ocode (ps:List Int) (l more:List (List Int)):Int:=if pcode ps=0 then (if 600 < l.length then 4 else mgo ps.length (l ++ more)) else pcode ps
theorem open_any (w:World) (a0 a1 a2:Option Addr) (c0 c1 c2:Nat) (ps:List Int) (l more:List (List Int)) (hp:Rd w a0 (ints ps)) (hi:I64s ps) (hl0:ps.length≤1000000)
  (r1:RdI w a1 l) (r2:RdI w a2 more) (n1:Nil0 a1 l.length c1) (n2:Nil0 a2 more.length c2) (h1:l.length≤4611686018427387904) (h2:more.length≤1000) (hl2:∀ x∈l ++ more,x.length≤1000000) :
  Gives Tryz.prog 93 #[.slice a0 ps.length c0,.slice a1 l.length c1,.slice a2 more.length c2] w (.int .i64 (ocode ps l more)):=by
 unfold Gives
 have H1:=hd_ (primeCheck_any w a0 c0 ps hp hi hl0)
 have Hv:Hid (ocode ps l more=if pcode ps=0 then (if 600 < l.length then 4 else mgo ps.length (l ++ more)) else pcode ps):=rfl
 have HC:Hid (¬ 600 < l.length→∀ W g,Below w.heap.size w W→W.heap[g]?=some (.cells #[.slice a1 l.length c1,.slice a2 more.length c2] 26 (0,0))→Calls Tryz.prog 147 #[.slice (some ⟨g,0,none⟩) 2 2] W fun e w'=>∃ a c,e = .returned (.slice a (l.length + more.length) c)∧RdI w' a (l ++ more)∧Below W.heap.size W w'):=fun h W g hW hg =>
  concat2_any W g a1 a2 c1 c2 l more hg (r1.below hW nr_) (r2.below hW nr_) n1 n2 (by omega) h2
 have HM:Hid (¬ 600 < l.length→pcode ps=0→∀ W a c,Below w.heap.size w W→RdI W a (l ++ more)→Gives Tryz.prog 71 #[.slice a0 ps.length c0,.slice a (l.length + more.length) c] W (.int .i64 (mgo ps.length (l ++ more)))):=fun h h0 W a c hW hr=>by
  have:=monCheckAll_any W a0 a c0 c ps (l ++ more) (hp.below hW nr_) hi hl0 hr (by rw [List.length_append]; omega) hl2
  rw [List.length_append] at this
  unfold mcode at this
  rw [if_pos h0] at this
  exact this
 clear hp hi r1 r2 n1 n2 hl2
 generalize ocode ps l more=v at *
 generalize mgo ps.length (l ++ more)=mg at *
 generalize pcode ps=p at *
 generalize ps.length=n at *
 generalize hlm:l.length=m at *
 generalize hmm:more.length=k at *
 by_cases h0:p=0
 ·subst h0
  rw [if_pos rfl] at Hv
  by_cases h6:600 < m
  ·have h6':(600:Int) < m:=by omega
   rw [if_pos h6] at Hv
   clear HC HM
   go_enter Tryz.func93,Tryz.ntmps93
   go_wp2_with fail
   refine cm_ H1.out ?_
   rintro e w1 ⟨rfl,hb⟩
   have B:=hd_ hb
   clear hb H1
   go_wp2
   go_ret
   exact ⟨by rw [Hv.out]; rfl,B.out⟩
  ·have h6':¬ (600:Int) < m:=by omega
   rw [if_neg h6] at Hv
   have HC':=hd_ (HC.out h6)
   have HM':=hd_ (HM.out h6 rfl)
   clear HC HM
   go_enter Tryz.func93,Tryz.ntmps93
   go_wp2_with fail
   refine cm_ H1.out ?_
   rintro e w1 ⟨rfl,hb⟩
   have B:=hd_ hb
   clear hb H1
   go_wp2_with fail
   have B1:=hd_ (B.out.alloc B.out.size (.cells #[.slice a1 m c1,.slice a2 k c2] 26))
   refine cm_ (HC'.out _ _ B1.out (heap_at w1 _ _ _ rfl)) ?_
   rintro e w2 ⟨a,c,rfl,hr,hb⟩
   have R2:=hd_ hr
   have B2:=hd_ (B1.out.trans (hb.mono B1.out.size))
   clear hb hr HC' B B1
   go_wp2_with fail
   refine cm_ (HM'.out _ _ _ B2.out R2.out) ?_
   rintro e w3 ⟨rfl,hb⟩
   have B3:=hd_ (B2.out.trans (hb.mono B2.out.size))
   clear hb HM' B2 R2
   go_wp2
   go_ret
   exact ⟨by rw [Hv.out]; rfl,B3.out⟩
 ·have hp0:(p == 0)=false:=by rw [beq_eq_false_iff_ne]; exact h0
  rw [if_neg h0] at Hv
  clear HC HM h0
  go_enter Tryz.func93,Tryz.ntmps93
  go_wp2_with fail
  refine cm_ H1.out ?_
  rintro e w1 ⟨rfl,hb⟩
  have B:=hd_ hb
  clear hb H1
  go_wp2
  go_ret
  exact ⟨by rw [Hv.out]; rfl,B.out⟩
end Go.Proofs.YtkoicfghplmghaaGreatDoor

namespace Go.Proofs.YtkoicfghplmghaaGreatDoor
open Go.RowKit
def ResI (w:World) (n:Nat) (l:List Int) (e:Ending):Prop:=(mx l=0∧∃ a c,e = .returned (.tuple #[.slice a n c,.int .i64 0])∧Rd w a (ints l))∨(mx l≠0∧e = .returned (.tuple #[.slice none 0 0,.int .i64 4]))
theorem ResI.form {w:World} {n:Nat} {l:List Int} {e:Ending} (h:ResI w n l e):∃ v1 v2,e = .returned (.tuple #[v1,v2]):=by
 rcases h with ⟨_,a,c,h,_⟩ | ⟨_,h⟩
 ·exact ⟨_,_,h⟩
 ·exact ⟨_,_,h⟩
theorem mx_zero:∀ {l:List Int},mx l=0↔Xs l
 | []=>⟨fun _ x hx=>(by cases hx),fun _=>rfl⟩
 | x :: l=>by
  constructor
  ·intro h
   unfold mx at h
   split at h
   ·cases h
   ·intro y hy
    rcases List.mem_cons.1 hy with rfl | hy
    ·omega
    ·exact mx_zero.1 h y hy
  ·exact mx_ok _
theorem mx_two (l:List Int):mx l=0∨mx l=4:=by
 induction l with
 | nil=>exact .inl rfl
 | cons x l ih =>
  unfold mx
  split
  ·exact .inr rfl
  ·exact ih
def negI (x:List Int):List Int:=x.map fun a => -a
theorem negI_length (x:List Int):(negI x).length=x.length:=by simp [negI]
theorem negI_xs {x:List Int} (h:Xs x):Xs (negI x):=fun a ha=>by
 obtain ⟨b,hb,rfl⟩:=List.mem_map.1 ha
 have:=h b hb
 omega
theorem monPower_err (w:World) (a0 a1:Option Addr) (c0 c1:Nat) (ps r:List Int) (k:Int) (hp:Rd w a0 (ints ps)) (hi:I64s ps) (hl:ps.length≤1000000) (hr:Rd w a1 (ints r)) (hlr:r.length≤1000000) (hc:mcode1 ps r≠0) :
  Gives Tryz.prog 150 #[.slice a0 ps.length c0,.slice a1 r.length c1,.int .i64 k] w (.tuple #[.slice none 0 0,.int .i64 (mcode1 ps r)]):=by
 unfold Gives
 have H1:=hd_ (monCheck_any w a0 a1 c0 c1 ps r hp hi hl hr hlr)
 have hp0:(mcode1 ps r == 0)=false:=by rw [beq_eq_false_iff_ne]; exact hc
 clear hp hi hc hr
 generalize ps.length=n at *
 generalize r.length=m at *
 generalize mcode1 ps r=p at *
 go_enter Tryz.func150,Tryz.ntmps150
 go_wp2_with fail
 refine cm_ H1.out ?_
 rintro e w1 ⟨rfl,hb1⟩
 have Hb1:=hd_ hb1
 clear hb1 H1
 go_wp2_with fail
 go_ret2
 exact ⟨rfl,Hb1.out⟩
theorem monPowerN_ok (w:World) (ps xs:List Int) (a0 a1:Option Addr) (c0 c1:Nat) (rp:Rd w a0 (ints ps)) (hi:I64s ps) (hp:pcode ps=0) (rx:Rd w a1 (ints xs)) (l1:xs.length=ps.length) (h1:Xs xs) :
  Calls Tryz.prog 150 #[.slice a0 ps.length c0,.slice a1 ps.length c1,.int .i64 (-1)] w fun e w'=>∃ a c,e = .returned (.tuple #[.slice a ps.length c,.int .i64 0])∧Rd w' a (ints (negI xs))∧Below w.heap.size w w':=by
 have hpos:=pcode_pos hp
 have Hc:Hid (Gives Tryz.prog 17 #[.slice a0 ps.length c0,.slice a1 ps.length c1] w (.int .i64 0)):=by
  have:=monCheck_any w a0 a1 c0 c1 ps xs rp hi (by omega) rx (by omega)
  rw [mcode_one hp h1 l1,l1] at this
  exact this
 have Hlen:Hid ((negI xs).length=ps.length):=by show _=_; rw [negI_length,l1]
 have Hres:Hid (∀ W a c,Below w.heap.size w W→Rd W a (ints (negI xs))→Gives Tryz.prog 186 #[.slice a0 ps.length c0,.slice a ps.length c] W (.tuple #[.slice a ps.length c,.int .i64 0])):=fun W a c hW hr =>
  monResult_ok W ps (negI xs) a0 a c0 c (rp.below hW nr_) hi hp hr Hlen.out (negI_xs h1)
 have Hx:=hd_ rx
 have Hl1:=hd_ l1
 have Hb1:=hd_ h1
 have hn6:=hpos.2
 clear rp hi hp rx l1 h1 hpos
 generalize ps.length=n at *
 have hmn:min (-min (1:Int) 1001) 1001 = -1:=by decide
 go_enter Tryz.func150,Tryz.ntmps150
 go_wp2_with fail
 refine cm_ Hc.out ?_
 rintro e w1 ⟨rfl,hb⟩
 have B1:=hd_ hb
 have hsz:w.heap.size≤w1.heap.size:=B1.out.size
 have O1:Hid (OwnI w1 w.heap.size none 0 (negI (xs.take 0))):=OwnI.nil w1 _
 clear hb Hc
 go_wp2_with fail
 go_loopw [9,23] (fun o i wr=>∃ (k:Nat) (b:Option Addr) (d:Nat),k≤n∧i = .int .i64 k∧o = .slice b k d∧Hid (OwnI wr w.heap.size b d (negI (xs.take k)))∧Hid (Below w.heap.size w wr)) (fun _ i _=>n - (intOf i).toNat)
 case atStart=>exact ⟨0,none,0,Nat.zero_le _,rfl,rfl,O1,B1⟩
 case round =>
  clear B1 O1 hsz
  obtain ⟨k,b,d,hk,rfl,rfl,O,B⟩:=hrel
  by_cases hlt:k < n
  ·have hlt':(k:Int) < n:=by omega
   have hkx:k < xs.length:=by rw [Hl1.out]; exact hlt
   have hx:=Hb1.out _ (List.getElem_mem hkx)
   obtain ⟨b1,o1,rfl,hb1,hc1⟩:=Hx.out.open (by rw [ints_length]; omega)
   have x1:wr.cell? ⟨b1,o1 + k,none⟩=some (.int .i64 xs[k]):=by
    rw [B.out.cell (p:=⟨b1,o1 + k,none⟩) hb1]
    exact hc1 k _ (ints_get _ k hkx)
   have Hs:Hid (negI (xs.take (k + 1))=negI (xs.take k) ++ [-xs[k]]):=by
    show _=_
    unfold negI
    rw [List.take_add_one,List.getElem?_eq_getElem hkx,List.map_append]
    rfl
   have Hlk:Hid ((negI (xs.take k)).length=k):=by show _=_; rw [negI_length,List.length_take]; omega
   clear hc1
   generalize xs[k]=x at *
   have hwm:IntKind.i64.wrap (-1 * x) = -x:=by rw [show -1 * x = -x by omega]; exact iw_ _ (by omega)
   have hwm2:wrap64 (-x) = -x:=IntWalk.wrap64_in _ ⟨by omega,by omega⟩
   have Ow:Hid (wr.ownsRow w.heap.size 3 1 (.slice b k d) k (ints (negI (xs.take k)))):=by
    have h0:=O.out
    unfold OwnI at h0
    rw [Hlk.out] at h0
    exact h0
   have hsz:=B.out.size
   go_wp2_with (at_builtin; refine wpList_append_one rfl (.tmp 27) (.tmp 31) 25 rfl elRow _ (.int .i64 (-x)) rfl rfl Ow.out hsz rfl (by omega) (by omega) ?_)
   intro v' w3 hown3 hg3 _
   have B3:Hid (Below w.heap.size w w3):=(B.out.alloc hsz _).grown hg3 (Nat.le_trans hsz (by rw [World.size_alloc]; omega)) (fun j hj=>by have:=(Ow.out.lt j hj).1; omega)
   obtain ⟨b3,d3,rfl⟩:=own_form hown3
   have O3:Hid (OwnI w3 w.heap.size b3 d3 (negI (xs.take (k + 1)))):=by
    show w3.ownsRow _ _ _ _ _ _
    rw [Hs.out,List.length_append,Hlk.out,ints_append]
    exact hown3
   clear hown3 hg3 Ow B O hsz
   go_wp2_with fail
   go_roundw
   case rel=>exact ⟨k + 1,b3,d3,by omega,by go_num,rfl,O3,B3⟩
   case measure=>simp [intOf]; omega
  ·have hlt':¬ (k:Int) < n:=by omega
   have hkn:k=n:=by omega
   subst hkn
   have Hfull:Hid (negI (xs.take k)=negI xs):=by
    show _=_
    rw [List.take_of_length_le (by rw [Hl1.out]; exact Nat.le_refl _)]
   rw [Hfull.out] at O
   have Rr:=hd_ O.out.rd
   have Hr:=hd_ (Hres.out wr b d B.out Rr.out)
   clear Hres O Hfull
   go_wp2_with fail
   refine cm_ Hr.out ?_
   rintro e w2 ⟨rfl,hb⟩
   have B2:=hd_ (B.out.trans (hb.mono B.out.size))
   have R2:=hd_ (Rr.out.below hb nr_)
   clear hb Hr
   go_wp2_with fail
   go_ret2
   exact ⟨b,d,rfl,R2.out,B2.out⟩
theorem monNeg_ok (w:World) (ps xs:List Int) (a0 a1:Option Addr) (c0 c1:Nat) (rp:Rd w a0 (ints ps)) (hi:I64s ps) (hp:pcode ps=0) (rx:Rd w a1 (ints xs)) (l1:xs.length=ps.length) (h1:Xs xs) :
  Calls Tryz.prog 100 #[.slice a0 ps.length c0,.slice a1 ps.length c1] w fun e w'=>∃ a c,e = .returned (.tuple #[.slice a ps.length c,.int .i64 0])∧Rd w' a (ints (negI xs))∧Below w.heap.size w w':=by
 have Hc:=hd_ (monPowerN_ok w ps xs a0 a1 c0 c1 rp hi hp rx l1 h1)
 clear rp hi hp rx l1 h1
 generalize negI xs=z at *
 generalize ps.length=n at *
 go_enter Tryz.func100,Tryz.ntmps100
 go_wp2_with fail
 refine cm_ Hc.out ?_
 rintro e w1 ⟨a,c,rfl,hr,hb⟩
 have R1:=hd_ hr
 have B1:=hd_ hb
 clear hr hb Hc
 go_wp2_with fail
 go_ret2
 exact ⟨a,c,rfl,R1.out,B1.out⟩
theorem monNeg_err (w:World) (a0 a1:Option Addr) (c0 c1:Nat) (ps r:List Int) (hp:Rd w a0 (ints ps)) (hi:I64s ps) (hl:ps.length≤1000000) (hr:Rd w a1 (ints r)) (hlr:r.length≤1000000) (hc:mcode1 ps r≠0) :
  Gives Tryz.prog 100 #[.slice a0 ps.length c0,.slice a1 r.length c1] w (.tuple #[.slice none 0 0,.int .i64 (mcode1 ps r)]):=by
 unfold Gives
 have Hc:=hd_ (monPower_err w a0 a1 c0 c1 ps r (-1) hp hi hl hr hlr hc)
 unfold Gives at Hc
 clear hp hi hl hr hlr hc
 generalize mcode1 ps r=z at *
 generalize ps.length=n at *
 generalize r.length=m at *
 go_enter Tryz.func100,Tryz.ntmps100
 go_wp2_with fail
 refine cm_ Hc.out ?_
 rintro e w1 ⟨rfl,hb⟩
 have B1:=hd_ hb
 clear hb Hc
 go_wp2_with fail
 go_ret2
 exact ⟨rfl,B1.out⟩
end Go.Proofs.YtkoicfghplmghaaGreatDoor

namespace Go.Proofs.YtkoicfghplmghaaGreatDoor
open Go.RowKit
def Ok (c:Nat→Nat→Int) (u v:Nat):Prop:=0≤c v u∧(c v u=0→u < v)
structure Srt (c:Nat→Nat→Int) (n i:Nat) (F:Nat→Nat):Prop where
 lt:∀ k,k < n→F k < n
 inj:∀ k m,k < n→m < n→F k=F m→k=m
 hi:∀ k,i≤k→k < n→F k=k
 lo:∀ k,k < i→F k < i
 adj:∀ k,k + 1 < i→Ok c (F k) (F (k + 1))
structure Ins (c:Nat→Nat→Int) (n i j:Nat) (F:Nat→Nat):Prop where
 lt:∀ k,k < n→F k < n
 inj:∀ k m,k < n→m < n→F k=F m→k=m
 x:F j=i
 hi:∀ k,i < k→k < n→F k=k
 lo:∀ k,k≤i→F k≤i
 a1:∀ k,k + 1 < j→Ok c (F k) (F (k + 1))
 a2:∀ k,j < k→k + 1≤i→Ok c (F k) (F (k + 1))
 a3:∀ k,k + 1=j→j < i→Ok c (F k) (F (j + 1))
 a4:j < i→Ok c i (F (j + 1))
 ji:j≤i
 n:i < n
theorem Srt.first (c:Nat→Nat→Int) (n:Nat):Srt c n 1 fun k=>k :=
 ⟨fun _ h=>h,fun _ _ _ _ h=>h,fun _ _ _=>rfl,fun _ h=>h,fun _ h=>by omega⟩
theorem Srt.start {c:Nat→Nat→Int} {n i:Nat} {F:Nat→Nat} (h:Srt c n i F) (hi:i < n):Ins c n i i F :=
 ⟨h.lt,h.inj,h.hi i nr_ hi,fun k h1 h2=>h.hi k (by omega) h2,fun k hk=>by
  rcases Nat.lt_or_ge k i with h1 | h1
  ·exact Nat.le_of_lt (h.lo k h1)
  ·have:k=i:=by omega
   rw [this,h.hi i nr_ hi]; exact Nat.le_refl _,h.adj,fun k h1 h2=>by omega,fun k h1 h2=>by omega,fun h1=>by omega,Nat.le_refl _,hi⟩
theorem Ins.stop {c:Nat→Nat→Int} {n i j:Nat} {F:Nat→Nat} (h:Ins c n i j F) (hs:j=0∨0≤c (F j) (F (j - 1))):Srt c n (i + 1) F:=by
 refine ⟨h.lt,h.inj,fun k h1 h2=>h.hi k (by omega) h2,fun k hk=>Nat.lt_succ_of_le (h.lo k (by omega)),fun k hk=>?_⟩
 have hji:=h.ji
 have hn:=h.n
 rcases Nat.lt_trichotomy (k + 1) j with h1 | h1 | h1
 ·exact h.a1 k h1
 ·rcases hs with h0 | h0
  ·omega
  ·have e:j - 1=k:=by omega
   rw [e] at h0
   rw [h1]
   refine ⟨h0,fun _=>?_⟩
   have hx:=h.x
   have h2:=h.lo k (by omega)
   have h3:F k≠F j:=fun e=>by have:=h.inj k j (by omega) (by omega) e; omega
   omega
 ·rcases Nat.lt_or_ge j k with h2 | h2
  ·exact h.a2 k h2 (by omega)
  ·have e:k=j:=by omega
   subst e
   rw [h.x]
   exact h.a4 (by omega)
def swF (F:Nat→Nat) (j:Nat):Nat→Nat:=fun k=>if k=j then F (j + 1) else if k=j + 1 then F j else F k
theorem Ins.swap {c:Nat→Nat→Int} (hc:∀ u v,c v u = - c u v) {n i j:Nat} {F:Nat→Nat} (h:Ins c n i (j + 1) F) (hs:c (F (j + 1)) (F j) < 0):Ins c n i j (swF F j):=by
 have hji:=h.ji
 have hn:=h.n
 have hx:=h.x
 have s1:swF F j j=i:=by unfold swF; rw [if_pos rfl]; exact hx
 have s2:swF F j (j + 1)=F j:=by unfold swF; rw [if_neg (by omega),if_pos rfl]
 have s3:∀ k,k≠j→k≠j + 1→swF F j k=F k:=fun k h1 h2=>by unfold swF; rw [if_neg h1,if_neg h2]
 refine ⟨fun k hk=>?_,fun k m hk hm e=>?_,s1,fun k h1 h2=>?_,fun k hk=>?_,fun k hk=>?_,fun k h1 h2=>?_,fun k h1 h2=>?_,fun h1=>?_,by omega,hn⟩
 ·unfold swF
  split
  ·exact h.lt _ (by omega)
  ·split
   ·exact h.lt _ (by omega)
   ·exact h.lt _ hk
 ·unfold swF at e
  by_cases k1:k=j
  ·by_cases m1:m=j
   ·omega
   ·rw [if_pos k1,if_neg m1] at e
    by_cases m2:m=j + 1
    ·rw [if_pos m2] at e
     have:=h.inj _ _ (by omega) (by omega) e
     omega
    ·rw [if_neg m2] at e
     have:=h.inj _ _ (by omega) hm e
     omega
  ·rw [if_neg k1] at e
   by_cases k2:k=j + 1
   ·rw [if_pos k2] at e
    by_cases m1:m=j
    ·rw [if_pos m1] at e
     have:=h.inj _ _ (by omega) (by omega) e
     omega
    ·rw [if_neg m1] at e
     by_cases m2:m=j + 1
     ·omega
     ·rw [if_neg m2] at e
      have:=h.inj _ _ (by omega) hm e
      omega
   ·rw [if_neg k2] at e
    by_cases m1:m=j
    ·rw [if_pos m1] at e
     have:=h.inj _ _ hk (by omega) e
     omega
    ·rw [if_neg m1] at e
     by_cases m2:m=j + 1
     ·rw [if_pos m2] at e
      have:=h.inj _ _ hk (by omega) e
      omega
     ·rw [if_neg m2] at e
      exact h.inj _ _ hk hm e
 ·rw [s3 k (by omega) (by omega)]; exact h.hi k h1 h2
 ·unfold swF
  split
  ·omega
  ·split
   ·exact h.lo _ (by omega)
   ·exact h.lo _ hk
 ·rw [s3 k (by omega) (by omega),s3 (k + 1) (by omega) (by omega)]
  exact h.a1 k (by omega)
 ·rcases Nat.lt_or_ge (j + 1) k with h3 | h3
  ·rw [s3 k (by omega) (by omega),s3 (k + 1) (by omega) (by omega)]
   exact h.a2 k h3 h2
  ·have e:k=j + 1:=by omega
   subst e
   rw [s2,s3 (j + 1 + 1) (by omega) (by omega)]
   exact h.a3 j rfl (by omega)
 ·subst h1
  rw [s3 k (by omega) (by omega),s2]
  exact h.a1 k (by omega)
 ·rw [s2,← hx]
  have e:=hc (F (j + 1)) (F j)
  exact ⟨by omega,fun h0=>by omega⟩
structure RowF (W:World) (g n:Nat) (F:Nat→Nat):Prop where
 lt:g < W.heap.size
 cell:∀ k,k < n→W.cell? ⟨g,k,none⟩=some (.int .i64 (F k:Nat))
 fr:∀ k,W.frozen? ⟨g,k,none⟩=false
theorem RowF.below {W W':World} {g n D:Nat} {F:Nat→Nat} (h:RowF W g n F) (hb:Below D W W') (hD:W.heap.size≤D):RowF W' g n F:=by
 have hlt:=h.lt
 have e:=hb.block g (by omega)
 have hs:=hb.size
 refine ⟨?_,fun k hk=>?_,fun k=>?_⟩
 ·have h2:=Array.getElem?_eq_some_iff.1 (show W.heap[g]?=some W.heap[g] from Array.getElem?_eq_getElem hlt)
  rw [Array.getElem?_eq_getElem hlt] at e
  exact (Array.getElem?_eq_some_iff.1 e).1
 ·rw [hb.cell (p:=⟨g,k,none⟩) (show g < D by omega)]
  exact h.cell k hk
 ·have:=h.fr k
  unfold World.frozen? at this ⊢
  rw [show W'.heap[(⟨g,k,none⟩:Addr).block]?=W.heap[(⟨g,k,none⟩:Addr).block]? from e]
  exact this
end Go.Proofs.YtkoicfghplmghaaGreatDoor

namespace Go.Proofs.YtkoicfghplmghaaGreatDoor
open Go.RowKit
theorem RowF.swap {W:World} {g n:Nat} {F:Nat→Nat} (h:RowF W g n F) (j:Nat) (hj:j + 1 < n) :
  RowF ((W.setCell ⟨g,j + 1,none⟩ (.int .i64 (F j:Nat))).setCell ⟨g,j,none⟩ (.int .i64 (F (j + 1):Nat))) g n (swF F j):=by
 have h0:=h.cell j (by omega)
 have h1:=h.cell (j + 1) hj
 have ne:∀ a b:Nat,a≠b→(⟨g,a,none⟩:Addr)≠⟨g,b,none⟩:=fun a b hab e=>by cases e; exact hab rfl
 refine ⟨by simpa using h.lt,fun k hk=>?_,fun k=>?_⟩
 ·unfold swF
  by_cases k1:k=j
  ·subst k1
   rw [if_pos rfl]
   exact World.cell?_setCell_same _ _ _ (u := .int .i64 (F k:Nat)) (by rw [World.cell?_setCell_other _ _ _ _ (ne _ _ (by omega))]; exact h0)
  ·rw [if_neg k1,World.cell?_setCell_other _ _ _ _ (ne _ _ (fun e=>k1 e.symm))]
   by_cases k2:k=j + 1
   ·subst k2
    rw [if_pos rfl]
    exact World.cell?_setCell_same _ _ _ h1
   ·rw [if_neg k2,World.cell?_setCell_other _ _ _ _ (ne _ _ (fun e=>k2 e.symm))]
    exact h.cell k hk
 ·have:=h.fr k
  simpa using this
structure Fin' (c:Nat→Nat→Int) (n:Nat) (F:Nat→Nat):Prop where
 lt:∀ k,k < n→F k < n
 inj:∀ k m,k < n→m < n→F k=F m→k=m
 adj:∀ k,k + 1 < n→Ok c (F k) (F (k + 1))
theorem insertion_any (w:World) (B g n cap:Nat) (P2 P3:Value) (c:Nat→Nat→Int) (hc:∀ u v,c v u = - c u v) (hb:∀ u v,-1≤c u v∧c u v≤1) (hB:B≤g) (hn:n≤1000) (hrow:RowF w g n fun k=>k)
  (hcmp:∀ W,Below B w W→∀ i j:Nat,i < n→j < n→Gives Tryz.prog 118 #[.int .i64 i,.int .i64 j,P2,P3] W (.int .i64 (c i j))) :
  Calls Tryz.prog 182 #[.slice (some ⟨g,0,none⟩) n cap,.int .i64 0,.int .i64 n,.func (.func 118) #[] #[P2,P3]] w fun e w'=>e = .returned (.tuple #[])∧∃ F,Fin' c n F∧RowF w' g n F∧Below B w w':=by
 have Hc:=hd_ hc
 have Hb:=hd_ hb
 have Hcmp:=hd_ hcmp
 have Hrow:=hd_ hrow
 clear hc hb hcmp hrow
 go_enter Tryz.func182,Tryz.ntmps182
 go_wp2_with fail
 go_loopw [8] (fun z wr=>∃ (i:Nat) (F:Nat→Nat),1≤i∧z = .int .i64 i∧Hid (Srt c n i F)∧Hid (RowF wr g n F)∧Hid (Below B w wr)) (fun z _=>n - (intOf z).toNat)
 case atStart=>exact ⟨1,fun k=>k,Nat.le_refl _,rfl,Srt.first c n,Hrow.out,Below.refl _ _⟩
 case round =>
  obtain ⟨i,F,hi1,rfl,HS,HR,HB⟩:=hrel
  clear Hrow
  by_cases hlt:i < n
  ·have hlt':(i:Int) < n:=by omega
   go_wp2_with fail
   go_loopw [9] (fun z wr=>∃ (j:Nat) (F:Nat→Nat),j≤i∧z = .int .i64 j∧Hid (Ins c n i j F)∧Hid (RowF wr g n F)∧Hid (Below B w wr)) (fun z _=>(intOf z).toNat)
   case atStart=>exact ⟨i,F,Nat.le_refl _,rfl,HS.out.start hlt,HR.out,HB.out⟩
   case round =>
    clear HS HR HB
    obtain ⟨j,F,hji,rfl,HI,HR,HB⟩:=hrel
    rcases Nat.eq_zero_or_pos j with h0 | h0
    ·subst h0
     have HS2:=hd_ (HI.out.stop (.inl rfl))
     go_wp2_with fail
     go_quiet (fail)
     go_wp2
     go_roundw
     case rel=>exact ⟨i + 1,F,by omega,by go_num,HS2.out,HR.out.below (below_dn (Below.refl wr.heap.size wr) _) nr_,below_dn HB.out _⟩
     case measure=>simp [intOf]; omega
    ·obtain ⟨p,rfl⟩:∃ p,j=p + 1:=⟨j - 1,by omega⟩
     have hBs:B≤wr.heap.size:=Nat.le_trans hB (Nat.le_of_lt HR.out.lt)
     have k1:=HR.out.cell (p + 1) (by omega)
     have k0:=HR.out.cell p (by omega)
     have Hcall:=hd_ fun W hW=>Hcmp.out W hW (F (p + 1)) (F p) (HI.out.lt _ (by omega)) (HI.out.lt _ (by omega))
     have hcb:=Hb.out (F (p + 1)) (F p)
     have q1:=BW.cell k1
     have q0:=BW.cell k0
     have hnon:Nonempty (BW wr):=⟨⟨wr,Below.refl _ _⟩⟩
     have I:Hid (Below wr.heap.size wr wr.drew):=(Below.refl _ _).drew
     have hpi:(p:Int) + 1 < n:=by omega
     have hpi0:(p:Int) < n:=by omega
     go_wp2_with fail
     clear k0 k1
     refine RY.wp_region_readers 14 [(1,0),(1,1),(1,2),(1,3),(1,4),(1,5),(1,6),(1,7),(1,8),(1,9),(1,10),(1,11),(1,12),(1,13),(0,14),(2,15),(0,16)] (fun w'=>∃ p:BW wr,w'=p.w) (by kernel_rfl) (by kernel_rfl) ?_ ?_
     ·exact ⟨⟨_,I.out⟩,rfl⟩
     iterate 14 (refine RY.walkR_read ?_; simp only [dsc_,dz_,tsc_,tz_]; go_big_quiet_step (fail); refine wpQuiet_nil ?_)
     clear hnon q0 q1
     refine RY.walkR_move ?_
     simp only [dsc_,dz_,tsc_,tz_]
     go_wp2_with fail
     refine cm_ (Hcall.out _ (HB.out.trans (I.out.mono hBs))) ?_
     rintro e_ w2 ⟨rfl,hb_⟩
     have D:Hid (Below wr.heap.size wr w2):=I.out.trans (hb_.mono I.out.size)
     have HR2:=hd_ (HR.out.below D.out nr_)
     have HB2:=hd_ (HB.out.trans (D.out.mono hBs))
     clear hb_ I D Hcall HR HB
     by_cases hneg:c (F (p + 1)) (F p) < 0
     ·have HI2:=hd_ (HI.out.swap Hc.out hneg)
      have HR3:=hd_ (HR2.out.swap p (by have:=HI.out.n; omega))
      have HB3:=hd_ ((HB2.out.setCell (p:=⟨g,p + 1,none⟩) hB (.int .i64 (F p:Nat))).setCell (p:=⟨g,p,none⟩) hB (.int .i64 (F (p + 1):Nat)))
      have k1:=HR2.out.cell (p + 1) (by omega)
      have k0:=HR2.out.cell p (by omega)
      have f1:=HR2.out.fr (p + 1)
      have f0:=HR2.out.fr p
      generalize F (p + 1)=x at *
      generalize F p=y at *
      generalize c x y=z at *
      go_wp2_with fail
      refine RY.walkR_any ?_
      simp only [dsc_,dz_,tsc_,tz_]
      go_big_quiet_step (fail)
      refine wpQuiet_nil ?_
      refine RY.walkR_move ?_
      simp only [dsc_,dz_,tsc_,tz_]
      go_wp2_with fail
      simp only [RY.walkR]
      go_wp2_with fail
      go_region
      go_wp2
      go_roundw
      case rel=>exact ⟨p,_,by omega,rfl,HI2.out,HR3.out.below (Below.refl _ _).drew nr_,HB3.out.drew⟩
      case measure=>simp [intOf]
     ·have HS2:=hd_ (HI.out.stop (.inr (by rw [Nat.add_sub_cancel]; omega)))
      generalize F (p + 1)=x at *
      generalize F p=y at *
      generalize c x y=z at *
      go_wp2_with fail
      refine RY.walkR_any ?_
      simp only [dsc_,dz_,tsc_,tz_]
      go_big_quiet_step (fail)
      refine wpQuiet_nil ?_
      refine RY.walkR_move ?_
      simp only [dsc_,dz_,tsc_,tz_]
      go_wp2_with fail
      simp only [RY.walkR]
      go_wp2
      go_roundw
      case rel=>exact ⟨i + 1,F,by omega,by go_num,HS2.out,HR2.out,HB2.out⟩
      case measure=>simp [intOf]; omega
  ·have hlt':¬ (i:Int) < n:=by omega
   go_wp2
   go_end0
   exact ⟨rfl,F,⟨HS.out.lt,HS.out.inj,fun k hk=>HS.out.adj k (by omega)⟩,HR.out,HB.out⟩
end Go.Proofs.YtkoicfghplmghaaGreatDoor

namespace Go.Proofs.YtkoicfghplmghaaGreatDoor
open Go.RowKit Go.Proofs.YtkoicfghplmghaaGreatDoor.RY
structure AddFacts (w:World) (ps:List Int) (la lb:List Rat) (s t:ByteArray):Prop where
 hi:I64s ps
 hp:pcode ps=0
 l1:la.length=ps.length
 l2:lb.length=ps.length
 s1:∀ q∈la,Sm 2 q
 s2:∀ q∈lb,Sm 2 q
 hs:s.size≤45
 ht:t.size≤45
 L:Laid w
theorem AddFacts.add {w W:World} {ps:List Int} {la lb:List Rat} {s t:ByteArray} (H:AddFacts w ps la lb s t) (hW:Below w.heap.size w W) {a0 a1 a2:Option Addr} (c0 c1 c2:Nat) (rp:Rd W a0 (ints ps)) (r1:Rd W a1 (cellsQ la)) (r2:Rd W a2 (cellsQ lb)) :
  Calls Tryz.prog 54 #[.slice a0 ps.length c0,.slice a1 ps.length c1,.slice a2 ps.length c2] W fun e w'=>∃ a c,e = .returned (.tuple #[.slice a ps.length c,.int .i64 0])∧Rd w' a (cellsQ (combineQ la lb 1 1))∧Below W.heap.size W w':=by
 have h:=add_gen W ps a0 a1 a2 c0 c1 c2 la lb rp H.hi H.hp r1 r2 H.l1 H.l2 (fun q hq=>(H.s1 q hq).le (by decide)) (fun q hq=>(H.s2 q hq).le (by decide)) (H.L.below hW)
 rw [show (((1:Int):Rat))=1 from rfl,sumQ_two _ _ _ _ _ H.l1 H.l2,sumCode_small la lb 1 H.s1 H.s2 sm_one,H.l1,H.l2] at h
 unfold GivesC at h
 rw [if_pos rfl,combineQ_length _ _ _ _ (H.l1.trans H.l2.symm),H.l1] at h
 refine cm_ h ?_
 rintro e w' ⟨a,c,rfl,hr,hb⟩
 exact ⟨a,c,rfl,hr rfl,hb⟩
theorem AddFacts.sub {w W:World} {ps:List Int} {la lb:List Rat} {s t:ByteArray} (H:AddFacts w ps la lb s t) (hW:Below w.heap.size w W) {a0 a1 a2:Option Addr} (c0 c1 c2:Nat) (rp:Rd W a0 (ints ps)) (r1:Rd W a1 (cellsQ la)) (r2:Rd W a2 (cellsQ lb)) :
  Calls Tryz.prog 114 #[.slice a0 ps.length c0,.slice a1 ps.length c1,.slice a2 ps.length c2] W fun e w'=>∃ a c,e = .returned (.tuple #[.slice a ps.length c,.int .i64 0])∧Rd w' a (cellsQ (combineQ la lb 1 ((-1:Int):Rat)))∧Below W.heap.size W w':=by
 have h:=sub_gen W ps a0 a1 a2 c0 c1 c2 la lb rp H.hi H.hp r1 r2 H.l1 H.l2 (fun q hq=>(H.s1 q hq).le (by decide)) (fun q hq=>(H.s2 q hq).le (by decide)) (H.L.below hW)
 rw [sumQ_two _ _ _ _ _ H.l1 H.l2,sumCode_small la lb _ H.s1 H.s2 sm_mone,H.l1,H.l2] at h
 unfold GivesC at h
 rw [if_pos rfl,combineQ_length _ _ _ _ (H.l1.trans H.l2.symm),H.l1] at h
 refine cm_ h ?_
 rintro e w' ⟨a,c,rfl,hr,hb⟩
 exact ⟨a,c,rfl,hr rfl,hb⟩
end Go.Proofs.YtkoicfghplmghaaGreatDoor

namespace Go.Proofs.YtkoicfghplmghaaGreatDoor
open Go.RowKit
theorem rat_one_int:((1:Int):Rat)=1:=rfl
theorem rat_mone_int:((-1:Int):Rat) = -1:=by decide +kernel
theorem sz_cases {ps:List Int} (hp:∀ p∈ps,0 < p) (l:List Rat):LN.sz ps l=1∨LN.sz ps l=0∨LN.sz ps l = -1:=by
 rw [LN.sz_of_vt hp]; exact LN.sg_cases _
end Go.Proofs.YtkoicfghplmghaaGreatDoor

namespace Go.Proofs.YtkoicfghplmghaaGreatDoor
open Go.RowKit
theorem elIntS:ElemOf Tryz.prog 23 3 (.int .i64 0) 1 8:=⟨Tryz.underlying23,info_parts infoP,rfl,by decide⟩
structure SortAt (W:World) (ps:List Int) (g2 g3:Nat) (a0 al:Option Addr) (c0 cl:Nat) (LL:List (List Rat)):Prop where
 h2:W.heap[g2]?=some (.cells #[.slice a0 ps.length c0] 24 (0,0))
 h3:W.heap[g3]?=some (.cells #[.slice al LL.length cl] 53 (0,0))
 rp:Rd W a0 (ints ps)
 rl:RdL W al (LL.map (List.map qs))
theorem SortAt.below {W W':World} {ps:List Int} {g2 g3:Nat} {a0 al:Option Addr} {c0 cl:Nat} {LL:List (List Rat)} (h:SortAt W ps g2 g3 a0 al c0 cl LL) {D:Nat} (hb:Below D W W') (hD:W.heap.size≤D):SortAt W' ps g2 g3 a0 al c0 cl LL :=
 ⟨heap_kept h.h2 hb hD,heap_kept h.h3 hb hD,h.rp.below hb hD,h.rl.below hb hD⟩
structure SortOk (ps:List Int) (LL:List (List Rat)):Prop where
 p0:pcode ps=0
 pr:∀ p∈ps,2≤p∧p≤97
 pos:∀ p∈ps,0 < p
 n:ps.length≤100
 len:∀ l∈LL,l.length=ps.length
 sm:∀ l∈LL,∀ q∈l,Sm 30 q
 good:∀ a∈LL,∀ b∈LL,Good ps (difQ a b)
def cS (ps:List Int) (LL:List (List Rat)) (u v:Nat):Int:=if u < LL.length∧v < LL.length then LN.sz ps (difQ (LL.getD u []) (LL.getD v [])) else 0
theorem getD_memL {LL:List (List Rat)} {u:Nat} (h:u < LL.length):LL.getD u []∈LL:=by
 rw [List.getD_eq_getElem?_getD,List.getElem?_eq_getElem h]; exact List.getElem_mem h
theorem cS_neg {ps:List Int} {LL:List (List Rat)} (O:SortOk ps LL) (u v:Nat):cS ps LL v u = - cS ps LL u v:=by
 unfold cS
 by_cases h:u < LL.length∧v < LL.length
 ·rw [if_pos h,if_pos ⟨h.2,h.1⟩]
  exact sz_swap O.pos ((O.len _ (getD_memL h.1)).trans (O.len _ (getD_memL h.2)).symm)
 ·rw [if_neg h,if_neg (fun h2=>h ⟨h2.2,h2.1⟩)]; rfl
theorem cS_le {ps:List Int} {LL:List (List Rat)} (O:SortOk ps LL) (u v:Nat) : -1≤cS ps LL u v∧cS ps LL u v≤1:=by
 unfold cS
 split
 ·rcases sz_cases O.pos (difQ (LL.getD u []) (LL.getD v [])) with h | h | h <;> omega
 ·omega
theorem srt1_any (w:World) (ps:List Int) (g2 g3:Nat) (a0 al:Option Addr) (c0 cl:Nat) (LL:List (List Rat)) (S:SortAt w ps g2 g3 a0 al c0 cl LL) (O:SortOk ps LL) (i j:Nat) (hi:i < LL.length) (hj:j < LL.length) (L:Laid w) :
  Gives Tryz.prog 118 #[.int .i64 i,.int .i64 j,.pointer (some ⟨g2,0,none⟩),.pointer (some ⟨g3,0,none⟩)] w (.int .i64 (cS ps LL i j)):=by
 unfold Gives
 have e:sumQ ps.length [LL.getD i [],LL.getD j []] [1,-1]=difQ (LL.getD i []) (LL.getD j []):=by
  rw [sumQ_two _ _ _ _ _ (O.len _ (getD_memL hi)) (O.len _ (getD_memL hj))]
  unfold difQ
  rw [rat_one_int,rat_mone_int]
 obtain ⟨b,off,rfl,hb,hcells⟩:∃ b off,al=some ⟨b,off,none⟩∧b < w.heap.size∧∀ i,i < LL.length→∃ a' c',w.cell? ⟨b,off + i,none⟩=some (.slice a' ps.length c')∧Rd w a' (cellsQ (LL.getD i [])):=by
  rcases S.rl with h | ⟨b,off,h1,h2,h3⟩
  ·have:=congrArg List.length h
   simp at this
   rw [this] at hi
   simp at hi
  ·refine ⟨b,off,h1,h2,fun i hi=>?_⟩
   obtain ⟨a',c',k1,k2⟩:=h3 i (by simpa using hi)
   have e:(LL.map (List.map qs)).getD i []=(LL.getD i []).map qs:=by
    rw [List.getD_eq_getElem?_getD,List.getD_eq_getElem?_getD,List.getElem?_map]
    cases LL[i]? <;> rfl
   rw [e] at k1 k2
   rw [List.length_map,O.len _ (getD_memL hi)] at k1
   exact ⟨a',c',k1,k2⟩
 obtain ⟨a1,c1,k1,r1⟩:=hcells i hi
 obtain ⟨a2,c2,k2,r2⟩:=hcells j hj
 have HC:Hid (∀ W,Below w.heap.size w W→Gives Tryz.prog 119 #[.slice a0 ps.length c0,.slice a1 ps.length c1,.slice a2 ps.length c2] W (.int .i64 (cS ps LL i j))):=fun W hW=>by
  have h:=compare_dec W ps a0 a1 a2 c0 c1 c2 30 _ _ ⟨S.rp.below hW nr_,r1.below hW nr_,O.len _ (getD_memL hi),O.n,O.pr,O.sm _ (getD_memL hi),by decide⟩ ⟨S.rp.below hW nr_,r2.below hW nr_,O.len _ (getD_memL hj),O.n,O.pr,O.sm _ (getD_memL hj),by decide⟩ (L.below hW) (by decide)
   (by rw [e]; exact O.good _ (getD_memL hi) _ (getD_memL hj))
  rw [e,O.len _ (getD_memL hi),O.len _ (getD_memL hj)] at h
  unfold cS
  rw [if_pos ⟨hi,hj⟩]
  exact h
 have m2:=(one_cell S.h2).1
 have m3:=(one_cell S.h3).1
 have q1:=BW.cell k1
 have q2:=BW.cell k2
 have q3:=BW.cell m2
 have q4:=BW.cell m3
 have hnon:Nonempty (BW w):=⟨⟨w,Below.refl _ _⟩⟩
 have I:Hid (Below w.heap.size w w.drew):=(Below.refl _ _).drew
 have hi':(i:Int) < LL.length:=by omega
 have hj':(j:Int) < LL.length:=by omega
 clear S O L e hcells r1 r2 hb
 generalize cS ps LL i j=z at *
 generalize LL.length=m at *
 generalize ps.length=n at *
 go_enter Tryz.func118,Tryz.ntmps118
 go_wp2_with fail
 clear k1 k2 m2 m3
 refine RY.wp_region_readers 9 [(1,0),(1,1),(1,2),(1,3),(1,4),(1,5),(1,6),(1,7),(1,8),(0,9),(0,10)] (fun w'=>∃ p:BW w,w'=p.w) (by kernel_rfl) (by kernel_rfl) ?_ ?_
 ·exact ⟨⟨_,I.out⟩,rfl⟩
 iterate 9 (refine RY.walkR_read ?_; simp only [dsc_,dz_,tsc_,tz_]; go_big_quiet_step (fail); refine wpQuiet_nil ?_)
 clear hnon q1 q2 q3 q4
 refine RY.walkR_move ?_
 simp only [dsc_,dz_,tsc_,tz_]
 go_wp2_with fail
 refine cm_ (HC.out _ I.out) ?_
 rintro e_ w2 ⟨rfl,hb_⟩
 have B2:=hd_ (I.out.trans (hb_.mono I.out.size))
 clear hb_ I HC
 go_wp2_with fail
 refine RY.walkR_move ?_
 simp only [dsc_,dz_,tsc_,tz_]
 go_wp2_with fail
 simp only [RY.walkR]
 go_wp2_with fail
 go_ret
 exact ⟨rfl,B2.out⟩
theorem stable_any (w:World) (B g n cap:Nat) (P2 P3:Value) (c:Nat→Nat→Int) (hc:∀ u v,c v u = - c u v) (hb:∀ u v,-1≤c u v∧c u v≤1) (hB:B≤g) (hn:n≤19) (hrow:RowF w g n fun k=>k)
  (hcmp:∀ W,Below B w W→∀ i j:Nat,i < n→j < n→Gives Tryz.prog 118 #[.int .i64 i,.int .i64 j,P2,P3] W (.int .i64 (c i j))) :
  Calls Tryz.prog 90 #[.slice (some ⟨g,0,none⟩) n cap,.func (.func 118) #[] #[P2,P3]] w fun e w'=>e = .returned (.tuple #[])∧∃ F,Fin' c n F∧RowF w' g n F∧Below B w w':=by
 have Hi:=hd_ (insertion_any w B g n cap P2 P3 c hc hb hB (by omega) hrow hcmp)
 clear hc hb hrow hcmp
 have hn1:¬ (20:Int)≤n:=by omega
 have hn2:¬ (20:Int) < n:=by omega
 have H2:Hid (Calls Tryz.prog 146 #[.slice (some ⟨g,0,none⟩) n cap,.int .i64 n,.func (.func 118) #[] #[P2,P3]] w fun e w'=>e = .returned (.tuple #[])∧∃ F,Fin' c n F∧RowF w' g n F∧Below B w w'):=by
  show Calls _ _ _ _ _
  go_enter Tryz.func146,Tryz.ntmps146
  go_wp2_with fail
  refine wp_loop_rounds 1 ?_
  rw [rounds_succ]
  go_wp2_with fail
  refine cm_ Hi.out ?_
  rintro e w1 ⟨rfl,F,hF,hR,hb⟩
  have HF:=hd_ hF
  have HR:=hd_ hR
  have HB:=hd_ hb
  clear hF hR hb Hi
  go_wp2_with fail
  refine wp_loop_rounds 1 ?_
  rw [rounds_succ]
  go_wp2
  go_end0
  exact ⟨rfl,F,HF.out,HR.out,HB.out⟩
 clear Hi
 go_enter Tryz.func90,Tryz.ntmps90
 go_wp2_with fail
 refine cm_ H2.out ?_
 rintro e w1 ⟨rfl,F,hF,hR,hb⟩
 have HF:=hd_ hF
 have HR:=hd_ hR
 have HB:=hd_ hb
 clear hF hR hb H2
 go_wp2_with fail
 go_end0
 exact ⟨rfl,F,HF.out,HR.out,HB.out⟩
theorem stable_nil (w:World) (P2 P3:Value):Calls Tryz.prog 90 #[.slice none 0 0,.func (.func 118) #[] #[P2,P3]] w fun e w'=>e = .returned (.tuple #[])∧w'=w:=by
 have H1:Hid (Calls Tryz.prog 182 #[.slice none 0 0,.int .i64 0,.int .i64 0,.func (.func 118) #[] #[P2,P3]] w fun e w'=>e = .returned (.tuple #[])∧w'=w):=by
  show Calls _ _ _ _ _
  go_enter Tryz.func182,Tryz.ntmps182
  go_wp2_with fail
  refine wp_loop_rounds 1 ?_
  rw [rounds_succ]
  go_wp2
  go_end0
  exact ⟨rfl,rfl⟩
 have H2:Hid (Calls Tryz.prog 146 #[.slice none 0 0,.int .i64 0,.func (.func 118) #[] #[P2,P3]] w fun e w'=>e = .returned (.tuple #[])∧w'=w):=by
  show Calls _ _ _ _ _
  go_enter Tryz.func146,Tryz.ntmps146
  go_wp2_with fail
  refine wp_loop_rounds 1 ?_
  rw [rounds_succ]
  go_wp2_with fail
  refine cm_ H1.out ?_
  rintro e w1 ⟨rfl,rfl⟩
  go_wp2_with fail
  refine wp_loop_rounds 1 ?_
  rw [rounds_succ]
  go_wp2
  go_end0
  exact ⟨rfl,rfl⟩
 clear H1
 go_enter Tryz.func90,Tryz.ntmps90
 go_wp2_with fail
 refine cm_ H2.out ?_
 rintro e w1 ⟨rfl,rfl⟩
 go_wp2_with fail
 go_end0
 exact ⟨rfl,rfl⟩
end Go.Proofs.YtkoicfghplmghaaGreatDoor

namespace Go.Proofs.YtkoicfghplmghaaGreatDoor
open Go.RowKit
def idL (j:Nat):List Int:=(List.range j).map fun (k:Nat)=>(k:Int)
theorem idL_length (j:Nat):(idL j).length=j:=by simp [idL]
theorem idL_succ (j:Nat):idL (j + 1)=idL j ++ [(j:Int)]:=by simp [idL,List.range_succ]
theorem RowF.rd {W:World} {g n:Nat} {F:Nat→Nat} (h:RowF W g n F):Rd W (some ⟨g,0,none⟩) (ints ((List.range n).map fun (k:Nat)=>((F k:Nat):Int))):=by
 refine .inr ⟨g,0,rfl,h.lt,fun i v hv=>?_⟩
 rw [Nat.zero_add]
 have hi:i < n:=by
  have:=(List.getElem?_eq_some_iff.1 hv).1
  simpa [ints_length] using this
 rw [ints_get _ i (by simpa using hi)] at hv
 cases hv
 rw [h.cell i hi]
 simp
theorem Sort_ok (w:World) (ps:List Int) (a0 al:Option Addr) (c0 cl:Nat) (LL:List (List Rat)) (rp:Rd w a0 (ints ps)) (rl:RdL w al (LL.map (List.map qs))) (O:SortOk ps LL) (hm:LL.length≤19) (L:Laid w) :
  Calls Tryz.prog 66 #[.slice a0 ps.length c0,.slice al LL.length cl] w fun e w'=>∃ a c F,e = .returned (.tuple #[.slice a LL.length c,.int .i64 0])∧Fin' (cS ps LL) LL.length F∧Rd w' a (ints ((List.range LL.length).map fun (k:Nat)=>((F k:Nat):Int)))∧Below w.heap.size w w':=by
 have hn:=O.n
 have hi:I64s ps:=fun x hx=>by have:=O.pr x hx; omega
 have Hc:Hid (∀ W,Below w.heap.size w W→Gives Tryz.prog 108 #[.slice a0 ps.length c0,.slice al LL.length cl] W (.int .i64 0)):=fun W hW=>by
  have h:=checkAll_any W a0 al c0 cl ps (LL.map (List.map qs)) (rp.below hW nr_) hi (by omega) (rl.below hW nr_) (by rw [List.length_map]; omega) (fun l hl=>by
   obtain ⟨x,hx,rfl⟩:=List.mem_map.1 hl
   exact ⟨by rw [List.length_map,O.len x hx]; omega,ssz_ok (O.sm x hx)⟩) (L.below hW)
  rw [lcode_ok O.p0 fun l hl=>⟨O.len l hl,O.sm l hl⟩,List.length_map] at h
  exact h
 have HL:=hd_ L
 have HO:=hd_ O
 have Hrp:=hd_ rp
 have Hrl:=hd_ rl
 clear L O rp rl hi
 have B0:=hd_ ((((Below.refl w.heap.size w).alloc nr_ (.cells #[.slice a0 ps.length c0] 24)).alloc (by simp) (.cells #[.slice al LL.length cl] 53)))
 have K2:=hd_ (heap_old (heap_at w #[.slice a0 ps.length c0] 24 _ rfl) (.cells #[.slice al LL.length cl] 53))
 have K3:=hd_ (heap_at (w.alloc (.cells #[.slice a0 ps.length c0] 24)) #[.slice al LL.length cl] 53 (w.heap.size + 1) (by simp))
 have S0:Hid (SortAt ((w.alloc (.cells #[.slice a0 ps.length c0] 24)).alloc (.cells #[.slice al LL.length cl] 53)) ps w.heap.size (w.heap.size + 1) a0 al c0 cl LL) :=
  ⟨K2.out,K3.out,Hrp.out.below B0.out nr_,Hrl.out.below B0.out nr_⟩
 clear K2 K3 Hrp Hrl
 have m2:=(one_cell S0.out.h2).1
 have m3:=(one_cell S0.out.h3).1
 obtain ⟨m,hmm⟩:∃ m,LL.length=m:=⟨_,rfl⟩
 obtain ⟨n,hnn⟩:∃ n,ps.length=n:=⟨_,rfl⟩
 rw [hmm] at hm
 simp only [hmm,hnn] at Hc B0 S0 m2 m3 ⊢
 have Hm:=hd_ hmm
 clear hmm hnn hn
 go_enter Tryz.func66,Tryz.ntmps66
 go_wp2_with fail
 generalize (w.alloc (.cells #[.slice a0 n c0] 24)).alloc (.cells #[.slice al m cl] 53)=w0 at *
 clear m2 m3
 refine cm_ (Hc.out _ B0.out) ?_
 rintro e w2 ⟨rfl,hb⟩
 have B2:=hd_ (B0.out.trans (hb.mono B0.out.size))
 have S2:=hd_ (S0.out.below hb nr_)
 clear hb B0 S0 Hc
 have m3:=(one_cell S2.out.h3).1
 rw [Hm.out] at m3
 go_wp2_with fail
 clear m3
 go_loopw [7,17] (fun o z wr=>∃ (j:Nat) (a:Option Addr) (c:Nat),j≤m∧z = .int .i64 j∧o = .slice a j c∧Hid (j=0→a=none∧c=0)∧Hid (wr.ownsRow w2.heap.size 3 1 (.slice a j c) j (ints (idL j)))∧Hid (Below w2.heap.size w2 wr)) (fun _ z _=>m - (intOf z).toNat)
 case atStart=>exact ⟨0,none,0,Nat.zero_le _,rfl,rfl,fun _=>⟨rfl,rfl⟩,World.ownsRow_nil ..,Below.refl _ _⟩
 case round =>
  obtain ⟨j,a,c,hj,rfl,rfl,HN,HR,HB⟩:=hrel
  by_cases hlt:j < m
  ·have hlt':(j:Int) < m:=by omega
   go_wp2_with (at_builtin; refine wpList_append_new rfl (.tmp 20) (.tmp 22) 23 rfl elIntS _ 1 [.int .i64 j] rfl rfl HR.out HB.out.size rfl ?c1 (by omega) (by omega) ?_)
   case c1=>first | rfl | (intro u hu; obtain rfl:=List.mem_singleton.1 hu; rfl)
   intro v' w3 hown3 hg3 _
   obtain ⟨a3,c3,rfl⟩:=own_form hown3
   have HB3:Hid (Below w2.heap.size w2 w3):=(HB.out.alloc HB.out.size _).grown hg3 (by have:=HB.out.size; simp; omega) (fun k hk=>(HR.out.lt k hk).1)
   have HR3:Hid (w3.ownsRow w2.heap.size 3 1 (.slice a3 (j + 1) c3) (j + 1) (ints (idL (j + 1)))):=by
    rw [idL_succ,ints_append]
    exact hown3
   clear hown3 hg3 HB HR HN
   go_wp2
   go_roundw
   case rel=>exact ⟨j + 1,a3,c3,by omega,by go_num,rfl,fun h=>by omega,HR3,HB3⟩
   case measure=>simp [intOf]; omega
  ·have hlt':¬ (j:Int) < m:=by omega
   obtain rfl:j=m:=by omega
   have SR:=hd_ (S2.out.below HB.out nr_)
   rcases Nat.eq_zero_or_pos j with h0 | h0
   ·subst h0
    obtain ⟨rfl,rfl⟩:=HN.out rfl
    have Hs:=hd_ (stable_nil wr (.pointer (some ⟨w.heap.size,0,none⟩)) (.pointer (some ⟨w.heap.size + 1,0,none⟩)))
    clear HN HR
    go_wp2_with fail
    refine cm_ Hs.out ?_
    rintro e w4 ⟨rfl,rfl⟩
    clear Hs
    go_wp2_with fail
    go_ret2
    exact ⟨none,0,fun k=>k,rfl,⟨fun k hk=>absurd hk (Nat.not_lt_zero _),fun k _ hk=>absurd hk (Nat.not_lt_zero _),fun k hk=>absurd hk (Nat.not_lt_zero _)⟩,.inl rfl,B2.out.trans (HB.out.mono B2.out.size)⟩
   ·obtain ⟨g,cap,hv,hg1,hg2,hg3,hg4,hg5⟩:=own_open HR.out h0
    obtain ⟨rfl,rfl⟩:a=some ⟨g,0,none⟩∧c=cap:=by
     simp only [Value.slice.injEq] at hv
     exact ⟨hv.1,hv.2.2⟩
    have hrow:RowF wr g j fun k=>k:=⟨hg2,fun k hk=>by
     rw [hg4 k (by omega),ints_get _ k (by rw [idL_length]; exact hk)]
     simp [idL],hg5⟩
    have Hs:=hd_ (stable_any wr w2.heap.size g j c (.pointer (some ⟨w.heap.size,0,none⟩)) (.pointer (some ⟨w.heap.size + 1,0,none⟩)) (cS ps LL) (cS_neg HO.out) (cS_le HO.out) hg1 hm hrow fun W hW i k hi hk =>
     srt1_any W ps _ _ a0 al c0 cl LL (S2.out.below (HB.out.trans hW) nr_) HO.out i k (by rw [Hm.out]; exact hi) (by rw [Hm.out]; exact hk) (HL.out.below ((B2.out.trans (HB.out.mono B2.out.size)).trans (hW.mono B2.out.size))))
    clear HN HR hv hg1 hg2 hg3 hg4 hg5 hrow
    go_wp2_with fail
    refine cm_ Hs.out ?_
    rintro e w4 ⟨rfl,F,hF,hR,hb⟩
    have HF:=hd_ hF
    have HR:=hd_ hR
    have HB4:=hd_ (HB.out.trans hb)
    clear Hs hF hR hb
    go_wp2_with fail
    go_ret2
    exact ⟨some ⟨g,0,none⟩,c,F,rfl,HF.out,HR.out.rd,B2.out.trans (HB4.out.mono B2.out.size)⟩
end Go.Proofs.YtkoicfghplmghaaGreatDoor

namespace Go.Proofs.YtkoicfghplmghaaGreatDoor
open Go.RowKit
end Go.Proofs.YtkoicfghplmghaaGreatDoor

namespace Go.Proofs.YtkoicfghplmghaaGreatDoor
open Go.RowKit
def RowB (W:World) (g:Nat) (t:TypeId) (D:List UInt8):Prop:=W.rowIs g t D.length (fun i => .int .u8 ((D.getD i 0).toNat:Nat))
theorem RowB.cell {W:World} {g:Nat} {t:TypeId} {D:List UInt8} (h:RowB W g t D) {i:Nat} (hi:i < D.length):W.cell? ⟨g,i,none⟩=some (.int .u8 ((D.getD i 0).toNat:Nat)):=World.rowIs.cell h hi
theorem RowB.frozen {W:World} {g:Nat} {t:TypeId} {D:List UInt8} (h:RowB W g t D) (i:Nat):W.frozen? ⟨g,i,none⟩=false:=World.rowIs.frozen h i
theorem RowB.set {W:World} {g:Nat} {t:TypeId} {D:List UInt8} (h:RowB W g t D) (i x:Nat) (hx:x < 256):RowB (W.setCell ⟨g,i,none⟩ (.int .u8 (x:Nat))) g t (D.set i (UInt8.ofNat x)):=by
 unfold RowB
 rw [List.length_set]
 refine (World.rowIs.set h i _).congr fun j hj=>?_
 by_cases e:j=i
 ·subst e
  rw [if_pos rfl]
  simp only [List.getD_eq_getElem?_getD,List.getElem?_set]
  simp only [if_true,if_pos hj,Option.getD_some]
  simp [Nat.mod_eq_of_lt hx]
 ·rw [if_neg e]
  simp only [List.getD_eq_getElem?_getD,List.getElem?_set]
  rw [if_neg (fun h=>e h.symm)]
theorem RowB.text {W:World} {g:Nat} {t src dst e:TypeId} {D:List UInt8} (h:RowB W g t D) (k n c:Nat) (hn:k + n=D.length)
  (hs:Tryz.prog.underlying src=some (.slice e)) (he:Tryz.prog.underlying e=some (.int .u8)) (hd:Tryz.prog.underlying dst=some .string) :
  (convert src dst (.slice (some ⟨g,k,none⟩) n c)).run Tryz.prog W = .ok (.string ⟨(D.drop k).toArray⟩) W:=by
 have hl:(D.drop k).length=n:=by simp; omega
 rw [← hl]
 refine run_convert_bytes_back W src dst e ⟨g,k,none⟩ c (D.drop k) hs he hd fun j hj=>?_
 rw [Lib.add_plain]
 rw [RowB.cell h (by omega)]
 rw [List.getD_eq_getElem?_getD,List.getElem?_eq_getElem (by omega)]
 simp
end Go.Proofs.YtkoicfghplmghaaGreatDoor

namespace Go.Proofs.YtkoicfghplmghaaGreatDoor
open Go.RowKit
def jn (L:List ByteArray):ByteArray:=⟨(Lib.join (L.map (·.data.toList)) [32]).toArray⟩
end Go.Proofs.YtkoicfghplmghaaGreatDoor

namespace Go.Proofs.YtkoicfghplmghaaGreatDoor
open Go.RowKit
end Go.Proofs.YtkoicfghplmghaaGreatDoor

namespace Go.Proofs.YtkoicfghplmghaaGreatDoor
open Go.RowKit
end Go.Proofs.YtkoicfghplmghaaGreatDoor

namespace Go.Proofs.YtkoicfghplmghaaGreatDoor
open Go.RowKit
theorem Digs.reverse {l:List UInt8} (h:Digs l):Digs l.reverse:=fun c hc=>h c (List.mem_reverse.1 hc)
structure JAt (w:World) (n:Nat) (T:List UInt8) (wr:World):Prop where
 row:∃ D,RowB wr w.heap.size 5 D∧D.length=9 * n + 1∧(D.getD 0 0).toNat=48∧D.drop (9 * n + 1 - T.length)=T
 bel:Below w.heap.size w wr
theorem JAt.set {w wr:World} {n:Nat} {T:List UInt8} (h:JAt w n T wr) (m x:Nat) (hm:m + T.length=9 * n) (hm0:0 < m) (hx:x < 256):JAt w n (UInt8.ofNat x :: T) (wr.setCell ⟨w.heap.size,m,none⟩ (.int .u8 (x:Nat))):=by
 obtain ⟨D,h1,h2,h3,h4⟩:=h.row
 refine ⟨⟨D.set m (UInt8.ofNat x),h1.set m x hx,by rw [List.length_set]; exact h2,?_,?_⟩,h.bel.setCell nr_ _⟩
 ·rw [List.getD_eq_getElem?_getD,List.getElem?_set_ne (by omega),← List.getD_eq_getElem?_getD]; exact h3
 ·have e:9 * n + 1 - (UInt8.ofNat x :: T).length=m:=by simp; omega
  rw [e,List.drop_eq_getElem_cons (by simp; omega),List.getElem_set_self,List.drop_set,if_pos (by omega)]
  congr 1
  rw [← h4]
  congr 1
  omega
theorem JAt.cell {w wr:World} {n:Nat} {T:List UInt8} (h:JAt w n T wr) (m:Nat) (hm:m≤9 * n):(∃ x:Nat,wr.cell? ⟨w.heap.size,m,none⟩=some (.int .u8 x))∧wr.frozen? ⟨w.heap.size,m,none⟩=false:=by
 obtain ⟨D,h1,h2,_,_⟩:=h.row
 exact ⟨⟨_,h1.cell (by omega)⟩,h1.frozen m⟩
theorem JAt.done {w wr:World} {n:Nat} {T:List UInt8} (h:JAt w n T wr) (hT:T.length=9 * n) (hd:Digs T):∃ D,RowB wr w.heap.size 5 D∧D.length=9 * n + 1∧Digs D∧dval D=dval T:=by
 obtain ⟨D,h1,h2,h3,h4⟩:=h.row
 have e:9 * n + 1 - T.length=1:=by omega
 rw [e] at h4
 match D,h2,h3,h4 with
 | c :: D,h2,h3,h4 =>
  obtain rfl:D=T:=by simpa using h4
  have hc:c.toNat=48:=by simpa using h3
  refine ⟨_,h1,h2,fun y hy=>?_,?_⟩
  ·rcases List.mem_cons.1 hy with rfl | hy
   ·omega
   ·exact hd y hy
  ·rw [dval_cons,hc]; simp
end Go.Proofs.YtkoicfghplmghaaGreatDoor

namespace Go.Proofs.YtkoicfghplmghaaGreatDoor
open Go.RowKit
end Go.Proofs.YtkoicfghplmghaaGreatDoor

namespace Go.Proofs.YtkoicfghplmghaaGreatDoor
open Go.RowKit
end Go.Proofs.YtkoicfghplmghaaGreatDoor

namespace Go.Proofs.YtkoicfghplmghaaGreatDoor
open Go.RowKit
end Go.Proofs.YtkoicfghplmghaaGreatDoor

namespace Go.Proofs.YtkoicfghplmghaaGreatDoor.LN
def upP:List Int→List Int→Nat
 | p :: ps,k :: ks=>p.toNat ^ k.toNat * upP ps ks
 | _,_=>1
theorem upP_snoc:∀ (ps ks:List Int) (p k:Int),ps.length=ks.length→upP (ps ++ [p]) (ks ++ [k])=upP ps ks * p.toNat ^ k.toNat
 | [],[],p,k,_=>by simp [upP]
 | q :: ps,m :: ks,p,k,h=>by
  have ih:=upP_snoc ps ks p k (by simpa using h)
  simp only [List.cons_append,upP]
  rw [ih,Nat.mul_assoc]
theorem upP_le (K:Nat):∀ (ps ks:List Int),(∀ p∈ps,2≤p∧p≤97)→(∀ k∈ks,k≤(K:Int))→upP ps ks < 10 ^ (2 * K * ps.length + 1)
 | [],_,_,_=>by simp [upP]
 | _ :: _,[],_,_=>by
  simp only [upP]
  exact Nat.one_lt_pow (by omega) (by decide)
 | p :: ps,k :: ks,h,h2=>by
  have ih:=upP_le K ps ks (fun q hq=>h q (List.mem_cons_of_mem _ hq)) fun q hq=>h2 q (List.mem_cons_of_mem _ hq)
  obtain ⟨a,b⟩:=h p List.mem_cons_self
  have hk:=h2 k List.mem_cons_self
  simp only [upP]
  have h3:p.toNat ^ k.toNat≤100 ^ k.toNat:=Nat.pow_le_pow_left (by omega) _
  have h4:100 ^ k.toNat≤100 ^ K:=Nat.pow_le_pow_right (by decide) (by omega)
  have h5:(100:Nat) ^ K=10 ^ (2 * K):=by rw [show (100:Nat)=10 ^ 2 from rfl,← Nat.pow_mul]
  rw [h5] at h4
  have e:10 ^ (2 * K * (p :: ps).length + 1)=10 ^ (2 * K) * 10 ^ (2 * K * ps.length + 1):=by rw [← Nat.pow_add]; congr 1; rw [List.length_cons,Nat.mul_add]; omega
  rw [e]
  exact Nat.mul_lt_mul_of_le_of_lt (Nat.le_trans h3 h4) ih (Nat.pow_pos (by decide))
end Go.Proofs.YtkoicfghplmghaaGreatDoor.LN

namespace Go.Proofs.YtkoicfghplmghaaGreatDoor
open Go.RowKit
structure UpAt (ps ks:List Int) (k u d:Nat):Prop where
 up:u=LN.upP (ps.take k) (ks.take k)
 dn:d=LN.upP (ps.take k) ((ks.map fun z => -z).take k)
 le:∀ z∈ks.take k,z≤500 ∧ -500≤z
theorem take_next {α:Type} (l:List α) (k:Nat) (h:k < l.length):l.take (k + 1)=l.take k ++ [l[k]]:=List.take_succ_eq_append_getElem h
theorem UpAt.next {ps ks:List Int} {k u d:Nat} (h:UpAt ps ks k u d) (h1:k < ps.length) (hk:k < ks.length) (hz:ks[k]≤500 ∧ -500≤ks[k]) :
  UpAt ps ks (k + 1) (u * ps[k].toNat ^ ks[k].toNat) (d * ps[k].toNat ^ (-ks[k]).toNat):=by
 refine ⟨?_,?_,?_⟩
 ·rw [take_next ps k h1,take_next ks k hk,LN.upP_snoc _ _ _ _ (by simp; omega),← h.up]
 ·have hk2:k < (ks.map fun z => -z).length:=by simpa using hk
  rw [take_next ps k h1,take_next _ k hk2,LN.upP_snoc _ _ _ _ (by simp; omega),← h.dn,List.getElem_map]
 ·intro z hz2
  rw [take_next ks k hk] at hz2
  rcases List.mem_append.1 hz2 with h3 | h3
  ·exact h.le z h3
  ·obtain rfl:=List.mem_singleton.1 h3
   exact hz
theorem UpAt.num {ps ks:List Int} {k u d:Nat} (h:UpAt ps ks k u d) (hp:∀ p∈ps,2≤p∧p≤97) (hn:ps.length≤100):Num u∧Num d:=by
 have hl:(ps.take k).length≤100:=by simp; omega
 have hb:2 * 500 * (ps.take k).length + 1≤1000000:=by omega
 have hp':∀ p∈ps.take k,2≤p∧p≤97:=fun p hp1=>hp p (List.mem_of_mem_take hp1)
 refine ⟨?_,?_⟩
 ·rw [h.up]
  exact num_pow (LN.upP_le 500 _ _ hp' fun z hz=>by have:=h.le z hz; omega) (by omega) hb
 ·rw [h.dn]
  refine num_pow (LN.upP_le 500 _ _ hp' fun z hz=>?_) (by omega) hb
  rw [← List.map_take] at hz
  obtain ⟨y,hy,rfl⟩:=List.mem_map.1 hz
  have:=h.le y hy
  omega
end Go.Proofs.YtkoicfghplmghaaGreatDoor

namespace Go.Proofs.YtkoicfghplmghaaGreatDoor
open Go.RowKit Go.Proofs.YtkoicfghplmghaaGreatDoor.RY
end Go.Proofs.YtkoicfghplmghaaGreatDoor

namespace Go.Proofs.YtkoicfghplmghaaGreatDoor
open Go.RowKit
end Go.Proofs.YtkoicfghplmghaaGreatDoor

namespace Go.Proofs.YtkoicfghplmghaaGreatDoor
open Go.ChangeShapes Go.WideShapes Go.ChangeAt Go.RowKit Go.Joins
section
variable {H:Type} {enc:TypeId×Value→H} {W:World}
def four {α:Type} (a b c d z : α):Nat → α
 | 0=>a | 1=>b | 2=>c | 3=>d | _=>z
end
end Go.Proofs.YtkoicfghplmghaaGreatDoor

namespace Go.Proofs.YtkoicfghplmghaaGreatDoor
open Go.ChangeShapes Go.WideShapes Go.ChangeAt Go.RowKit Go.Joins
section
variable {H:Type} {enc:TypeId×Value→H} {W:World}
end
end Go.Proofs.YtkoicfghplmghaaGreatDoor

namespace Go.Proofs.YtkoicfghplmghaaGreatDoor
open Go.RowKit
theorem own_apart {w:World} {B1 B2 s1 s2 n1 n2:Nat} {e1 e2:TypeId} {v1 v2:Value} {x1 x2:List Value} (h1:w.ownsRow B1 e1 s1 v1 n1 x1) (h2:w.ownsRow B2 e2 s2 v2 n2 x2) (hne:e1≠e2) :
  ∀ k,v1.ownBlock=some k→v2.ownBlock≠some k:=by
 intro k hk hk2
 rcases h1.2 with ⟨rfl,_⟩ | ⟨g,cap,cur,rfl,_,hg,_⟩
 ·simp [Value.ownBlock] at hk
 ·rcases h2.2 with ⟨rfl,_⟩ | ⟨g2,cap2,cur2,rfl,_,hg2,_⟩
  ·simp [Value.ownBlock] at hk2
  ·simp only [Value.ownBlock,Option.some.injEq] at hk hk2
   subst hk
   subst hk2
   rw [hg] at hg2
   simp only [Option.some.injEq,Obj.cells.injEq] at hg2
   exact hne hg2.2.1
end Go.Proofs.YtkoicfghplmghaaGreatDoor

namespace Go.Proofs.YtkoicfghplmghaaGreatDoor
open Go.RowKit
theorem elSz:ElemOf Tryz.prog 53 47 (.slice none 0 0) 1 24:=⟨Tryz.underlying53,info_parts infoS,rfl,by decide⟩
structure OwnL (w:World) (B:Nat) (b:Option Addr) (d:Nat) (n:Nat) (L:List (Option Addr×Nat)) (ls:List (List Rat)):Prop where
 len:L.length=ls.length
 row:w.ownsRow B 47 1 (.slice b L.length d) L.length (L.map fun x => .slice x.1 n x.2)
 each:∀ i (h1:i < L.length) (h2:i < ls.length),OwnQ w B L[i].1 L[i].2 ls[i]
 lens:∀ l∈ls,l.length=n
theorem OwnL.below {w w':World} {B d n:Nat} {b:Option Addr} {L:List (Option Addr×Nat)} {ls:List (List Rat)} (h:OwnL w B b d n L ls) (hb:Below w.heap.size w w'):OwnL w' B b d n L ls :=
 ⟨h.len,own_below h.row hb nr_,fun i h1 h2=>(h.each i h1 h2).below hb nr_,h.lens⟩
theorem OwnL.rdl {w:World} {B d n:Nat} {b:Option Addr} {L:List (Option Addr×Nat)} {ls:List (List Rat)} (h:OwnL w B b d n L ls):RdL w b (ls.map (List.map qs)):=by
 by_cases h0:ls=[]
 ·left; rw [h0]; rfl
 ·have hpos:0 < L.length:=by rw [h.len]; exact List.length_pos_iff.2 h0
  obtain ⟨g,cap,hv,h1,h2,h3,h4,h5⟩:=own_open h.row hpos
  simp only [Value.slice.injEq] at hv
  obtain ⟨rfl,-,rfl⟩:=hv
  refine .inr ⟨g,0,rfl,h2,fun i hi=>?_⟩
  rw [List.length_map] at hi
  have hiL:i < L.length:=by rw [h.len]; exact hi
  refine ⟨L[i].1,L[i].2,?_,?_⟩
  ·rw [Nat.zero_add,h4 i (by omega),List.getElem?_map,List.getElem?_eq_getElem hiL,List.getD_eq_getElem?_getD,List.getElem?_map,List.getElem?_eq_getElem hi]
   simp only [Option.map_some,Option.getD_some,List.length_map]
   rw [h.lens _ (List.getElem_mem hi)]
  ·rw [List.getD_eq_getElem?_getD,List.getElem?_map,List.getElem?_eq_getElem hi]
   exact (h.each i hiL hi).rd
end Go.Proofs.YtkoicfghplmghaaGreatDoor

namespace Go.Proofs.YtkoicfghplmghaaGreatDoor
open Go.RowKit Go.Proofs.YtkoicfghplmghaaGreatDoor.RY
theorem OwnL.put {w1 w3:World} {B d n c:Nat} {b a:Option Addr} {L:List (Option Addr×Nat)} {ls:List (List Rat)} {l:List Rat} {v':Value} (h:OwnL w1 B b d n L ls) (ho:OwnQ w1 B a c l) (hl:l.length=n)
  (hown:w3.ownsRow B 47 1 v' (L.length + 1) ((L.map fun x=>Value.slice x.1 n x.2) ++ [.slice a n c])) (hg:(w1.alloc (.cells #[.slice a n c] 47)).grownBy w3 (Value.slice b L.length d).ownBlock) :
  ∃ b' d',v' = .slice b' (L.length + 1) d'∧OwnL w3 B b' d' n (L ++ [(a,c)]) (ls ++ [l]):=by
 obtain ⟨b',d',rfl⟩:=own_form hown
 have hA:Below w1.heap.size w1 (w1.alloc (.cells #[.slice a n c] 47)):=(Below.refl _ _).alloc nr_ _
 have hrow:=own_below h.row hA nr_
 have keep:∀ (a2:Option Addr) (c2:Nat) (l2:List Rat),OwnQ w1 B a2 c2 l2→OwnQ w3 B a2 c2 l2:=fun a2 c2 l2 h2=>by
  have h3:=ownS_own (h2.below hA nr_)
  refine own_ownQ (World.ownsRow.kept h3 hg ?_)
  have hap:=own_apart hrow h3 (by decide)
  cases hv:(Value.slice b L.length d).ownBlock with
  | none=>cases hv2:(Value.slice a2 l2.length c2).ownBlock <;> simp
  | some k=>exact .inr (hap k hv)
 refine ⟨b',d',rfl,?_,?_,?_,?_⟩
 ·simp [h.len]
 ·rw [List.length_append,List.map_append]
  exact hown
 ·intro i h1 h2
  by_cases hi:i < L.length
  ·have hi2:i < ls.length:=by rw [← h.len]; exact hi
   rw [List.getElem_append_left hi2]
   simp only [List.getElem_append_left hi]
   exact keep _ _ _ (h.each i hi hi2)
  ·have e:i=L.length:=by simp at h1; omega
   subst e
   rw [List.getElem_append_right (by rw [h.len]; exact Nat.le_refl _)]
   simp only [List.getElem_append_right nr_,h.len,Nat.sub_self,List.getElem_cons_zero]
   exact keep _ _ _ ho
 ·intro m hm
  rcases List.mem_append.1 hm with hm | hm
  ·exact h.lens m hm
  ·rw [List.mem_singleton.1 hm]; exact hl
theorem rdl_cells {W:World} {al:Option Addr} {LL:List (List Rat)} {n:Nat} (h:RdL W al (LL.map (List.map qs))) (hlen:∀ l∈LL,l.length=n) (h0:0 < LL.length) :
  ∃ b off,al=some ⟨b,off,none⟩∧b < W.heap.size∧∀ i,i < LL.length→∃ a' c',W.cell? ⟨b,off + i,none⟩=some (.slice a' n c')∧Rd W a' (cellsQ (LL.getD i [])):=by
 rcases h with h | ⟨b,off,h1,h2,h3⟩
 ·have:=congrArg List.length h
  simp at this
  rw [this] at h0
  simp at h0
 ·refine ⟨b,off,h1,h2,fun i hi=>?_⟩
  obtain ⟨a',c',k1,k2⟩:=h3 i (by simpa using hi)
  have e:(LL.map (List.map qs)).getD i []=(LL.getD i []).map qs:=by
   rw [List.getD_eq_getElem?_getD,List.getD_eq_getElem?_getD,List.getElem?_map]
   cases LL[i]? <;> rfl
  rw [e] at k1 k2
  rw [List.length_map,hlen _ (getD_memL hi)] at k1
  exact ⟨a',c',k1,k2⟩
end Go.Proofs.YtkoicfghplmghaaGreatDoor

namespace Go.Proofs.YtkoicfghplmghaaGreatDoor
open Go.RowKit
def Iv (n:Nat) (l:List (List Int)):Prop:=∀ x∈l,x.length=n∧Xs x
theorem mgo_iv {n:Nat}:∀ {l:List (List Int)},mgo n l=0↔Iv n l
 | []=>⟨fun _ x hx=>(by cases hx),fun _=>rfl⟩
 | x :: l=>by
  constructor
  ·intro h
   unfold mgo at h
   split at h
   ·rename_i h1
    intro y hy
    rcases List.mem_cons.1 hy with rfl | hy
    ·unfold mrow at h1
     split at h1
     ·rename_i h2; exact ⟨h2,mx_zero.1 h1⟩
     ·cases h1
    ·exact mgo_iv.1 h y hy
   ·rename_i h1; exact absurd h h1
  ·intro h
   unfold mgo
   obtain ⟨h1,h2⟩:=h x List.mem_cons_self
   rw [if_pos (mrow_ok h2 h1)]
   exact mgo_iv.2 fun y hy=>h y (List.mem_cons_of_mem _ hy)
theorem rdi_cells {W:World} {al:Option Addr} {l:List (List Int)} (h:RdI W al l) (h0:0 < l.length) :
  ∃ b off,al=some ⟨b,off,none⟩∧b < W.heap.size∧∀ (i:Nat) (hi:i < l.length),∃ a' c',W.cell? ⟨b,off + i,none⟩=some (.slice a' l[i].length c')∧Rd W a' (ints l[i]):=by
 rcases h with rfl | ⟨b,off,rfl,hb,hc⟩
 ·simp at h0
 ·refine ⟨b,off,rfl,hb,fun i hi=>?_⟩
  have:=hc i hi
  rw [List.getD_eq_getElem?_getD,List.getElem?_eq_getElem hi] at this
  exact this
theorem isizes_ok (w:World) (ps:List Int) (P:PrOk ps) (a0 al:Option Addr) (c0 cl:Nat) (l:List (List Int)) (rp:Rd w a0 (ints ps)) (rl:RdI w al l) (hl:l.length≤1000) (hr:Iv ps.length l) (L:Laid w) :
  Calls Tryz.prog 67 #[.slice a0 ps.length c0,.slice al l.length cl] w fun e w'=>∃ b d LL,e = .returned (.slice b l.length d)∧OwnL w' w.heap.size b d ps.length LL (l.map rq)∧Below w.heap.size w w':=by
 have HO:Hid (∀ x∈l,∀ W a c,Below w.heap.size w W→Rd W a (ints x)→Calls Tryz.prog 104 #[.slice a0 ps.length c0,.slice a ps.length c] W fun e w'=>∃ a c,e = .returned (.tuple #[.slice a ps.length c,.int .i64 0])∧OwnQ w' W.heap.size a c (rq x)∧Below W.heap.size W w'):=fun x hx W a c hW hrx=>by
  obtain ⟨h1,h2⟩:=hr x hx
  have:=of_ok W a0 a c0 c ps x (rp.below hW nr_) P.i64 hrx (fun y hy=>by have:=h2 y hy; omega) (mcode_one P.p0 h2 h1) (L.below hW)
  unfold GivesOk at this
  rw [List.length_map,h1] at this
  exact this
 have Hrl:=hd_ rl
 have Hlx:Hid (∀ x∈l,x.length=ps.length):=fun x hx=>(hr x hx).1
 have Hnil:Hid (OwnL w w.heap.size none 0 ps.length [] ((l.take 0).map rq)):=⟨rfl,World.ownsRow_nil ..,fun i h=>absurd h (Nat.not_lt_zero _),fun x hx=>by simp at hx⟩
 clear rp rl hr L P
 generalize hm:l.length=m at *
 have Hm:=hd_ hm
 clear hm
 generalize ps.length=n at *
 go_enter Tryz.func67,Tryz.ntmps67
 go_wp2_with fail
 go_loopw [5,12] (fun o i wr=>∃ (k:Nat) (b:Option Addr) (d:Nat) (LL:List (Option Addr×Nat)),k≤m∧i = .int .i64 k∧o = .slice b k d∧Hid (OwnL wr w.heap.size b d n LL ((l.take k).map rq))∧Hid (LL.length=k)∧Hid (Below w.heap.size w wr)) (fun _ i _=>m - (intOf i).toNat)
 case atStart=>exact ⟨0,none,0,[],Nat.zero_le _,rfl,rfl,Hnil,rfl,Below.refl _ _⟩
 case round =>
  clear Hnil
  obtain ⟨k,b,d,LL,hk,rfl,rfl,OL,HLL,B⟩:=hrel
  by_cases hlt:k < m
  ·have hlt':(k:Int) < m:=by omega
   have hkl:k < l.length:=by rw [Hm.out]; exact hlt
   obtain ⟨gb,off,rfl,hgb,hcs⟩:=rdi_cells Hrl.out (by omega)
   obtain ⟨ax,cx,kx,rx⟩:=hcs k hkl
   rw [Hlx.out _ (List.getElem_mem hkl)] at kx
   have k1:=(B.out.cell (p:=⟨gb,off + k,none⟩) hgb).trans kx
   have R1:=hd_ (rx.below B.out nr_)
   have HOk:=hd_ (HO.out l[k] (List.getElem_mem hkl))
   have Hsk:Hid ((l.take (k + 1)).map rq=(l.take k).map rq ++ [rq l[k]]):=by
    show _=_
    rw [List.take_add_one,List.getElem?_eq_getElem hkl,List.map_append]; rfl
   have Hq:Hid ((rq l[k]).length=n):=by show _=_; rw [rq_length]; exact Hlx.out _ (List.getElem_mem hkl)
   clear hcs kx rx
   generalize rq l[k]=q at *
   generalize l[k]=x at *
   go_wp2_with fail
   refine cm_ (HOk.out _ _ _ B.out R1.out) ?_
   rintro e_ w1 ⟨a1,c1,rfl,ho_,hb_⟩
   have OL1:=hd_ (OL.out.below hb_)
   have O1:=hd_ (ho_.lower B.out.size)
   have B1:=hd_ (B.out.trans (hb_.mono B.out.size))
   clear hb_ ho_ OL B HOk R1 k1
   have Ow:Hid (w1.ownsRow w.heap.size 47 1 (.slice b k d) k (LL.map fun x => .slice x.1 n x.2)):=by
    have:=OL1.out.row
    rw [HLL.out] at this
    exact this
   have hsz:=B1.out.size
   go_wp2_with (at_builtin; refine wpList_append_one rfl (.tmp 22) (.tmp 24) 53 rfl elSz _ (.slice a1 n c1) rfl rfl Ow.out hsz rfl (by omega) (by omega) ?_)
   intro v' w5 hown5 hg5 _
   have B5:Hid (Below w.heap.size w w5):=(B1.out.alloc hsz _).grown hg5 (by simp; omega) (fun kk hkk=>(Ow.out.lt kk hkk).1)
   have hll:=HLL.out
   subst hll
   obtain ⟨b5,d5,rfl,ol5⟩:=OwnL.put OL1.out O1.out Hq.out hown5 hg5
   have OL5:=hd_ ol5
   have HLL5:Hid ((LL ++ [(a1,c1)]).length=LL.length + 1):=by show _=_; simp
   rw [← Hsk.out] at OL5
   clear hown5 hg5 ol5 OL1 O1 B1 hsz Ow
   go_wp2_with fail
   go_roundw
   case rel=>exact ⟨LL.length + 1,b5,d5,_,by omega,by go_num,rfl,OL5,HLL5,B5⟩
   case measure=>simp [intOf]; omega
  ·have hlt':¬ (k:Int) < m:=by omega
   obtain rfl:k=m:=by omega
   have Hfull:Hid (l.take k=l):=by show _=_; exact List.take_of_length_le (by rw [Hm.out]; exact Nat.le_refl _)
   rw [Hfull.out] at OL
   go_wp2_with fail
   go_ret
   exact ⟨b,d,rfl,⟨LL,OL.out⟩,B.out⟩
theorem sortOk_iv {ps:List Int} (P:PrOk ps) {l:List (List Int)} (h:Iv ps.length l):SortOk ps (l.map rq):=by
 have h6:=P.n6
 refine ⟨P.p0,P.pr,P.pos,by omega,fun x hx=>?_,fun x hx=>?_,fun a ha b hb=>?_⟩
 ·obtain ⟨y,hy,rfl⟩:=List.mem_map.1 hx
  rw [rq_length]; exact (h y hy).1
 ·obtain ⟨y,hy,rfl⟩:=List.mem_map.1 hx
  exact (h y hy).2.bd.sm (by decide) (by decide)
 ·obtain ⟨x,hx,rfl⟩:=List.mem_map.1 ha
  obtain ⟨y,hy,rfl⟩:=List.mem_map.1 hb
  rw [difQ_rq ((h x hx).1.trans (h y hy).1.symm)]
  exact ((h x hx).2.bd.sub (h y hy).2.bd).good (by decide) P
theorem iSort_ok (w:World) (ps:List Int) (P:PrOk ps) (a0 al:Option Addr) (c0 cl:Nat) (l:List (List Int)) (rp:Rd w a0 (ints ps)) (rl:RdI w al l) (hn:Nil0 al l.length cl) (hl:l.length≤19) (hr:Iv ps.length l) (L:Laid w) :
  Calls Tryz.prog 57 #[.slice a0 ps.length c0,.slice al l.length cl] w fun e w'=>∃ a c F,e = .returned (.tuple #[.slice a l.length c,.int .i64 0])∧Fin' (cS ps (l.map rq)) l.length F∧Rd w' a (ints ((List.range l.length).map fun (k:Nat)=>((F k:Nat):Int)))∧Below w.heap.size w w':=by
 have h6:=P.n6
 have HOp:Hid (Gives Tryz.prog 93 #[.slice a0 ps.length c0,.slice al l.length cl,.slice none 0 0] w (.int .i64 0)):=by
  have:=open_any w a0 al none c0 cl 0 ps l [] rp P.i64 (by omega) rl (.inl rfl) hn (fun _=>⟨rfl,rfl⟩) (by omega) (by simp) (fun x hx=>by rw [List.append_nil] at hx; have:=(hr x hx).1; omega)
  unfold ocode at this
  rw [if_pos P.p0,if_neg (by omega),List.append_nil,mgo_iv.2 hr] at this
  exact this
 have HSz:Hid (∀ W,Below w.heap.size w W→Calls Tryz.prog 67 #[.slice a0 ps.length c0,.slice al l.length cl] W fun e w'=>∃ b d LL,e = .returned (.slice b l.length d)∧OwnL w' W.heap.size b d ps.length LL (l.map rq)∧Below W.heap.size W w'):=fun W hW =>
  isizes_ok W ps P a0 al c0 cl l (rp.below hW nr_) (rl.below hW nr_) (by omega) hr (L.below hW)
 have HSo:Hid (∀ W b d,Below w.heap.size w W→RdL W b ((l.map rq).map (List.map qs))→Calls Tryz.prog 66 #[.slice a0 ps.length c0,.slice b l.length d] W fun e w'=>∃ a c F,e = .returned (.tuple #[.slice a l.length c,.int .i64 0])∧Fin' (cS ps (l.map rq)) l.length F∧Rd w' a (ints ((List.range l.length).map fun (k:Nat)=>((F k:Nat):Int)))∧Below W.heap.size W w'):=fun W b d hW hrb=>by
  have:=Sort_ok W ps a0 b c0 d (l.map rq) (rp.below hW nr_) hrb (sortOk_iv P hr) (by rw [List.length_map]; exact hl) (L.below hW)
  rw [List.length_map] at this
  exact this
 clear rp rl hn hr L P h6
 generalize hll:l.map rq=ll at *
 clear hll
 generalize l.length=m at *
 generalize ps.length=n at *
 go_enter Tryz.func57,Tryz.ntmps57
 go_wp2_with fail
 refine cm_ HOp.out ?_
 rintro e_ w1 ⟨rfl,hb_⟩
 have B1:=hd_ hb_
 clear hb_ HOp
 go_wp2_with fail
 refine cm_ (HSz.out _ B1.out) ?_
 rintro e_ w2 ⟨b,d,LL,rfl,ho_,hb_⟩
 have R2:=hd_ ho_.rdl
 have B2:=hd_ (B1.out.trans (hb_.mono B1.out.size))
 clear hb_ ho_ HSz B1
 go_wp2_with fail
 refine cm_ (HSo.out _ _ _ B2.out R2.out) ?_
 rintro e_ w3 ⟨a,c,F,rfl,hF,hr_,hb_⟩
 have R3:=hd_ hr_
 have HF:=hd_ hF
 have B3:=hd_ (B2.out.trans (hb_.mono B2.out.size))
 clear hb_ hr_ hF HSo B2 R2
 go_wp2_with fail
 go_ret2
 exact ⟨a,c,F,rfl,HF.out,R3.out,B3.out⟩
end Go.Proofs.YtkoicfghplmghaaGreatDoor

namespace Go.Proofs.YtkoicfghplmghaaGreatDoor
open Go.RowKit
def idxB {α:Type} (pf : α→Bool):List α→Nat→Int
 | [],_ => -1
 | x :: l,k=>if pf x=true then (k:Int) else idxB pf l (k + 1)
theorem idxB_any {α:Type} (pf : α→Bool):∀ (l:List α) (k:Nat),decide (0≤idxB pf l k)=l.any pf
 | [],_=>by simp [idxB]
 | x :: l,k=>by
  unfold idxB
  rw [List.any_cons]
  by_cases h:pf x=true
  ·rw [if_pos h,h]; simp
  ·rw [if_neg h,idxB_any pf l (k + 1)]
   simp only [Bool.not_eq_true] at h
   rw [h,Bool.false_or]
theorem idxI_any (w:World) (a:Option Addr) (c:Nat) (l:List Int) (hr:Rd w a (ints l)) (hl:l.length≤1000000) (f:FuncId) (lb:Array Value) (eg:∀ args w,(callFunc f args).run Tryz.prog w = .ok (.enter f args) w) (pf:Int→Bool)
  (hcl:∀ W,Below w.heap.size w W→∀ x∈l,Gives Tryz.prog f (#[.int .i64 x] ++ lb) W (.bool (pf x))) :
  Gives Tryz.prog 120 #[.slice a l.length c,.func (.func f) #[] lb] w (.int .i64 (idxB pf l 0)):=by
 unfold Gives
 have Hr:=hd_ hr
 have Hcl:=hd_ hcl
 clear hr hcl
 generalize hm:l.length=m at *
 have Hm:=hd_ hm
 clear hm
 generalize hv:idxB pf l 0=v at *
 have Hvv:Hid (v=idxB pf l 0):=hv.symm
 clear hv
 go_enter Tryz.func120,Tryz.ntmps120
 go_wp2_with fail
 go_loopw [8] (fun i wr=>∃ k:Nat,k≤m∧i = .int .i64 k∧Hid (v=idxB pf (l.drop k) k)∧Hid (Below w.heap.size w wr)) (fun i _=>m - (intOf i).toNat)
 case atStart=>exact ⟨0,Nat.zero_le _,rfl,Hvv,Below.refl _ _⟩
 case round =>
  clear Hvv
  obtain ⟨k,hk,rfl,Hx,B⟩:=hrel
  by_cases hlt:k < m
  ·have hlt':(k:Int) < m:=by omega
   have hkb:k < l.length:=by rw [Hm.out]; exact hlt
   obtain ⟨b,off,rfl,hb,hcells⟩:=Hr.out.open (by rw [ints_length]; omega)
   have cy:=hcells k _ (ints_get l k hkb)
   rw [← B.out.cell (p:=⟨b,off + k,none⟩) hb] at cy
   have Hd:Hid (l.drop k=l[k] :: l.drop (k + 1)):=List.drop_eq_getElem_cons hkb
   have Hc:=hd_ (Hcl.out wr B.out l[k] (List.getElem_mem hkb))
   clear hcells
   generalize l[k]=x at *
   cases hf:pf x with
   | false =>
    have Hn:Hid (v=idxB pf (l.drop (k + 1)) (k + 1)):=by show _=_; rw [Hx.out,Hd.out,idxB,if_neg (by rw [hf]; decide)]
    rw [hf] at Hc
    go_wp2_with fail
    refine cm_ Hc.out ?_
    rintro e w1 ⟨rfl,hb1⟩
    have B1:=hd_ (B.out.trans (hb1.mono B.out.size))
    clear hb1 Hc B cy
    go_wp2_with fail
    go_roundw
    case rel=>exact ⟨k + 1,by omega,by go_num,Hn,B1⟩
    case measure=>simp [intOf]; omega
   | true =>
    have Hn:Hid (v=k):=by show _=_; rw [Hx.out,Hd.out,idxB,if_pos hf]
    rw [hf] at Hc
    go_wp2_with fail
    refine cm_ Hc.out ?_
    rintro e w1 ⟨rfl,hb1⟩
    have B1:=hd_ (B.out.trans (hb1.mono B.out.size))
    clear hb1 Hc B cy
    go_wp2_with fail
    go_ret
    exact ⟨by rw [Hn.out]; rfl,B1.out⟩
  ·have hlt':¬ (k:Int) < m:=by omega
   have Hn:Hid (v = -1):=by show _=_; rw [Hx.out,List.drop_of_length_le (by rw [Hm.out]; omega)]; rfl
   go_wp2_with fail
   go_ret
   exact ⟨by rw [Hn.out]; rfl,B.out⟩
theorem conI_any (w:World) (a:Option Addr) (c:Nat) (l:List Int) (hr:Rd w a (ints l)) (hl:l.length≤1000000) (f:FuncId) (lb:Array Value) (eg:∀ args w,(callFunc f args).run Tryz.prog w = .ok (.enter f args) w) (pf:Int→Bool)
  (hcl:∀ W,Below w.heap.size w W→∀ x∈l,Gives Tryz.prog f (#[.int .i64 x] ++ lb) W (.bool (pf x))) :
  Gives Tryz.prog 68 #[.slice a l.length c,.func (.func f) #[] lb] w (.bool (l.any pf)):=by
 unfold Gives
 have Hc:=hd_ (idxI_any w a c l hr hl f lb eg pf hcl)
 have Hv:=hd_ (idxB_any pf l 0)
 unfold Gives at Hc
 clear hr hcl
 generalize l.length=m at *
 generalize idxB pf l 0=v at *
 generalize l.any pf=z at *
 go_enter Tryz.func68,Tryz.ntmps68
 go_wp2_with fail
 refine cm_ Hc.out ?_
 rintro e w1 ⟨rfl,hb1⟩
 have B1:=hd_ hb1
 clear hb1 Hc
 go_wp2_with fail
 go_ret
 exact ⟨by rw [← Hv.out]; rfl,B1.out⟩
theorem enter_of {f : FuncId} {fn : Func} {c : Code} (hf : Tryz.prog.funcs[f]? = some fn) (hname : (fn.name == "runtime.NumGoroutine") = false) (hb : fn.body = some c) : ∀ args w, (callFunc f args).run Tryz.prog w = .ok (.enter f args) w := enters_of hf hname hb
def farX (x:Int):Bool:=decide (1000 < x) || decide (x < -1000)
theorem farX_iff (l:List Int):l.any farX=false↔Xs l:=by
 induction l with
 | nil=>exact ⟨fun _ x hx=>(by cases hx),fun _=>rfl⟩
 | cons x l ih =>
  have e:Xs (x :: l)↔(-1000≤x∧x≤1000)∧Xs l:=by simp [Xs]
  rw [List.any_cons,Bool.or_eq_false_iff,e,ih]
  unfold farX
  rw [Bool.or_eq_false_iff,decide_eq_false_iff_not,decide_eq_false_iff_not]
  refine and_congr_left fun _=>?_
  omega
theorem farX_ok (w:World) (x:Int):Gives Tryz.prog 102 #[.int .i64 x] w (.bool (farX x)):=by
 unfold Gives
 by_cases h1:1000 < x
 ·rw [show farX x=true by unfold farX; rw [decide_eq_true h1]; rfl]
  go_enter Tryz.func102,Tryz.ntmps102
  go_wp2_with fail
  go_ret
  exact ⟨rfl,Below.refl _ _⟩
 ·by_cases h2:x < -1000
  ·rw [show farX x=true by unfold farX; rw [decide_eq_true h2]; simp]
   go_enter Tryz.func102,Tryz.ntmps102
   go_wp2_with fail
   go_ret
   exact ⟨rfl,Below.refl _ _⟩
  ·rw [show farX x=false by unfold farX; rw [decide_eq_false h1,decide_eq_false h2]; rfl]
   go_enter Tryz.func102,Tryz.ntmps102
   go_wp2_with fail
   go_ret
   exact ⟨rfl,Below.refl _ _⟩
theorem llong_ok (w:World) (a:Option Addr) (c:Nat) (l:List Int) (hr:Rd w a (ints l)) (hl:l.length≤1000000) :
  Gives Tryz.prog 44 #[.slice a l.length c] w (.bool (l.any farX)):=by
 unfold Gives
 have Hc:Hid (Gives Tryz.prog 68 #[.slice a l.length c,.func (.func 102) #[] #[]] w (.bool (l.any farX))):=by
  exact conI_any w a c l hr hl _ _ (enter_of Tryz.func102 (by kernel_rfl) rfl) farX fun W _ x _=>farX_ok W x
 clear hr
 generalize l.length=m at *
 generalize (l.any farX)=z at *
 go_enter Tryz.func44,Tryz.ntmps44
 go_wp2_with fail
 refine cm_ Hc.out ?_
 rintro e w1 ⟨rfl,hb1⟩
 have B1:=hd_ hb1
 clear hb1 Hc
 go_wp2_with fail
 go_ret
 exact ⟨rfl,B1.out⟩
end Go.Proofs.YtkoicfghplmghaaGreatDoor

namespace Go.Proofs.YtkoicfghplmghaaGreatDoor
open Go.RowKit
theorem islEq_any (w:World) (a1 a2:Option Addr) (c1 c2:Nat) (la lb:List Int) (r1:Rd w a1 (ints la)) (r2:Rd w a2 (ints lb)) (hbig:la.length≤1000000) :
  Gives Tryz.prog 32 #[.slice a1 la.length c1,.slice a2 lb.length c2] w (.bool (decide (la=lb))):=by
 unfold Gives
 by_cases hl:la.length=lb.length
 ·have R1:=hd_ r1
  have R2:=hd_ r2
  have Hyes:Hid (∀ k,(∀ j (h1:j < la.length) (h2:j < lb.length),j < k→la[j]=lb[j])→k=la.length→la=lb):=fun k h hk=>List.ext_getElem hl fun i h1 h2=>h i h1 h2 (by omega)
  have Hno:Hid (∀ k (h1:k < la.length) (h2:k < lb.length),la[k]≠lb[k]→¬ la=lb):=fun k h1 h2 hne he=>hne (by subst he; rfl)
  obtain ⟨n,hn⟩:∃ n,la.length=n:=⟨_,rfl⟩
  have hm:lb.length=n:=hl.symm.trans hn
  rw [hn] at hbig
  rw [hn,hm]
  have Hn:=hd_ hn
  have Hm:=hd_ hm
  clear hl r1 r2 hn hm
  go_enter Tryz.func32,Tryz.ntmps32
  go_wp2_with fail
  go_loopw [13] (fun i wr=>∃ k:Nat,k≤n∧i = .int .i64 k∧Hid (∀ j (h1:j < la.length) (h2:j < lb.length),j < k→la[j]=lb[j])∧Hid (Below w.heap.size w wr)) (fun i _=>n - (intOf i).toNat)
  case atStart=>exact ⟨0,Nat.zero_le _,rfl,fun j _ _ hj=>absurd hj (Nat.not_lt_zero _),Below.refl _ _⟩
  case round =>
   obtain ⟨k,hk,rfl,Hp,B⟩:=hrel
   by_cases hlt:k < n
   ·have hlt':(k:Int) < n:=by omega
    have h1:k < la.length:=by rw [Hn.out]; exact hlt
    have h2:k < lb.length:=by rw [Hm.out]; exact hlt
    obtain ⟨g1,o1,rfl,hg1,hc1⟩:=R1.out.open (by rw [ints_length]; omega)
    obtain ⟨g2,o2,rfl,hg2,hc2⟩:=R2.out.open (by rw [ints_length]; omega)
    have x1:=hc1 k _ (ints_get la k h1)
    have x2:=hc2 k _ (ints_get lb k h2)
    rw [← B.out.cell (p:=⟨g1,o1 + k,none⟩) hg1] at x1
    rw [← B.out.cell (p:=⟨g2,o2 + k,none⟩) hg2] at x2
    have Hp':Hid (la[k]=lb[k]→∀ j (h1:j < la.length) (h2:j < lb.length),j < k + 1→la[j]=lb[j]):=fun he j g1 g2 hj=>by
     rcases Nat.lt_or_ge j k with h | h
     ·exact Hp.out j g1 g2 h
     ·have e:j=k:=by omega
      subst e; exact he
    have Hnk:=hd_ (Hno.out k h1 h2)
    clear Hp hc1 hc2
    generalize la[k]=p at *
    generalize lb[k]=q at *
    have q1:=cell_regrown x1
    have q2:=cell_regrown x2
    have HK:=hd_ hlt
    by_cases hpq:p=q
    ·have Hq:=hd_ (Hp'.out hpq)
     subst hpq
     clear Hp' Hnk
     go_wp2_with fail
     clear x1 x2
     refine wp_region_quiet_below (by kernel_rfl) (by kernel_rfl) ?_
     repeat (first | go_big_quiet_step (fail) | quiet_step (fail))
     refine wpQuiet_nil ?_
     intro w6 hw6
     obtain ⟨⟨dq,osq⟩,rfl⟩:=hw6
     have B6:=hd_ (B.out.trans ((below_regrown wr dq osq).mono B.out.size))
     clear q1 q2 B
     generalize Go.Sort.grow (redrawn wr dq) osq=w6 at *
     go_wp2_with fail
     go_roundw
     case rel=>exact ⟨k + 1,HK.out,by go_num,Hq,B6⟩
     case measure=>simp [intOf]; omega
    ·have Hz:Hid (decide (la=lb)=false):=decide_eq_false (Hnk.out hpq)
     have hpq':(p == q)=false:=by rw [beq_eq_false_iff_ne]; exact hpq
     clear Hp' Hnk
     go_wp2_with fail
     clear x1 x2
     refine wp_region_quiet_below (by kernel_rfl) (by kernel_rfl) ?_
     repeat (first | go_big_quiet_step (fail) | quiet_step (fail))
     refine wpQuiet_nil ?_
     intro w6 hw6
     obtain ⟨⟨dq,osq⟩,rfl⟩:=hw6
     have B6:=hd_ (B.out.trans ((below_regrown wr dq osq).mono B.out.size))
     clear q1 q2 B
     generalize Go.Sort.grow (redrawn wr dq) osq=w6 at *
     go_wp2_with fail
     go_ret
     exact ⟨by rw [Hz.out]; rfl,B6.out⟩
   ·have hlt':¬ (k:Int) < n:=by omega
    have Hz:Hid (decide (la=lb)=true):=decide_eq_true (Hyes.out k Hp.out (by rw [Hn.out]; omega))
    clear Hp
    go_wp2_with fail
    go_ret
    exact ⟨by rw [Hz.out]; rfl,B.out⟩
 ·have Hz:Hid (decide (la=lb)=false):=decide_eq_false fun h=>hl (by rw [h])
  have hne:((la.length:Int) == lb.length)=false:=by rw [beq_eq_false_iff_ne]; omega
  clear r1 r2 hl
  generalize la.length=n at *
  generalize lb.length=m at *
  go_enter Tryz.func32,Tryz.ntmps32
  go_wp2_with fail
  go_ret
  exact ⟨by rw [Hz.out]; rfl,Below.refl _ _⟩
theorem islEqI_any (w:World) (a1 a2:Option Addr) (c1 c2:Nat) (la lb:List Int) (r1:Rd w a1 (ints la)) (r2:Rd w a2 (ints lb)) (hbig:la.length≤1000000) :
  Gives Tryz.prog 39 #[.slice a1 la.length c1,.slice a2 lb.length c2] w (.bool (decide (la=lb))):=by
 unfold Gives
 by_cases hl:la.length=lb.length
 ·have R1:=hd_ r1
  have R2:=hd_ r2
  have Hyes:Hid (∀ k,(∀ j (h1:j < la.length) (h2:j < lb.length),j < k→la[j]=lb[j])→k=la.length→la=lb):=fun k h hk=>List.ext_getElem hl fun i h1 h2=>h i h1 h2 (by omega)
  have Hno:Hid (∀ k (h1:k < la.length) (h2:k < lb.length),la[k]≠lb[k]→¬ la=lb):=fun k h1 h2 hne he=>hne (by subst he; rfl)
  obtain ⟨n,hn⟩:∃ n,la.length=n:=⟨_,rfl⟩
  have hm:lb.length=n:=hl.symm.trans hn
  rw [hn] at hbig
  rw [hn,hm]
  have Hn:=hd_ hn
  have Hm:=hd_ hm
  clear hl r1 r2 hn hm
  go_enter Tryz.func39,Tryz.ntmps39
  go_wp2_with fail
  go_loopw [13] (fun i wr=>∃ k:Nat,k≤n∧i = .int .i64 k∧Hid (∀ j (h1:j < la.length) (h2:j < lb.length),j < k→la[j]=lb[j])∧Hid (Below w.heap.size w wr)) (fun i _=>n - (intOf i).toNat)
  case atStart=>exact ⟨0,Nat.zero_le _,rfl,fun j _ _ hj=>absurd hj (Nat.not_lt_zero _),Below.refl _ _⟩
  case round =>
   obtain ⟨k,hk,rfl,Hp,B⟩:=hrel
   by_cases hlt:k < n
   ·have hlt':(k:Int) < n:=by omega
    have h1:k < la.length:=by rw [Hn.out]; exact hlt
    have h2:k < lb.length:=by rw [Hm.out]; exact hlt
    obtain ⟨g1,o1,rfl,hg1,hc1⟩:=R1.out.open (by rw [ints_length]; omega)
    obtain ⟨g2,o2,rfl,hg2,hc2⟩:=R2.out.open (by rw [ints_length]; omega)
    have x1:=hc1 k _ (ints_get la k h1)
    have x2:=hc2 k _ (ints_get lb k h2)
    rw [← B.out.cell (p:=⟨g1,o1 + k,none⟩) hg1] at x1
    rw [← B.out.cell (p:=⟨g2,o2 + k,none⟩) hg2] at x2
    have Hp':Hid (la[k]=lb[k]→∀ j (h1:j < la.length) (h2:j < lb.length),j < k + 1→la[j]=lb[j]):=fun he j g1 g2 hj=>by
     rcases Nat.lt_or_ge j k with h | h
     ·exact Hp.out j g1 g2 h
     ·have e:j=k:=by omega
      subst e; exact he
    have Hnk:=hd_ (Hno.out k h1 h2)
    clear Hp hc1 hc2
    generalize la[k]=p at *
    generalize lb[k]=q at *
    have q1:=cell_regrown x1
    have q2:=cell_regrown x2
    have HK:=hd_ hlt
    by_cases hpq:p=q
    ·have Hq:=hd_ (Hp'.out hpq)
     subst hpq
     clear Hp' Hnk
     go_wp2_with fail
     clear x1 x2
     refine wp_region_quiet_below (by kernel_rfl) (by kernel_rfl) ?_
     repeat (first | go_big_quiet_step (fail) | quiet_step (fail))
     refine wpQuiet_nil ?_
     intro w6 hw6
     obtain ⟨⟨dq,osq⟩,rfl⟩:=hw6
     have B6:=hd_ (B.out.trans ((below_regrown wr dq osq).mono B.out.size))
     clear q1 q2 B
     generalize Go.Sort.grow (redrawn wr dq) osq=w6 at *
     go_wp2_with fail
     go_roundw
     case rel=>exact ⟨k + 1,HK.out,by go_num,Hq,B6⟩
     case measure=>simp [intOf]; omega
    ·have Hz:Hid (decide (la=lb)=false):=decide_eq_false (Hnk.out hpq)
     have hpq':(p == q)=false:=by rw [beq_eq_false_iff_ne]; exact hpq
     clear Hp' Hnk
     go_wp2_with fail
     clear x1 x2
     refine wp_region_quiet_below (by kernel_rfl) (by kernel_rfl) ?_
     repeat (first | go_big_quiet_step (fail) | quiet_step (fail))
     refine wpQuiet_nil ?_
     intro w6 hw6
     obtain ⟨⟨dq,osq⟩,rfl⟩:=hw6
     have B6:=hd_ (B.out.trans ((below_regrown wr dq osq).mono B.out.size))
     clear q1 q2 B
     generalize Go.Sort.grow (redrawn wr dq) osq=w6 at *
     go_wp2_with fail
     go_ret
     exact ⟨by rw [Hz.out]; rfl,B6.out⟩
   ·have hlt':¬ (k:Int) < n:=by omega
    have Hz:Hid (decide (la=lb)=true):=decide_eq_true (Hyes.out k Hp.out (by rw [Hn.out]; omega))
    clear Hp
    go_wp2_with fail
    go_ret
    exact ⟨by rw [Hz.out]; rfl,B.out⟩
 ·have Hz:Hid (decide (la=lb)=false):=decide_eq_false fun h=>hl (by rw [h])
  have hne:((la.length:Int) == lb.length)=false:=by rw [beq_eq_false_iff_ne]; omega
  clear r1 r2 hl
  generalize la.length=n at *
  generalize lb.length=m at *
  go_enter Tryz.func39,Tryz.ntmps39
  go_wp2_with fail
  go_ret
  exact ⟨by rw [Hz.out]; rfl,Below.refl _ _⟩
theorem irowEq_any (w:World) (a1 a2:Option Addr) (c1 c2:Nat) (la lb:List Int) (r1:Rd w a1 (ints la)) (r2:Rd w a2 (ints lb)) (hbig:la.length≤1000000) :
  Gives Tryz.prog 148 #[.slice a1 la.length c1,.slice a2 lb.length c2] w (.bool (decide (la=lb))):=by
 have HA:=hd_ (islEq_any w a1 a2 c1 c2 la lb r1 r2 hbig)
 unfold Gives at *
 clear r1 r2 hbig
 generalize decide (la=lb)=z at *
 generalize la.length=n at *
 generalize lb.length=m at *
 go_enter Tryz.func148,Tryz.ntmps148
 go_wp2_with fail
 refine cm_ HA.out ?_
 rintro e w1 ⟨rfl,hb⟩
 have B1:=hd_ hb
 clear hb HA
 go_wp2_with fail
 go_ret
 exact ⟨rfl,B1.out⟩
theorem rd_tail {w:World} {b o:Nat} {x:List Int} (h:Rd w (some ⟨b,o,none⟩) (ints x)):Rd w (some ⟨b,o + 1,none⟩) (ints (x.drop 1)):=by
 rcases h with h | ⟨b',o',e,hb,hc⟩
 ·left
  have:x=[]:=by simpa [ints] using h
  rw [this]; rfl
 ·simp only [Option.some.injEq,Addr.mk.injEq,and_true] at e
  obtain ⟨rfl,rfl⟩:=e
  refine .inr ⟨b,o + 1,rfl,hb,fun i v hi=>?_⟩
  rw [show o + 1 + i=o + (i + 1) by omega]
  refine hc (i + 1) v ?_
  unfold ints at hi ⊢
  rw [List.map_drop,List.getElem?_drop] at hi
  rw [show i + 1=1 + i by omega]
  exact hi
theorem rd_tail' {w:World} {b o c:Nat} {x:List Int} (h:Rd w (some ⟨b,o,none⟩) (ints x)) (hc:x.length≤c):Rd w (if c=1 then some ⟨b,o,none⟩ else some ⟨b,o + 1,none⟩) (ints (x.drop 1)):=by
 split
 ·left
  rw [List.drop_of_length_le (by omega)]; rfl
 ·exact rd_tail h
theorem ialike_ok (w:World) (a1 a2:Option Addr) (c1 c2 n:Nat) (x y:List Int) (r1:Rd w a1 (ints x)) (r2:Rd w a2 (ints y)) (l1:x.length=n) (l2:y.length=n) (h0:0 < n) (h6:n≤1000) (k1:n≤c1) (k2:n≤c2) :
  Gives Tryz.prog 95 #[.slice a1 n c1,.slice a2 n c2] w (.bool (decide (x.drop 1=y.drop 1))):=by
 unfold Gives
 obtain ⟨b1,o1,rfl,hb1,hc1⟩:=r1.open (by rw [ints_length]; omega)
 obtain ⟨b2,o2,rfl,hb2,hc2⟩:=r2.open (by rw [ints_length]; omega)
 have t1:=rd_tail' (.inr ⟨b1,o1,rfl,hb1,hc1⟩:Rd w (some ⟨b1,o1,none⟩) (ints x)) (c:=c1) (by omega)
 have t2:=rd_tail' (.inr ⟨b2,o2,rfl,hb2,hc2⟩:Rd w (some ⟨b2,o2,none⟩) (ints y)) (c:=c2) (by omega)
 have HC:Hid (∀ d os,Calls Tryz.prog 148 #[.slice (if c1=1 then some ⟨b1,o1,none⟩ else some ⟨b1,o1 + 1,none⟩) (n - 1) (c1 - 1),.slice (if c2=1 then some ⟨b2,o2,none⟩ else some ⟨b2,o2 + 1,none⟩) (n - 1) (c2 - 1)] (Go.Sort.grow (redrawn w d) os) fun e w''=>e = .returned (.bool (decide (x.drop 1=y.drop 1)))∧∃ p:Regrown,w''=Go.Sort.grow (redrawn w p.d) p.os):=fun d os=>by
  have:=irowEq_any (Go.Sort.grow (redrawn w d) os) _ _ (c1 - 1) (c2 - 1) (x.drop 1) (y.drop 1) (t1.below (below_regrown w d os) nr_) (t2.below (below_regrown w d os) nr_) (by rw [List.length_drop]; omega)
  rw [List.length_drop,List.length_drop,l1,l2] at this
  exact Calls.regrown_of this
 clear r1 r2 l1 l2 t1 t2 hc1 hc2
 generalize decide (x.drop 1=y.drop 1)=z at *
 have hM:=HC.out
 have hn1:(1:Int)≤n:=by omega
 clear HC
 go_enter Tryz.func95,Tryz.ntmps95
 go_wp2_with fail
 refine wp_region_quiet_below (by kernel_rfl) (by kernel_rfl) ?_
 repeat (first | go_big_quiet_step (with_reducible exact hM _ _) | quiet_step (with_reducible exact hM _ _))
 refine wpQuiet_nil ?_
 intro w6 hw6
 obtain ⟨⟨dq,osq⟩,rfl⟩:=hw6
 have B6:=hd_ (below_regrown w dq osq)
 clear hM
 generalize Go.Sort.grow (redrawn w dq) osq=w6 at *
 go_wp2_with fail
 all_goals (go_ret; exact ⟨rfl,B6.out⟩)
theorem lalike_ok (w:World) (a1 a2:Option Addr) (c1 c2 n:Nat) (x y:List Int) (r1:Rd w a1 (ints x)) (r2:Rd w a2 (ints y)) (l1:x.length=n) (l2:y.length=n) (h0:0 < n) (h6:n≤1000) (k1:n≤c1) (k2:n≤c2) :
  Gives Tryz.prog 38 #[.slice a1 n c1,.slice a2 n c2] w (.bool (decide (x.drop 1=y.drop 1))):=by
 unfold Gives
 obtain ⟨b1,o1,rfl,hb1,hc1⟩:=r1.open (by rw [ints_length]; omega)
 obtain ⟨b2,o2,rfl,hb2,hc2⟩:=r2.open (by rw [ints_length]; omega)
 have t1:=rd_tail' (.inr ⟨b1,o1,rfl,hb1,hc1⟩:Rd w (some ⟨b1,o1,none⟩) (ints x)) (c:=c1) (by omega)
 have t2:=rd_tail' (.inr ⟨b2,o2,rfl,hb2,hc2⟩:Rd w (some ⟨b2,o2,none⟩) (ints y)) (c:=c2) (by omega)
 have HC:Hid (∀ d os,Calls Tryz.prog 32 #[.slice (if c1=1 then some ⟨b1,o1,none⟩ else some ⟨b1,o1 + 1,none⟩) (n - 1) (c1 - 1),.slice (if c2=1 then some ⟨b2,o2,none⟩ else some ⟨b2,o2 + 1,none⟩) (n - 1) (c2 - 1)] (Go.Sort.grow (redrawn w d) os) fun e w''=>e = .returned (.bool (decide (x.drop 1=y.drop 1)))∧∃ p:Regrown,w''=Go.Sort.grow (redrawn w p.d) p.os):=fun d os=>by
  have:=islEq_any (Go.Sort.grow (redrawn w d) os) _ _ (c1 - 1) (c2 - 1) (x.drop 1) (y.drop 1) (t1.below (below_regrown w d os) nr_) (t2.below (below_regrown w d os) nr_) (by rw [List.length_drop]; omega)
  rw [List.length_drop,List.length_drop,l1,l2] at this
  exact Calls.regrown_of this
 clear r1 r2 l1 l2 t1 t2 hc1 hc2
 generalize decide (x.drop 1=y.drop 1)=z at *
 have hM:=HC.out
 have hn1:(1:Int)≤n:=by omega
 clear HC
 go_enter Tryz.func38,Tryz.ntmps38
 go_wp2_with fail
 refine wp_region_quiet_below (by kernel_rfl) (by kernel_rfl) ?_
 repeat (first | go_big_quiet_step (with_reducible exact hM _ _) | quiet_step (with_reducible exact hM _ _))
 refine wpQuiet_nil ?_
 intro w6 hw6
 obtain ⟨⟨dq,osq⟩,rfl⟩:=hw6
 have B6:=hd_ (below_regrown w dq osq)
 clear hM
 generalize Go.Sort.grow (redrawn w dq) osq=w6 at *
 go_wp2_with fail
 all_goals (go_ret; exact ⟨rfl,B6.out⟩)
theorem made_zeros15 (n:Nat):madeCells #[.int .i64 0] n=(ints (List.replicate n 0)).toArray:=by
 apply Array.ext'
 rw [toList_madeCells_one]
 simp [ints]
theorem made_i15 (n:Nat) (w:World) (hn:n≤100000000) :
  (Instr.makeSlice 25 (.int .i64 (n:Int)) (.int .i64 (n:Int))).run Tryz.prog w = .ok (.slice (some ⟨w.heap.size,0,none⟩) n n) (w.alloc (.cells (ints (List.replicate n 0)).toArray 3)):=by
 have:=run_make_row' (P:=Tryz.prog) 25 3 (.int .i64 0) 8 Tryz.underlying25 infoP rfl .i64 .i64 n (by omega) (by omega) w
 rw [made_zeros15] at this
 exact this
theorem own_made15 (w:World) (l:List Int) (hl:l.length≤100000000):OwnI (w.alloc (.cells (ints l).toArray 3)) w.heap.size (some ⟨w.heap.size,0,none⟩) l.length l :=
 ⟨by simp [ints_length],.inr ⟨w.heap.size,l.length,(ints l).toArray,rfl,Nat.le_refl _,heap_alloc_new _ _,Nat.le_refl _,by unfold maxLen; omega,by simp [ints_length],by rw [Nat.mul_one]; exact List.take_of_length_le (by simp [ints_length])⟩⟩
theorem OwnI.at15 {w:World} {B c g:Nat} {l:List Int} (h:OwnI w B (some ⟨g,0,none⟩) c l) {i:Nat} (hi:i < l.length) :
  w.cell? ⟨g,i,none⟩=some (.int .i64 (l.getD i 0))∧w.frozen? ⟨g,i,none⟩=false∧g < w.heap.size∧B≤g:=by
 obtain ⟨g',cap,hv,h1,h2,h3,h4,h5⟩:=own_open h (by omega)
 simp only [Value.slice.injEq,Option.some.injEq,Addr.mk.injEq,and_true] at hv
 obtain ⟨rfl,-,rfl⟩:=hv
 refine ⟨?_,h5 i,h2,h1⟩
 rw [h4 i (by omega),ints_get l i hi,List.getD_eq_getElem?_getD,List.getElem?_eq_getElem hi]
 rfl
theorem OwnI.put15 {w:World} {B c g:Nat} {l:List Int} (h:OwnI w B (some ⟨g,0,none⟩) c l) (i:Nat) (x:Int) :
  OwnI (w.setCell ⟨g,i,none⟩ (.int .i64 x)) B (some ⟨g,0,none⟩) c (l.set i x)∧w.grownBy (w.setCell ⟨g,i,none⟩ (.int .i64 x)) (some g):=by
 have:=World.ownsRow.stored h i (.int .i64 x)
 refine ⟨?_,this.2⟩
 unfold OwnI
 rw [List.length_set,show ints (l.set i x)=(ints l).set i (.int .i64 x) by simp [ints,List.map_set]]
 exact this.1
def cI (ps x y:List Int):Int:=LN.sz ps (difQ (rq x) (rq y))
theorem cmpA_ok {W:World} {ps:List Int} (P:PrOk ps) {a0 a1 a2:Option Addr} (c0 c1 c2:Nat) {la lb:List Rat} (rp:Rd W a0 (ints ps)) (r1:Rd W a1 (cellsQ la)) (r2:Rd W a2 (cellsQ lb))
  (l1:la.length=ps.length) (l2:lb.length=ps.length) (s1:∀ q∈la,Sm 30 q) (s2:∀ q∈lb,Sm 30 q) (g:Good ps (difQ la lb)) (L:Laid W) :
  Gives Tryz.prog 105 #[.slice a0 ps.length c0,.slice a1 ps.length c1,.slice a2 ps.length c2] W (.tuple #[.int .i64 (LN.sz ps (difQ la lb)),.int .i64 0]):=by
 have h6:=P.n6
 have e:sumQ ps.length [la,lb] [1,-1]=difQ la lb:=by
  rw [sumQ_two _ _ _ _ _ l1 l2]
  unfold difQ
  rw [rat_one_int,rat_mone_int]
 have h:=Compare_dec W ps a0 a1 a2 c0 c1 c2 la lb ⟨rp,r1,l1,by omega,P.pr,s1,by decide⟩ ⟨rp,r2,l2,by omega,P.pr,s2,by decide⟩ P.p0 L (by rw [e]; exact g)
 rw [e,l1,l2] at h
 exact h
theorem cmpI_ok {W:World} {ps:List Int} (P:PrOk ps) {a0 a1 a2:Option Addr} (c0 c1 c2:Nat) {x y:List Int} (rp:Rd W a0 (ints ps)) (r1:Rd W a1 (cellsQ (rq x))) (r2:Rd W a2 (cellsQ (rq y)))
  (l1:x.length=ps.length) (l2:y.length=ps.length) (s1:Bd 50000 x) (s2:Bd 50000 y) (L:Laid W) :
  Gives Tryz.prog 105 #[.slice a0 ps.length c0,.slice a1 ps.length c1,.slice a2 ps.length c2] W (.tuple #[.int .i64 (cI ps x y),.int .i64 0]) :=
 cmpA_ok P c0 c1 c2 rp r1 r2 (by rw [rq_length,l1]) (by rw [rq_length,l2]) (s1.sm (by decide) (by decide)) (s2.sm (by decide) (by decide)) (by rw [difQ_rq (l1.trans l2.symm)]; exact (s1.sub s2).good (by decide) P) L
end Go.Proofs.YtkoicfghplmghaaGreatDoor

namespace Go.Proofs.YtkoicfghplmghaaGreatDoor
open Go.RowKit
theorem lsub_ok (w:World) (a1 a2:Option Addr) (c1 c2 n:Nat) (xs ys:List Int) (rx:Rd w a1 (ints xs)) (ry:Rd w a2 (ints ys)) (l1:xs.length=n) (l2:ys.length=n) (hn6:n≤1000)
  (h1:Bd 1000000000000000 xs) (h2:Bd 1000000000000000 ys) :
  Calls Tryz.prog 48 #[.slice a1 n c1,.slice a2 n c2] w fun e w'=>∃ a c,e = .returned (.slice a n c)∧Rd w' a (ints (subI xs ys))∧Below w.heap.size w w':=by
 have Hx:=hd_ rx
 have Hy:=hd_ ry
 have Hl1:=hd_ l1
 have Hl2:=hd_ l2
 have Hb1:=hd_ h1
 have Hb2:=hd_ h2
 have O1:Hid (OwnI w w.heap.size none 0 (subI (xs.take 0) (ys.take 0))):=OwnI.nil w _
 clear rx ry l1 l2 h1 h2
 go_enter Tryz.func48,Tryz.ntmps48
 go_wp2_with fail
 go_loopw [5,9] (fun o i wr=>∃ (k:Nat) (b:Option Addr) (d:Nat),k≤n∧i = .int .i64 k∧o = .slice b k d∧Hid (OwnI wr w.heap.size b d (subI (xs.take k) (ys.take k)))∧Hid (Below w.heap.size w wr)) (fun _ i _=>n - (intOf i).toNat)
 case atStart=>exact ⟨0,none,0,Nat.zero_le _,rfl,rfl,O1,Below.refl _ _⟩
 case round =>
  clear O1
  obtain ⟨k,b,d,hk,rfl,rfl,O,B⟩:=hrel
  by_cases hlt:k < n
  ·have hlt':(k:Int) < n:=by omega
   have hkx:k < xs.length:=by rw [Hl1.out]; exact hlt
   have hky:k < ys.length:=by rw [Hl2.out]; exact hlt
   have hx:=Hb1.out _ (List.getElem_mem hkx)
   have hy:=Hb2.out _ (List.getElem_mem hky)
   obtain ⟨b1,o1,rfl,hb1,hc1⟩:=Hx.out.open (by rw [ints_length]; omega)
   obtain ⟨b2,o2,rfl,hb2,hc2⟩:=Hy.out.open (by rw [ints_length]; omega)
   have x1:wr.cell? ⟨b1,o1 + k,none⟩=some (.int .i64 xs[k]):=by
    rw [B.out.cell (p:=⟨b1,o1 + k,none⟩) hb1]
    exact hc1 k _ (ints_get _ k hkx)
   have x2:wr.cell? ⟨b2,o2 + k,none⟩=some (.int .i64 ys[k]):=by
    rw [B.out.cell (p:=⟨b2,o2 + k,none⟩) hb2]
    exact hc2 k _ (ints_get _ k hky)
   have Hs:Hid (subI (xs.take (k + 1)) (ys.take (k + 1))=subI (xs.take k) (ys.take k) ++ [xs[k] - ys[k]]):=by
    show _=_
    unfold subI
    rw [List.take_add_one,List.take_add_one,List.getElem?_eq_getElem hkx,List.getElem?_eq_getElem hky,List.zipWith_append (by simp; omega)]
    rfl
   have Hlk:Hid ((subI (xs.take k) (ys.take k)).length=k):=by show _=_; unfold subI; rw [List.length_zipWith,List.length_take,List.length_take]; omega
   clear hc1 hc2
   generalize xs[k]=x at *
   generalize ys[k]=y at *
   have hwa:IntKind.i64.wrap (x - y)=x - y:=iw_ _ (by omega)
   have q1:=BW.cell x1
   have q2:=BW.cell x2
   have hnon:Nonempty (BW wr):=⟨⟨wr,Below.refl _ _⟩⟩
   have I:Hid (Below wr.heap.size wr wr.drew):=(Below.refl _ _).drew
   have Ow:Hid (wr.drew.ownsRow w.heap.size 3 1 (.slice b k d) k (ints (subI (xs.take k) (ys.take k)))):=by
    have h0:OwnI wr.drew w.heap.size b d (subI (xs.take k) (ys.take k)):=O.out.below I.out nr_
    unfold OwnI at h0
    rw [Hlk.out] at h0
    exact h0
   have Bd:=hd_ (B.out.drew)
   go_wp2_with fail
   refine RY.wp_region_readers 10 [(2,0),(2,1),(2,2),(2,3),(1,4),(2,5),(2,6),(2,7),(1,8),(2,9),(0,10),(0,11),(0,12)] (fun w'=>∃ p:BW wr,w'=p.w) (by kernel_rfl) (by kernel_rfl) ?_ ?_
   ·exact ⟨⟨_,I.out⟩,rfl⟩
   refine RY.walkR_any ?_
   simp only [dz_,tsc_,tz_]
   go_big_quiet_step (fail)
   refine wpQuiet_nil ?_
   refine RY.walkR_any ?_
   simp only [dsc_,dz_,tsc_,tz_]
   go_big_quiet_step (fail)
   refine wpQuiet_nil ?_
   refine RY.walkR_any ?_
   simp only [dsc_,dz_,tsc_,tz_]
   go_big_quiet_step (fail)
   refine wpQuiet_nil ?_
   refine RY.walkR_any ?_
   simp only [dsc_,dz_,tsc_,tz_]
   go_big_quiet_step (fail)
   refine wpQuiet_nil ?_
   refine RY.walkR_read ?_
   simp only [dsc_,dz_,tsc_,tz_]
   go_big_quiet_step (fail)
   refine wpQuiet_nil ?_
   refine RY.walkR_any ?_
   simp only [dsc_,dz_,tsc_,tz_]
   go_big_quiet_step (fail)
   refine wpQuiet_nil ?_
   refine RY.walkR_any ?_
   simp only [dsc_,dz_,tsc_,tz_]
   go_big_quiet_step (fail)
   refine wpQuiet_nil ?_
   refine RY.walkR_any ?_
   simp only [dsc_,dz_,tsc_,tz_]
   go_big_quiet_step (fail)
   refine wpQuiet_nil ?_
   refine RY.walkR_read ?_
   simp only [dsc_,dz_,tsc_,tz_]
   go_big_quiet_step (fail)
   refine wpQuiet_nil ?_
   refine RY.walkR_any ?_
   simp only [dsc_,dz_,tsc_,tz_]
   go_big_quiet_step (fail)
   refine wpQuiet_nil ?_
   clear hnon q1 q2
   refine RY.walkR_move ?_
   simp only [dsc_,dz_,tsc_,tz_]
   go_wp2_with fail
   refine RY.walkR_move ?_
   simp only [dsc_,dz_,tsc_,tz_]
   show wpList _ _ _ _ _ (wr.drew.alloc (Obj.cells ([Value.int .i64 (x - y)]).toArray 3))
   refine wpList_append_new rfl (.tmp 12) (.tmp 22) 25 rfl elRow _ 1 [.int .i64 (x - y)] rfl rfl Ow.out Bd.out.size rfl (by simp [Value.oneCell']) (by omega) (by omega) ?_
   intro v' w3 hown3 hg3 hnil3
   have B3:Hid (Below w.heap.size w w3):=(Bd.out.alloc Bd.out.size _).grown hg3 (Nat.le_trans Bd.out.size (by rw [World.size_alloc]; omega)) (fun j hj=>by have:=(Ow.out.lt j hj).1; omega)
   obtain ⟨b3,d3,rfl⟩:=own_form hown3
   have O3:Hid (OwnI w3 w.heap.size b3 d3 (subI (xs.take (k + 1)) (ys.take (k + 1)))):=by
    show w3.ownsRow _ _ _ _ _ _
    rw [Hs.out,List.length_append,Hlk.out,ints_append]
    exact hown3
   clear hown3 hg3 hnil3 Ow I Bd B O
   simp only [wpList]
   refine ⟨trivial,.inl rfl,?_⟩
   refine RY.walkR_move ?_
   simp only [dsc_,dz_,tsc_,tz_]
   go_wp2_with fail
   simp only [RY.walkR]
   go_wp2_with fail
   go_roundw
   case rel=>exact ⟨k + 1,b3,d3,by omega,by go_num,rfl,O3,B3⟩
   case measure=>simp [intOf]; omega
  ·have hlt':¬ (k:Int) < n:=by omega
   have hkn:k=n:=by omega
   subst hkn
   have Hfull:Hid (subI (xs.take k) (ys.take k)=subI xs ys):=by
    show _=_
    rw [List.take_of_length_le (by rw [Hl1.out]; exact Nat.le_refl _),List.take_of_length_le (by rw [Hl2.out]; exact Nat.le_refl _)]
   rw [Hfull.out] at O
   have Rr:=hd_ O.out.rd
   clear O Hfull
   go_wp2_with fail
   go_ret
   exact ⟨b,⟨d,rfl⟩,Rr.out,B.out⟩
def timI (q:Int) (x:List Int):List Int:=x.map fun a=>q * a
theorem timI_length (q:Int) (x:List Int):(timI q x).length=x.length:=by simp [timI]
theorem ltimes_ok (w:World) (a1:Option Addr) (c1 n:Nat) (xs:List Int) (q:Int) (rx:Rd w a1 (ints xs)) (l1:xs.length=n) (hn6:n≤1000) (h1:Bd 1000000 xs) (hq:q.natAbs≤1000000000) :
  Calls Tryz.prog 14 #[.slice a1 n c1,.int .i64 q] w fun e w'=>∃ a c,e = .returned (.slice a n c)∧Rd w' a (ints (timI q xs))∧Below w.heap.size w w':=by
 have Hx:=hd_ rx
 have Hl1:=hd_ l1
 have Hb1:=hd_ h1
 have O1:Hid (OwnI w w.heap.size none 0 (timI q (xs.take 0))):=OwnI.nil w _
 clear rx l1 h1
 go_enter Tryz.func14,Tryz.ntmps14
 go_wp2_with fail
 go_loopw [5,10] (fun o i wr=>∃ (k:Nat) (b:Option Addr) (d:Nat),k≤n∧i = .int .i64 k∧o = .slice b k d∧Hid (OwnI wr w.heap.size b d (timI q (xs.take k)))∧Hid (Below w.heap.size w wr)) (fun _ i _=>n - (intOf i).toNat)
 case atStart=>exact ⟨0,none,0,Nat.zero_le _,rfl,rfl,O1,Below.refl _ _⟩
 case round =>
  clear O1
  obtain ⟨k,b,d,hk,rfl,rfl,O,B⟩:=hrel
  by_cases hlt:k < n
  ·have hlt':(k:Int) < n:=by omega
   have hkx:k < xs.length:=by rw [Hl1.out]; exact hlt
   have hx:=Hb1.out _ (List.getElem_mem hkx)
   obtain ⟨b1,o1,rfl,hb1,hc1⟩:=Hx.out.open (by rw [ints_length]; omega)
   have x1:wr.cell? ⟨b1,o1 + k,none⟩=some (.int .i64 xs[k]):=by
    rw [B.out.cell (p:=⟨b1,o1 + k,none⟩) hb1]
    exact hc1 k _ (ints_get _ k hkx)
   have Hs:Hid (timI q (xs.take (k + 1))=timI q (xs.take k) ++ [q * xs[k]]):=by
    show _=_
    unfold timI
    rw [List.take_add_one,List.getElem?_eq_getElem hkx,List.map_append]
    rfl
   have Hlk:Hid ((timI q (xs.take k)).length=k):=by show _=_; rw [timI_length,List.length_take]; omega
   clear hc1
   generalize xs[k]=x at *
   have hpr:(q * x).natAbs≤1000000000 * 1000000:=by rw [Int.natAbs_mul]; exact Nat.mul_le_mul hq hx
   have hwm:IntKind.i64.wrap (q * x)=q * x:=iw_ _ (by omega)
   clear hpr
   have Ow:Hid (wr.ownsRow w.heap.size 3 1 (.slice b k d) k (ints (timI q (xs.take k)))):=by
    have h0:=O.out
    unfold OwnI at h0
    rw [Hlk.out] at h0
    exact h0
   have hsz:=B.out.size
   go_wp2_with (at_builtin; refine wpList_append_one rfl (.tmp 14) (.tmp 18) 25 rfl elRow _ (.int .i64 (q * x)) rfl rfl Ow.out hsz rfl (by omega) (by omega) ?_)
   intro v' w3 hown3 hg3 _
   have B3:Hid (Below w.heap.size w w3):=(B.out.alloc hsz _).grown hg3 (Nat.le_trans hsz (by rw [World.size_alloc]; omega)) (fun j hj=>by have:=(Ow.out.lt j hj).1; omega)
   obtain ⟨b3,d3,rfl⟩:=own_form hown3
   have O3:Hid (OwnI w3 w.heap.size b3 d3 (timI q (xs.take (k + 1)))):=by
    show w3.ownsRow _ _ _ _ _ _
    rw [Hs.out,List.length_append,Hlk.out,ints_append]
    exact hown3
   clear hown3 hg3 Ow B O hsz
   go_wp2_with fail
   go_roundw
   case rel=>exact ⟨k + 1,b3,d3,by omega,by go_num,rfl,O3,B3⟩
   case measure=>simp [intOf]; omega
  ·have hlt':¬ (k:Int) < n:=by omega
   have hkn:k=n:=by omega
   subst hkn
   have Hfull:Hid (timI q (xs.take k)=timI q xs):=by
    show _=_
    rw [List.take_of_length_le (by rw [Hl1.out]; exact Nat.le_refl _)]
   rw [Hfull.out] at O
   have Rr:=hd_ O.out.rd
   clear O Hfull
   go_wp2_with fail
   go_ret
   exact ⟨b,⟨d,rfl⟩,Rr.out,B.out⟩
theorem iunit_ok (w:World) (a0:Option Addr) (c0 n:Nat) (h0:0 < n) (h6:n≤1000) :
  Calls Tryz.prog 98 #[.slice a0 n c0] w fun e w'=>∃ a c,e = .returned (.slice a n c)∧Rd w' a (ints (unitI n))∧Below w.heap.size w w':=by
 have hmk:=made_i15 n w (by omega)
 have O:=hd_ (own_made15 w (List.replicate n 0) (by simp; omega))
 have B:=hd_ ((Below.refl w.heap.size w).alloc nr_ (.cells (ints (List.replicate n 0)).toArray 3))
 obtain ⟨k0,f0,-,-⟩:=O.out.at15 (i:=0) (by simp; omega)
 rw [List.getD_eq_getElem?_getD,List.getElem?_replicate,if_pos h0] at k0
 simp only [Option.getD_some] at k0
 have O2:=hd_ (own_made15 w (unitI n) (by rw [unitI_length]; omega))
 have hset:Hid ((ints (List.replicate n 0)).set 0 (.int .i64 1)=ints (unitI n)):=by show _=_; simp [ints,unitI,List.map_set]
 have B2:=hd_ ((Below.refl w.heap.size w).alloc nr_ (.cells (ints (unitI n)).toArray 3))
 have hn0:(0:Int) < n:=by omega
 clear O B
 go_enter Tryz.func98,Tryz.ntmps98
 go_wp2_with fail
 go_ret
 rw [hset.out]
 exact ⟨some ⟨w.heap.size,0,none⟩,n,rfl,O2.out.rd,B2.out⟩
theorem lequave_ok (w:World) (a0:Option Addr) (c0 n:Nat) (h0:0 < n) (h6:n≤1000) :
  Calls Tryz.prog 101 #[.slice a0 n c0] w fun e w'=>∃ a c,e = .returned (.slice a n c)∧Rd w' a (ints (unitI n))∧Below w.heap.size w w':=by
 have hmk:=made_i15 n w (by omega)
 have O:=hd_ (own_made15 w (List.replicate n 0) (by simp; omega))
 have B:=hd_ ((Below.refl w.heap.size w).alloc nr_ (.cells (ints (List.replicate n 0)).toArray 3))
 obtain ⟨k0,f0,-,-⟩:=O.out.at15 (i:=0) (by simp; omega)
 rw [List.getD_eq_getElem?_getD,List.getElem?_replicate,if_pos h0] at k0
 simp only [Option.getD_some] at k0
 have O2:=hd_ (own_made15 w (unitI n) (by rw [unitI_length]; omega))
 have hset:Hid ((ints (List.replicate n 0)).set 0 (.int .i64 1)=ints (unitI n)):=by show _=_; simp [ints,unitI,List.map_set]
 have B2:=hd_ ((Below.refl w.heap.size w).alloc nr_ (.cells (ints (unitI n)).toArray 3))
 have hn0:(0:Int) < n:=by omega
 clear O B
 go_enter Tryz.func101,Tryz.ntmps101
 go_wp2_with fail
 go_ret
 rw [hset.out]
 exact ⟨some ⟨w.heap.size,0,none⟩,n,rfl,O2.out.rd,B2.out⟩
end Go.Proofs.YtkoicfghplmghaaGreatDoor

namespace Go.Proofs.YtkoicfghplmghaaGreatDoor
open Go.RowKit
theorem iclone_ok (w:World) (b o c:Nat) (l:List Int) (hr:Rd w (some ⟨b,o,none⟩) (ints l)) (hl:l.length≤1000) (h0:0 < l.length) :
  Calls Tryz.prog 89 #[.slice (some ⟨b,o,none⟩) l.length c] w fun e w'=>∃ g d,e = .returned (.slice (some ⟨g,0,none⟩) l.length d)∧OwnI w' w.heap.size (some ⟨g,0,none⟩) d l∧Below w.heap.size w w':=by
 obtain ⟨i0,hi,hz0,hz1,hz2⟩:=info_parts infoP
 have q22:∀ (w:World) (a:Option Addr) (n c n' c':Nat),(binOp .eql 25 (.slice a n c) (.slice none n' c')).run Tryz.prog w = .ok (.bool a.isNone) w:=fun w a n c n' c'=>Lib.run_eql_slice_nil w _ _ a n c n' c' Tryz.underlying25
 obtain ⟨b',off,e0,hb',hc0⟩:=hr.open (by rw [ints_length]; exact h0)
 simp only [Option.some.injEq,Addr.mk.injEq,and_true] at e0
 obtain ⟨rfl,rfl⟩:=e0
 have Hc:Hid (∀ j u,(ints l)[j]?=some u→w.cell? ⟨b,o + j,none⟩=some u):=hc0
 have Hone:Hid (∀ u∈ints l,u.oneCell'=true):=fun u hu=>by
  obtain ⟨x,_,rfl⟩:=List.mem_map.1 hu
  rfl
 have Hlen:Hid ((ints l).length=l.length):=ints_length l
 clear hc0 hr
 unfold OwnI
 generalize ints l=vs at *
 generalize l.length=n at *
 go_enter Tryz.func89,Tryz.ntmps89
 go_wp2_with (at_builtin; refine wpList_append_own _ rfl _ _ 25 rfl w.heap.size 3 i0 (.int .i64 0) 1 8 Tryz.underlying25 hi hz0 hz1 hz2 rfl (by decide) _ _ _ rfl (World.ownsRow_made w #[] 0 nr_ (Nat.zero_le _) rfl) ⟨b,o,none⟩ n c vs rfl ?qc1 ?qc2 ?qc3 ?qc4 ?qc5 ?qc6 ?_)
 case qc1=>rw [Hlen.out]; omega
 case qc2 =>
  intro j u hj
  rw [Addr.add_lit]
  exact Lib.cell?_alloc_some _ (Hc.out j u hj)
 case qc3=>exact Hone.out
 case qc4=>unfold maxLen; omega
 case qc5=>omega
 case qc6=>simp
 intro v' w1 hown hgrow hnil
 obtain ⟨a3,d3,rfl⟩:=own_form hown
 have hown':w1.ownsRow w.heap.size 3 1 (.slice a3 n d3) n vs:=by simpa using hown
 have B:=hd_ (((Below.refl _ w).alloc nr_ (.cells #[] 3)).grown hgrow (by simp) (by intro k hk; simp [Value.ownBlock] at hk; omega))
 obtain ⟨g,cap,hv,-,-,-,-,-⟩:=own_open hown' h0
 simp only [Value.slice.injEq] at hv
 obtain ⟨rfl,-,rfl⟩:=hv
 have O:=hd_ hown'
 clear hown hown' hgrow hnil
 go_wp2_with fail
 go_ret
 exact ⟨g,d3,rfl,O.out,B.out⟩
theorem unitI_xs (n:Nat):Xs (unitI n):=fun a ha=>by have:=unitI_bd n a ha; omega
theorem floorU_ok {W:World} {ps x:List Int} (P:PrOk ps) {a0 a1 a2:Option Addr} (c0 c1 c2:Nat) (rp:Rd W a0 (ints ps)) (r1:Rd W a1 (cellsQ (rq x))) (r2:Rd W a2 (cellsQ (rq (unitI ps.length)))) (hl:x.length=ps.length) (hx:Xs x) (L:Laid W) :
  Gives Tryz.prog 106 #[.slice a0 ps.length c0,.slice a1 ps.length c1,.slice a2 ps.length c2] W (.tuple #[.string (itx (flU ps x)),.int .i64 0]):=by
 have h6:=P.n6
 have l1:(rq x).length=ps.length:=by rw [rq_length,hl]
 have l2:(rq (unitI ps.length)).length=ps.length:=by rw [rq_length,unitI_length]
 have A:SizeOk W ps a0 a1 (rq x) 30:=⟨rp,r1,l1,by omega,P.pr,hx.bd.sm (by decide) (by decide),by decide⟩
 have B:SizeOk W ps a0 a2 (rq (unitI ps.length)) 30:=⟨rp,r2,l2,by omega,P.pr,(unitI_bd _).sm (by decide) (by decide),by decide⟩
 have h:=Floor_of W ps a0 a1 a2 c0 c1 c2 _ _ A B P.p0 L (tlQ_ne l2 (unit_nz P.n0)) (flU ps x) fun W' hW=>floor_det W' ps a0 a1 a2 c0 c1 c2 30 10 _ _ (A.below hW) (B.below hW) (by decide) (flr_unit P hl hx) (L.below hW) (flU_of P hl hx)
 rw [l1,l2] at h
 exact h
structure TwoR (w:World) (n:Nat) (g:Nat) (la lb:List Rat):Prop where
 lt:g < w.heap.size
 k0:∃ a c,w.cell? ⟨g,0,none⟩=some (.slice a n c)∧Rd w a (cellsQ la)
 k1:∃ a c,w.cell? ⟨g,1,none⟩=some (.slice a n c)∧Rd w a (cellsQ lb)
theorem isizes_two (w:World) (ps:List Int) (P:PrOk ps) (a0 a1 a2:Option Addr) (c0 c1 c2 g:Nat) (x y:List Int) (rp:Rd w a0 (ints ps)) (hg:w.heap[g]?=some (.cells #[.slice a1 ps.length c1,.slice a2 ps.length c2] 25 (0,0))) (r1:Rd w a1 (ints x)) (r2:Rd w a2 (ints y))
  (l1:x.length=ps.length) (l2:y.length=ps.length) (s1:Xs x) (s2:Xs y) (L:Laid w) :
  Calls Tryz.prog 67 #[.slice a0 ps.length c0,.slice (some ⟨g,0,none⟩) 2 2] w fun e w'=>∃ g' d,e = .returned (.slice (some ⟨g',0,none⟩) 2 d)∧TwoR w' ps.length g' (rq x) (rq y)∧Below w.heap.size w w':=by
 have hiv:Iv ps.length [x,y]:=fun z hz=>by
  simp only [List.mem_cons,List.not_mem_nil,or_false] at hz
  rcases hz with rfl | rfl
  ·exact ⟨l1,s1⟩
  ·exact ⟨l2,s2⟩
 refine cm_ (isizes_ok w ps P a0 (some ⟨g,0,none⟩) c0 2 [x,y] rp (rdi_two (by rw [l1,l2]; exact hg) r1 r2) (by simp) hiv L) ?_
 rintro e w' ⟨b,d,LL,rfl,ho,hb⟩
 have hlen:LL.length=2:=ho.len
 obtain ⟨g',cap,hv,-,h2,-,-,-⟩:=own_open ho.row (by omega)
 simp only [Value.slice.injEq] at hv
 obtain ⟨rfl,-,rfl⟩:=hv
 obtain ⟨b',off,e',hlt,hc⟩:=rdl_cells ho.rdl ho.lens (by simp)
 simp only [Option.some.injEq,Addr.mk.injEq,and_true] at e'
 obtain ⟨rfl,rfl⟩:=e'
 obtain ⟨p0,q0,k0,z0⟩:=hc 0 (by simp)
 obtain ⟨p1,q1,k1,z1⟩:=hc 1 (by simp)
 exact ⟨g',d,rfl,⟨h2,⟨p0,q0,k0,z0⟩,⟨p1,q1,k1,z1⟩⟩,hb⟩
theorem ifloor_of (w:World) (ps:List Int) (P:PrOk ps) (a0 a1 a2:Option Addr) (c0 c1 c2:Nat) (x y:List Int) (q:Int) (rp:Rd w a0 (ints ps)) (r1:Rd w a1 (ints x)) (r2:Rd w a2 (ints y)) (l1:x.length=ps.length) (l2:y.length=ps.length) (s1:Xs x) (s2:Xs y) (L:Laid w)
  (hq : -9223372036854775808≤q∧q≤9223372036854775807)
  (hF:∀ W b1 b2 d1 d2,Below w.heap.size w W→Rd W b1 (cellsQ (rq x))→Rd W b2 (cellsQ (rq y))→Gives Tryz.prog 106 #[.slice a0 ps.length c0,.slice b1 ps.length d1,.slice b2 ps.length d2] W (.tuple #[.string (itx q),.int .i64 0])) :
  Gives Tryz.prog 97 #[.slice a0 ps.length c0,.slice a1 ps.length c1,.slice a2 ps.length c2] w (.tuple #[.int .i64 q,.int .i64 0]):=by
 unfold Gives
 have HS:Hid (∀ W g,Below w.heap.size w W→W.heap[g]?=some (.cells #[.slice a1 ps.length c1,.slice a2 ps.length c2] 25 (0,0))→Calls Tryz.prog 67 #[.slice a0 ps.length c0,.slice (some ⟨g,0,none⟩) 2 2] W fun e w'=>∃ g' d,e = .returned (.slice (some ⟨g',0,none⟩) 2 d)∧TwoR w' ps.length g' (rq x) (rq y)∧Below W.heap.size W w'):=fun W g hW hg =>
  isizes_two W ps P a0 a1 a2 c0 c1 c2 g x y (rp.below hW nr_) hg (r1.below hW nr_) (r2.below hW nr_) l1 l2 s1 s2 (L.below hW)
 have HF:=hd_ hF
 have HM:Hid (∀ W,Below w.heap.size w W→Gives Tryz.prog 149 #[.string (itx q)] W (.tuple #[.int .i64 q,.bool true])):=fun W hW=>by
  have:=smallz_any W q (num_pow (D:=20) (by omega) (by decide) (by decide)) (L.below hW)
  rw [if_pos hq] at this
  exact this
 clear rp r1 r2 l1 l2 s1 s2 L hF P
 generalize itx q=s at *
 generalize ps.length=n at *
 have B0:=hd_ ((Below.refl w.heap.size w).alloc nr_ (.cells #[.slice a1 n c1,.slice a2 n c2] 25))
 go_enter Tryz.func97,Tryz.ntmps97
 go_wp2_with fail
 refine cm_ (HS.out _ _ B0.out (heap_at w _ _ _ rfl)) ?_
 rintro e_ w1 ⟨g,d,rfl,T,hb_⟩
 have B1:=hd_ (B0.out.trans (hb_.mono B0.out.size))
 obtain ⟨b1,d1,k0,z0⟩:=T.k0
 obtain ⟨b2,d2,k1,z1⟩:=T.k1
 have q0:=BW.cell k0
 have q1:=BW.cell k1
 have hnon:Nonempty (BW w1):=⟨⟨w1,Below.refl _ _⟩⟩
 have I:Hid (Below w1.heap.size w1 w1.drew):=(Below.refl _ _).drew
 have HFl:Hid (∀ W,Below w1.heap.size w1 W→Gives Tryz.prog 106 #[.slice a0 n c0,.slice b1 n d1,.slice b2 n d2] W (.tuple #[.string s,.int .i64 0])):=fun W hW =>
  HF.out W b1 b2 d1 d2 (B1.out.trans (hW.mono B1.out.size)) (z0.below hW nr_) (z1.below hW nr_)
 clear hb_ T z0 z1 HF HS B0
 go_wp2_with fail
 clear k0 k1
 refine RY.wp_region_readers 7 [(1,0),(1,1),(1,2),(1,3),(1,4),(1,5),(1,6),(0,7),(0,8),(2,9),(2,10),(0,11),(0,12)] (fun w'=>∃ p:BW w1,w'=p.w) (by kernel_rfl) (by kernel_rfl) ?_ ?_
 ·exact ⟨⟨_,I.out⟩,rfl⟩
 iterate 7 (refine RY.walkR_read ?_; simp only [dsc_,dz_,tsc_,tz_]; go_big_quiet_step (fail); refine wpQuiet_nil ?_)
 clear hnon q0 q1
 refine RY.walkR_move ?_
 simp only [dsc_,dz_,tsc_,tz_]
 go_wp2_with fail
 refine cm_ (HFl.out _ I.out) ?_
 rintro e_ w2 ⟨rfl,hb_⟩
 have I2:=hd_ (I.out.trans (hb_.mono I.out.size))
 have B2:=hd_ (B1.out.trans (I2.out.mono B1.out.size))
 clear hb_ I HFl I2 B1
 go_wp2_with fail
 refine RY.walkR_move ?_
 simp only [dsc_,dz_,tsc_,tz_]
 go_wp2_with fail
 iterate 2 (refine RY.walkR_any ?_; simp only [dsc_,dz_,tsc_,tz_]; go_big_quiet_step (fail); refine wpQuiet_nil ?_)
 refine RY.walkR_move ?_
 simp only [dsc_,dz_,tsc_,tz_]
 go_wp2_with fail
 refine RY.walkR_move ?_
 simp only [dsc_,dz_,tsc_,tz_]
 go_wp2_with fail
 simp only [RY.walkR]
 go_wp2_with fail
 refine cm_ (HM.out _ B2.out) ?_
 rintro e_ w3 ⟨rfl,hb_⟩
 have B3:=hd_ (B2.out.trans (hb_.mono B2.out.size))
 clear hb_ HM B2
 go_wp2_with fail
 go_ret2
 exact ⟨rfl,B3.out⟩
end Go.Proofs.YtkoicfghplmghaaGreatDoor

namespace Go.Proofs.YtkoicfghplmghaaGreatDoor
open Go.RowKit
def addE (k:Int) (x:List Int):List Int:=x.set 0 (x.getD 0 0 + k)
theorem addE_length (k:Int) (x:List Int):(addE k x).length=x.length:=by simp [addE]
theorem addE_sub {x:List Int} {n:Nat} (q:Int) (hl:x.length=n) (h0:0 < n):subI x (timI q (unitI n))=addE (-q) x:=by
 obtain ⟨m,rfl⟩:∃ m,n=m + 1:=⟨n - 1,by omega⟩
 match x,hl with
 | a :: r,hl =>
  have hr:r.length=m:=by simpa using hl
  rw [unitI_succ]
  unfold subI timI addE
  simp only [List.map_cons,List.zipWith_cons_cons,List.set_cons_zero,List.getD_cons_zero,List.map_replicate]
  congr 1
  ·rw [Int.mul_one]; omega
  ·refine List.ext_getElem (by simp [hr]) fun i h1 h2=>?_
   simp only [List.getElem_zipWith,List.getElem_replicate]
   omega
theorem iequaves_ok (w:World) (ps:List Int) (P:PrOk ps) (a0 a1:Option Addr) (c0 c1:Nat) (x:List Int) (k:Int) (rp:Rd w a0 (ints ps)) (r1:Rd w a1 (ints x)) (l1:x.length=ps.length) (s1:Xs x) (hk:k.natAbs≤1000000000) :
  Calls Tryz.prog 99 #[.slice a0 ps.length c0,.slice a1 ps.length c1,.int .i64 k] w fun e w'=>ResI w' ps.length (addE k x) e∧Below w.heap.size w w':=by
 have h6:=P.n6
 have hn0:=P.n0
 obtain ⟨b1,o1,rfl,hb1,hc1⟩:=r1.open (by rw [ints_length]; omega)
 have HC:Hid (Calls Tryz.prog 89 #[.slice (some ⟨b1,o1,none⟩) ps.length c1] w fun e w'=>∃ g d,e = .returned (.slice (some ⟨g,0,none⟩) ps.length d)∧OwnI w' w.heap.size (some ⟨g,0,none⟩) d x∧Below w.heap.size w w'):=by
  have:=iclone_ok w b1 o1 c1 x r1 (by omega) (by omega)
  rw [l1] at this
  exact this
 have HK:Hid (∀ W a c,Below w.heap.size w W→Rd W a (ints (addE k x))→Gives Tryz.prog 17 #[.slice a0 ps.length c0,.slice a ps.length c] W (.int .i64 (mx (addE k x)))):=fun W a c hW hr=>by
  have:=monCheck_any W a0 a c0 c ps (addE k x) (rp.below hW nr_) P.i64 (by omega) hr (by rw [addE_length]; omega)
  rw [addE_length,l1] at this
  have e:mcode1 ps (addE k x)=mx (addE k x):=by
   unfold mcode1 mcode
   rw [if_pos P.p0,mgo,mrow,if_pos ((addE_length k x).trans l1),mgo]
   split
   ·rename_i h; exact h.symm
   ·rfl
  rw [e] at this
  exact this
 have hx0 : -1000≤x.getD 0 0∧x.getD 0 0≤1000:=by
  rw [List.getD_eq_getElem?_getD,List.getElem?_eq_getElem (by omega)]
  exact s1 _ (List.getElem_mem _)
 have Hset:Hid (x.set 0 (x.getD 0 0 + k)=addE k x):=rfl
 have h2:=mx_two (addE k x)
 have Hl1:=hd_ l1
 have hwr:IntKind.i64.wrap (x.getD 0 0 + k)=x.getD 0 0 + k:=iw_ _ (by omega)
 have h0:0 < x.length:=by omega
 clear rp r1 l1 s1 hk hc1 hb1
 have HV:Hid (∀ W e,ResI W ps.length (addE k x) e=((mx (addE k x)=0∧∃ a c,e = .returned (.tuple #[.slice a ps.length c,.int .i64 0])∧Rd W a (ints (addE k x)))∨(mx (addE k x)≠0∧e = .returned (.tuple #[.slice none 0 0,.int .i64 4])))):=fun _ _=>rfl
 generalize hy:addE k x=y at *
 clear hy
 generalize mx y=m at *
 generalize ps.length=n at *
 go_enter Tryz.func99,Tryz.ntmps99
 go_wp2_with fail
 refine cm_ HC.out ?_
 rintro e_ w1 ⟨g,d,rfl,ho_,hb_⟩
 have B1:=hd_ hb_
 obtain ⟨k0,f0,hlt,hB⟩:=ho_.at15 h0
 have O2:=hd_ (ho_.put15 0 (x.getD 0 0 + k)).1
 rw [Hset.out] at O2
 have B2:=hd_ (B1.out.setCell (p:=⟨g,0,none⟩) hB (.int .i64 (x.getD 0 0 + k)))
 clear hb_ ho_ HC B1 Hset hlt hB
 generalize x.getD 0 0=x0 at *
 have hn0':(0:Int) < n:=by omega
 go_wp2_with fail
 generalize w1.setCell ⟨g,0,none⟩ (.int .i64 (x0 + k))=w2 at *
 refine cm_ (HK.out _ _ _ B2.out O2.out.rd) ?_
 rintro e_ w3 ⟨rfl,hb_⟩
 have B3:=hd_ (B2.out.trans (hb_.mono B2.out.size))
 have R3:=hd_ (O2.out.rd.below hb_ nr_)
 clear hb_ HK B2 O2
 rcases h2 with rfl | rfl
 ·go_wp2_with fail
  go_ret2
  exact ⟨by rw [HV.out]; exact .inl ⟨(by first | trivial | rfl),_,d,rfl,R3.out⟩,B3.out⟩
 ·go_wp2_with fail
  go_ret2
  exact ⟨by rw [HV.out]; exact .inr ⟨by decide,rfl⟩,B3.out⟩
def ResJ (w:World) (n:Nat) (l:List Int) (q:Int) (e:Ending):Prop:=(mx l=0∧∃ a c,e = .returned (.tuple #[.slice a n c,.int .i64 q,.int .i64 0])∧Rd w a (ints l))∨(mx l≠0∧e = .returned (.tuple #[.slice none 0 0,.int .i64 0,.int .i64 4]))
theorem ResJ.form {w:World} {n:Nat} {l:List Int} {q:Int} {e:Ending} (h:ResJ w n l q e):∃ v1 v2 v3,e = .returned (.tuple #[v1,v2,v3]):=by
 rcases h with ⟨_,a,c,h,_⟩ | ⟨_,h⟩
 ·exact ⟨_,_,_,h⟩
 ·exact ⟨_,_,_,h⟩
noncomputable def redI (ps x:List Int):List Int:=addE (-flU ps x) x
theorem redI_length (ps x:List Int):(redI ps x).length=x.length:=addE_length _ _
theorem ocode_one {ps x:List Int} (P:PrOk ps) (l1:x.length=ps.length) (s1:Xs x):ocode ps [] [x]=0:=by
 unfold ocode
 rw [if_pos P.p0,if_neg (by simp),List.nil_append,mgo,if_pos (mrow_ok s1 l1),mgo]
theorem iReduce_ok (w:World) (ps:List Int) (P:PrOk ps) (a0 a1:Option Addr) (c0 c1:Nat) (x:List Int) (rp:Rd w a0 (ints ps)) (r1:Rd w a1 (ints x)) (l1:x.length=ps.length) (s1:Xs x) (L:Laid w) :
  Calls Tryz.prog 40 #[.slice a0 ps.length c0,.slice a1 ps.length c1] w fun e w'=>ResJ w' ps.length (redI ps x) (flU ps x) e∧Below w.heap.size w w':=by
 have h6:=P.n6
 have hn0:=P.n0
 have hf:=flU_le P l1 s1
 have HOp:Hid (∀ W g,Below w.heap.size w W→W.heap[g]?=some (.cells #[.slice a1 ps.length c1] 25 (0,0))→Gives Tryz.prog 93 #[.slice a0 ps.length c0,.slice none 0 0,.slice (some ⟨g,0,none⟩) 1 1] W (.int .i64 0)):=fun W g hW hg=>by
  have:=open_any W a0 none (some ⟨g,0,none⟩) c0 0 1 ps [] [x] (rp.below hW nr_) P.i64 (by omega) (.inl rfl) (rdi_one (by rw [l1]; exact hg) (r1.below hW nr_)) (fun _=>⟨rfl,rfl⟩) (fun h=>by cases h) (by simp) (by simp) (fun y hy=>by simp at hy; subst hy; omega)
  rw [ocode_one P l1 s1] at this
  exact this
 have HU:Hid (∀ W,Calls Tryz.prog 98 #[.slice a0 ps.length c0] W fun e w'=>∃ a c,e = .returned (.slice a ps.length c)∧Rd w' a (ints (unitI ps.length))∧Below W.heap.size W w'):=fun W=>iunit_ok W a0 c0 ps.length hn0 (by omega)
 have HF:Hid (∀ W a c,Below w.heap.size w W→Rd W a (ints (unitI ps.length))→Gives Tryz.prog 97 #[.slice a0 ps.length c0,.slice a1 ps.length c1,.slice a ps.length c] W (.tuple #[.int .i64 (flU ps x),.int .i64 0])):=fun W a c hW hr =>
  ifloor_of W ps P a0 a1 a c0 c1 c x (unitI ps.length) (flU ps x) (rp.below hW nr_) (r1.below hW nr_) hr l1 (unitI_length _) s1 (unitI_xs _) (L.below hW) (by omega) fun W' b1 b2 d1 d2 hW' h1 h2 =>
   floorU_ok P c0 d1 d2 ((rp.below hW nr_).below hW' nr_) h1 h2 l1 s1 ((L.below hW).below hW')
 have HE:Hid (∀ W,Below w.heap.size w W→Calls Tryz.prog 99 #[.slice a0 ps.length c0,.slice a1 ps.length c1,.int .i64 (-flU ps x)] W fun e w'=>ResI w' ps.length (redI ps x) e∧Below W.heap.size W w'):=fun W hW =>
  iequaves_ok W ps P a0 a1 c0 c1 x (-flU ps x) (rp.below hW nr_) (r1.below hW nr_) l1 s1 (by omega)
 have HV:Hid (∀ W e,ResJ W ps.length (redI ps x) (flU ps x) e=((mx (redI ps x)=0∧∃ a c,e = .returned (.tuple #[.slice a ps.length c,.int .i64 (flU ps x),.int .i64 0])∧Rd W a (ints (redI ps x)))∨(mx (redI ps x)≠0∧e = .returned (.tuple #[.slice none 0 0,.int .i64 0,.int .i64 4])))):=fun _ _=>rfl
 clear rp r1 l1 s1 L P h6 hn0
 generalize redI ps x=y at *
 generalize flU ps x=q at *
 generalize ps.length=n at *
 have hneg:IntKind.i64.wrap (-q) = -q:=iw_ _ (by omega)
 have B0:=hd_ ((Below.refl w.heap.size w).alloc nr_ (.cells #[.slice a1 n c1] 25))
 go_enter Tryz.func40,Tryz.ntmps40
 go_wp2_with fail
 refine cm_ (HOp.out _ _ B0.out (heap_at w _ _ _ rfl)) ?_
 rintro e_ w1 ⟨rfl,hb_⟩
 have B1:=hd_ (B0.out.trans (hb_.mono B0.out.size))
 clear hb_ HOp B0
 go_wp2_with fail
 refine cm_ (HU.out _) ?_
 rintro e_ w2 ⟨a2,c2,rfl,hr_,hb_⟩
 have B2:=hd_ (B1.out.trans (hb_.mono B1.out.size))
 have R2:=hd_ hr_
 clear hb_ hr_ HU B1
 go_wp2_with fail
 refine cm_ (HF.out _ _ _ B2.out R2.out) ?_
 rintro e_ w3 ⟨rfl,hb_⟩
 have B3:=hd_ (B2.out.trans (hb_.mono B2.out.size))
 clear hb_ HF B2 R2
 go_wp2_with fail
 refine cm_ (HE.out _ B3.out) ?_
 rintro e_ w4 ⟨hres,hb_⟩
 have B4:=hd_ (B3.out.trans (hb_.mono B3.out.size))
 clear hb_ HE B3
 rcases hres with ⟨h0,a4,c4,rfl,hr⟩ | ⟨h0,rfl⟩
 ·have R4:=hd_ hr
  have H0:=hd_ h0
  clear hr h0
  go_wp2_with fail
  go_ret3
  exact ⟨by rw [HV.out]; exact .inl ⟨H0.out,a4,c4,rfl,R4.out⟩,B4.out⟩
 ·have H0:=hd_ h0
  clear h0
  go_wp2_with fail
  go_ret3
  exact ⟨by rw [HV.out]; exact .inr ⟨H0.out,rfl⟩,B4.out⟩
theorem iReduce_err (w:World) (a0 a1:Option Addr) (c0 c1:Nat) (ps x:List Int) (rp:Rd w a0 (ints ps)) (hi:I64s ps) (hl0:ps.length≤1000000) (r1:Rd w a1 (ints x)) (hl:x.length≤1000000) (hc:ocode ps [] [x]≠0) :
  Gives Tryz.prog 40 #[.slice a0 ps.length c0,.slice a1 x.length c1] w (.tuple #[.slice none 0 0,.int .i64 0,.int .i64 (ocode ps [] [x])]):=by
 unfold Gives
 have HOp:Hid (∀ W g,Below w.heap.size w W→W.heap[g]?=some (.cells #[.slice a1 x.length c1] 25 (0,0))→Gives Tryz.prog 93 #[.slice a0 ps.length c0,.slice none 0 0,.slice (some ⟨g,0,none⟩) 1 1] W (.int .i64 (ocode ps [] [x]))):=fun W g hW hg =>
  open_any W a0 none (some ⟨g,0,none⟩) c0 0 1 ps [] [x] (rp.below hW nr_) hi hl0 (.inl rfl) (rdi_one hg (r1.below hW nr_)) (fun _=>⟨rfl,rfl⟩) (fun h=>by cases h) (by simp) (by simp) (fun y hy=>by simp at hy; subst hy; exact hl)
 have hp0:(ocode ps [] [x] == 0)=false:=by rw [beq_eq_false_iff_ne]; exact hc
 clear rp r1 hi hc hl hl0
 generalize ocode ps [] [x]=p at *
 generalize x.length=m at *
 generalize ps.length=n at *
 have B0:=hd_ ((Below.refl w.heap.size w).alloc nr_ (.cells #[.slice a1 m c1] 25))
 go_enter Tryz.func40,Tryz.ntmps40
 go_wp2_with fail
 refine cm_ (HOp.out _ _ B0.out (heap_at w _ _ _ rfl)) ?_
 rintro e_ w1 ⟨rfl,hb_⟩
 have B1:=hd_ (B0.out.trans (hb_.mono B0.out.size))
 clear hb_ HOp B0
 go_wp2_with fail
 go_ret3
 exact ⟨rfl,B1.out⟩
theorem iInverse_ok (w:World) (ps:List Int) (P:PrOk ps) (a0 a1:Option Addr) (c0 c1:Nat) (x:List Int) (rp:Rd w a0 (ints ps)) (r1:Rd w a1 (ints x)) (l1:x.length=ps.length) (s1:Xs x) (L:Laid w) :
  Calls Tryz.prog 41 #[.slice a0 ps.length c0,.slice a1 ps.length c1] w fun e w'=>ResI w' ps.length (redI ps (negI x)) e∧Below w.heap.size w w':=by
 have HN:=hd_ (monNeg_ok w ps x a0 a1 c0 c1 rp P.i64 P.p0 r1 l1 s1)
 have HR:Hid (∀ W a c,Below w.heap.size w W→Rd W a (ints (negI x))→Calls Tryz.prog 40 #[.slice a0 ps.length c0,.slice a ps.length c] W fun e w'=>ResJ w' ps.length (redI ps (negI x)) (flU ps (negI x)) e∧Below W.heap.size W w'):=fun W a c hW hr =>
  iReduce_ok W ps P a0 a c0 c (negI x) (rp.below hW nr_) hr ((negI_length x).trans l1) (negI_xs s1) (L.below hW)
 have HV:Hid (∀ W e,ResI W ps.length (redI ps (negI x)) e=((mx (redI ps (negI x))=0∧∃ a c,e = .returned (.tuple #[.slice a ps.length c,.int .i64 0])∧Rd W a (ints (redI ps (negI x))))∨(mx (redI ps (negI x))≠0∧e = .returned (.tuple #[.slice none 0 0,.int .i64 4])))):=fun _ _=>rfl
 clear rp r1 l1 s1 L P
 generalize flU ps (negI x)=q at *
 generalize redI ps (negI x)=y at *
 generalize negI x=z at *
 generalize ps.length=n at *
 go_enter Tryz.func41,Tryz.ntmps41
 go_wp2_with fail
 refine cm_ HN.out ?_
 rintro e_ w1 ⟨a2,c2,rfl,hr_,hb_⟩
 have B1:=hd_ hb_
 have R1:=hd_ hr_
 clear hb_ hr_ HN
 go_wp2_with fail
 refine cm_ (HR.out _ _ _ B1.out R1.out) ?_
 rintro e_ w4 ⟨hres,hb_⟩
 have B4:=hd_ (B1.out.trans (hb_.mono B1.out.size))
 clear hb_ HR B1 R1
 rcases hres with ⟨h0,a4,c4,rfl,hr⟩ | ⟨h0,rfl⟩
 ·have R4:=hd_ hr
  have H0:=hd_ h0
  clear hr h0
  go_wp2_with fail
  go_ret2
  exact ⟨by rw [HV.out]; exact .inl ⟨H0.out,a4,c4,rfl,R4.out⟩,B4.out⟩
 ·have H0:=hd_ h0
  clear h0
  go_wp2_with fail
  go_ret2
  exact ⟨by rw [HV.out]; exact .inr ⟨H0.out,rfl⟩,B4.out⟩
theorem iInverse_err (w:World) (a0 a1:Option Addr) (c0 c1:Nat) (ps x:List Int) (rp:Rd w a0 (ints ps)) (hi:I64s ps) (hl0:ps.length≤1000000) (r1:Rd w a1 (ints x)) (hl:x.length≤1000000) (hc:mcode1 ps x≠0) :
  Gives Tryz.prog 41 #[.slice a0 ps.length c0,.slice a1 x.length c1] w (.tuple #[.slice none 0 0,.int .i64 (mcode1 ps x)]):=by
 unfold Gives
 have HN:=hd_ (monNeg_err w a0 a1 c0 c1 ps x rp hi hl0 r1 hl hc)
 have hp0:(mcode1 ps x == 0)=false:=by rw [beq_eq_false_iff_ne]; exact hc
 unfold Gives at HN
 clear rp r1 hi hc hl hl0
 generalize mcode1 ps x=p at *
 generalize x.length=m at *
 generalize ps.length=n at *
 go_enter Tryz.func41,Tryz.ntmps41
 go_wp2_with fail
 refine cm_ HN.out ?_
 rintro e_ w1 ⟨rfl,hb_⟩
 have B1:=hd_ hb_
 clear hb_ HN
 go_wp2_with fail
 go_ret2
 exact ⟨rfl,B1.out⟩
end Go.Proofs.YtkoicfghplmghaaGreatDoor

namespace Go.Proofs.YtkoicfghplmghaaGreatDoor
open Go.RowKit
theorem iAlike_ok (w:World) (ps:List Int) (P:PrOk ps) (a0 a1 a2:Option Addr) (c0 c1 c2:Nat) (x y:List Int) (rp:Rd w a0 (ints ps)) (r1:Rd w a1 (ints x)) (r2:Rd w a2 (ints y)) (l1:x.length=ps.length) (l2:y.length=ps.length) (s1:Xs x) (s2:Xs y) (k1:ps.length≤c1) (k2:ps.length≤c2) :
  Gives Tryz.prog 42 #[.slice a0 ps.length c0,.slice a1 ps.length c1,.slice a2 ps.length c2] w (.tuple #[.bool (decide (x.drop 1=y.drop 1)),.int .i64 0]):=by
 unfold Gives
 have h6:=P.n6
 have hn0:=P.n0
 have HOp:Hid (∀ W g,Below w.heap.size w W→W.heap[g]?=some (.cells #[.slice a1 ps.length c1,.slice a2 ps.length c2] 25 (0,0))→Gives Tryz.prog 93 #[.slice a0 ps.length c0,.slice none 0 0,.slice (some ⟨g,0,none⟩) 2 2] W (.int .i64 0)):=fun W g hW hg=>by
  have:=open_any W a0 none (some ⟨g,0,none⟩) c0 0 2 ps [] [x,y] (rp.below hW nr_) P.i64 (by omega) (.inl rfl) (rdi_two (by rw [l1,l2]; exact hg) (r1.below hW nr_) (r2.below hW nr_)) (fun _=>⟨rfl,rfl⟩) (fun h=>by cases h) (by simp) (by simp) (fun z hz=>by simp at hz; rcases hz with rfl | rfl <;> omega)
  have e:ocode ps [] [x,y]=0:=by
   unfold ocode
   rw [if_pos P.p0,if_neg (by simp),List.nil_append,mgo,if_pos (mrow_ok s1 l1),mgo,if_pos (mrow_ok s2 l2),mgo]
  rw [e] at this
  exact this
 have HA:Hid (∀ W,Below w.heap.size w W→Gives Tryz.prog 95 #[.slice a1 ps.length c1,.slice a2 ps.length c2] W (.bool (decide (x.drop 1=y.drop 1)))):=fun W hW =>
  ialike_ok W a1 a2 c1 c2 ps.length x y (r1.below hW nr_) (r2.below hW nr_) l1 l2 hn0 (by omega) k1 k2
 clear rp r1 r2 l1 l2 s1 s2 P h6 hn0 k1 k2
 generalize decide (x.drop 1=y.drop 1)=z at *
 generalize ps.length=n at *
 have B0:=hd_ ((Below.refl w.heap.size w).alloc nr_ (.cells #[.slice a1 n c1,.slice a2 n c2] 25))
 go_enter Tryz.func42,Tryz.ntmps42
 go_wp2_with fail
 refine cm_ (HOp.out _ _ B0.out (heap_at w _ _ _ rfl)) ?_
 rintro e_ w1 ⟨rfl,hb_⟩
 have B1:=hd_ (B0.out.trans (hb_.mono B0.out.size))
 clear hb_ HOp B0
 go_wp2_with fail
 refine cm_ (HA.out _ B1.out) ?_
 rintro e_ w2 ⟨rfl,hb_⟩
 have B2:=hd_ (B1.out.trans (hb_.mono B1.out.size))
 clear hb_ HA B1
 go_wp2_with fail
 go_ret2
 exact ⟨rfl,B2.out⟩
theorem iAlike_err (w:World) (a0 a1 a2:Option Addr) (c0 c1 c2:Nat) (ps x y:List Int) (rp:Rd w a0 (ints ps)) (hi:I64s ps) (hl0:ps.length≤1000000) (r1:Rd w a1 (ints x)) (r2:Rd w a2 (ints y)) (hl1:x.length≤1000000) (hl2:y.length≤1000000) (hc:ocode ps [] [x,y]≠0) :
  Gives Tryz.prog 42 #[.slice a0 ps.length c0,.slice a1 x.length c1,.slice a2 y.length c2] w (.tuple #[.bool false,.int .i64 (ocode ps [] [x,y])]):=by
 unfold Gives
 have HOp:Hid (∀ W g,Below w.heap.size w W→W.heap[g]?=some (.cells #[.slice a1 x.length c1,.slice a2 y.length c2] 25 (0,0))→Gives Tryz.prog 93 #[.slice a0 ps.length c0,.slice none 0 0,.slice (some ⟨g,0,none⟩) 2 2] W (.int .i64 (ocode ps [] [x,y]))):=fun W g hW hg =>
  open_any W a0 none (some ⟨g,0,none⟩) c0 0 2 ps [] [x,y] (rp.below hW nr_) hi hl0 (.inl rfl) (rdi_two hg (r1.below hW nr_) (r2.below hW nr_)) (fun _=>⟨rfl,rfl⟩) (fun h=>by cases h) (by simp) (by simp) (fun z hz=>by simp at hz; rcases hz with rfl | rfl <;> assumption)
 have hp0:(ocode ps [] [x,y] == 0)=false:=by rw [beq_eq_false_iff_ne]; exact hc
 clear rp r1 r2 hi hc hl0 hl1 hl2
 generalize ocode ps [] [x,y]=p at *
 generalize x.length=m at *
 generalize y.length=k at *
 generalize ps.length=n at *
 have B0:=hd_ ((Below.refl w.heap.size w).alloc nr_ (.cells #[.slice a1 m c1,.slice a2 k c2] 25))
 go_enter Tryz.func42,Tryz.ntmps42
 go_wp2_with fail
 refine cm_ (HOp.out _ _ B0.out (heap_at w _ _ _ rfl)) ?_
 rintro e_ w1 ⟨rfl,hb_⟩
 have B1:=hd_ (B0.out.trans (hb_.mono B0.out.size))
 clear hb_ HOp B0
 go_wp2_with fail
 go_ret2
 exact ⟨rfl,B1.out⟩
theorem lfirst_any (w:World) (a0 a1:Option Addr) (c0 c1:Nat) (ps:List Int) (l:List (List Int)) (hp:Rd w a0 (ints ps)) (hi:I64s ps) (hl0:ps.length≤1000000) (r1:RdI w a1 l) (hl2:∀ x∈l,x.length≤1000000) :
  Gives Tryz.prog 35 #[.slice a0 ps.length c0,.slice a1 l.length c1] w (.int .i64 (ocode ps l [])):=by
 unfold Gives
 have H1:=hd_ (primeCheck_any w a0 c0 ps hp hi hl0)
 have Hv:Hid (ocode ps l []=if pcode ps=0 then (if 600 < l.length then 4 else mgo ps.length l) else pcode ps):=by show _=_; unfold ocode; rw [List.append_nil]
 have HC:Hid (pcode ps=0→∀ W a c x,Below w.heap.size w W→x∈l→Rd W a (ints x)→Gives Tryz.prog 17 #[.slice a0 ps.length c0,.slice a x.length c] W (.int .i64 (mrow ps.length x))):=fun h0 W a c x hW hx hr=>by
  have:=monCheck_any W a0 a c0 c ps x (hp.below hW nr_) hi hl0 hr (hl2 x hx)
  have e:mcode1 ps x=mrow ps.length x:=by
   unfold mcode1 mcode
   rw [if_pos h0,mgo,mgo]
   split
   ·rename_i h; exact h.symm
   ·rfl
  rw [e] at this
  exact this
 have Hr1:=hd_ r1
 clear hp hi r1 hl2
 generalize ocode ps l []=v at *
 generalize pcode ps=p at *
 generalize ps.length=n at *
 generalize hlm:l.length=m at *
 have Hm:=hd_ hlm
 clear hlm
 by_cases h0:p=0
 ·subst h0
  rw [if_pos rfl] at Hv
  replace HC:=hd_ (HC.out rfl)
  by_cases h6:600 < m
  ·have h6':(600:Int) < m:=by omega
   rw [if_pos h6] at Hv
   clear HC
   go_enter Tryz.func35,Tryz.ntmps35
   go_wp2_with fail
   refine cm_ H1.out ?_
   rintro e w1 ⟨rfl,hb⟩
   have B:=hd_ hb
   clear hb H1
   go_wp2
   go_ret
   exact ⟨by rw [Hv.out]; rfl,B.out⟩
  ·have h6':¬ (600:Int) < m:=by omega
   rw [if_neg h6] at Hv
   go_enter Tryz.func35,Tryz.ntmps35
   go_wp2_with fail
   refine cm_ H1.out ?_
   rintro e w1 ⟨rfl,hb⟩
   have B1:=hd_ hb
   clear hb H1
   go_wp2_with fail
   go_loopw [19] (fun i wr=>∃ k:Nat,k≤m∧i = .int .i64 k∧Hid (v=mgo n (l.drop k))∧Hid (Below w.heap.size w wr)) (fun i _=>m - (intOf i).toNat)
   case atStart=>exact ⟨0,Nat.zero_le _,rfl,Hv,B1⟩
   case round =>
    clear B1 Hv
    obtain ⟨k,hk,rfl,Hx,B⟩:=hrel
    by_cases hlt:k < m
    ·have hlt':(k:Int) < m:=by omega
     have hkl:k < l.length:=by rw [Hm.out]; exact hlt
     obtain ⟨gb,off,rfl,hgb,hcs⟩:=rdi_cells Hr1.out (by omega)
     obtain ⟨ax,cx,kx,rx⟩:=hcs k hkl
     have k1:=(B.out.cell (p:=⟨gb,off + k,none⟩) hgb).trans kx
     have R1:=hd_ (rx.below B.out nr_)
     have Hd:Hid (l.drop k=l[k] :: l.drop (k + 1)):=List.drop_eq_getElem_cons hkl
     have HCk:=hd_ (fun W a c hW=>HC.out W a c (l[k]'hkl) hW (List.getElem_mem hkl))
     clear hcs kx rx
     generalize l[k]=x at *
     generalize hmr:mrow n x=r at *
     have Hmr:=hd_ hmr
     clear hmr
     generalize x.length=q at *
     go_wp2_with fail
     refine cm_ (HCk.out _ _ _ B.out R1.out) ?_
     rintro e_ w2 ⟨rfl,hb_⟩
     have B2:=hd_ (B.out.trans (hb_.mono B.out.size))
     clear hb_ HCk R1 k1 B
     by_cases hr0:r=0
     ·have Hn:Hid (v=mgo n (l.drop (k + 1))):=by show _=_; rw [Hx.out,Hd.out,mgo,if_pos (Hmr.out.trans hr0)]
      subst hr0
      go_wp2_with fail
      go_roundw
      case rel=>exact ⟨k + 1,by omega,by go_num,Hn,B2⟩
      case measure=>simp [intOf]; omega
     ·have Hn:Hid (v=r):=by show _=_; rw [Hx.out,Hd.out,mgo,if_neg (fun h=>hr0 (Hmr.out.symm.trans h)),Hmr.out]
      have hr0':(r == 0)=false:=by rw [beq_eq_false_iff_ne]; exact hr0
      clear hr0
      go_wp2_with fail
      go_ret
      exact ⟨by rw [Hn.out]; rfl,B2.out⟩
    ·have hlt':¬ (k:Int) < m:=by omega
     have Hn:Hid (v=0):=by show _=_; rw [Hx.out,List.drop_of_length_le (by rw [Hm.out]; omega)]; rfl
     go_wp2_with fail
     go_ret
     exact ⟨by rw [Hn.out]; rfl,B.out⟩
 ·have hp0:(p == 0)=false:=by rw [beq_eq_false_iff_ne]; exact h0
  rw [if_neg h0] at Hv
  clear HC h0
  go_enter Tryz.func35,Tryz.ntmps35
  go_wp2_with fail
  refine cm_ H1.out ?_
  rintro e w1 ⟨rfl,hb⟩
  have B:=hd_ hb
  clear hb H1
  go_wp2
  go_ret
  exact ⟨by rw [Hv.out]; rfl,B.out⟩
theorem lequaves_of (w:World) (ps:List Int) (P:PrOk ps) (a0 a1 a2:Option Addr) (c0 c1 c2:Nat) (x y:List Int) (q:Int) (rp:Rd w a0 (ints ps)) (r1:Rd w a1 (ints x)) (r2:Rd w a2 (ints y)) (l1:x.length=ps.length) (l2:y.length=ps.length) (s1:Xs x) (s2:Xs y) (L:Laid w)
  (hq : -2000000≤q∧q≤2000000)
  (hF:∀ W b1 b2 d1 d2,Below w.heap.size w W→Rd W b1 (cellsQ (rq x))→Rd W b2 (cellsQ (rq y))→Gives Tryz.prog 106 #[.slice a0 ps.length c0,.slice b1 ps.length d1,.slice b2 ps.length d2] W (.tuple #[.string (itx q),.int .i64 0])) :
  Gives Tryz.prog 47 #[.slice a0 ps.length c0,.slice a1 ps.length c1,.slice a2 ps.length c2] w (.tuple #[.int .i64 q,.bool true]):=by
 unfold Gives
 have HO:Hid (∀ W x a c,Below w.heap.size w W→Rd W a (ints x)→x.length=ps.length→Xs x→Calls Tryz.prog 104 #[.slice a0 ps.length c0,.slice a ps.length c] W fun e w'=>∃ a c,e = .returned (.tuple #[.slice a ps.length c,.int .i64 0])∧Rd w' a (cellsQ (rq x))∧Below W.heap.size W w'):=fun W x a c hW hrx h1 h2=>by
  have:=of_ok W a0 a c0 c ps x (rp.below hW nr_) P.i64 hrx (fun y hy=>by have:=h2 y hy; omega) (mcode_one P.p0 h2 h1) (L.below hW)
  unfold GivesOk at this
  rw [List.length_map,h1] at this
  refine cm_ this ?_
  rintro e w' ⟨a,c,rfl,ho,hb⟩
  exact ⟨a,c,rfl,ho.rd,hb⟩
 have HX:=hd_ (fun W a c hW hr=>HO.out W x a c hW hr l1 s1)
 have HY:=hd_ (fun W a c hW hr=>HO.out W y a c hW hr l2 s2)
 have HF:=hd_ hF
 have hz:(itx q).size≤20:=Nat.le_of_lt_succ (by have:=itx_size q 19 (by decide) (by omega); omega)
 have HAt:Hid (∀ W,Below w.heap.size w W→Gives Tryz.prog 107 #[.string (itx q)] W (.tuple #[.int .i64 q,.nilIface])):=fun W _=>by
  refine (Tryz.strconv_Atoi_ok (itx q) (by omega) q (atoi_itx q (by omega)) W).mono ?_
  rintro e w' ⟨rfl,hw⟩
  refine ⟨rfl,?_⟩
  rcases hw with rfl | ⟨t,rfl⟩
  ·exact Below.refl _ _
  ·exact below_bytes W 5 t
 have R1:=hd_ r1
 have R2:=hd_ r2
 clear HO rp r1 r2 l1 l2 s1 s2 L P hF hz
 generalize itx q=s at *
 generalize ps.length=n at *
 have B:=hd_ (Below.refl w.heap.size w)
 go_enter Tryz.func47,Tryz.ntmps47
 go_wp2_with fail
 refine cm_ (HX.out _ _ _ B.out R1.out) ?_
 rintro e_ w1 ⟨a3,c3,rfl,hr_,hb_⟩
 have R3:=hd_ hr_
 replace R2:=hd_ (R2.out.below hb_ nr_)
 replace B:=hd_ (B.out.trans (hb_.mono B.out.size))
 clear hr_ hb_ HX R1
 go_wp2_with fail
 refine cm_ (HY.out _ _ _ B.out R2.out) ?_
 rintro e_ w2 ⟨a4,c4,rfl,hr_,hb_⟩
 have R4:=hd_ hr_
 replace R3:=hd_ (R3.out.below hb_ nr_)
 replace B:=hd_ (B.out.trans (hb_.mono B.out.size))
 clear hr_ hb_ HY R2
 go_wp2_with fail
 refine cm_ (HF.out _ _ _ _ _ B.out R3.out R4.out) ?_
 rintro e_ w3 ⟨rfl,hb_⟩
 replace B:=hd_ (B.out.trans (hb_.mono B.out.size))
 clear hb_ HF R3 R4
 go_wp2_with fail
 refine cm_ (HAt.out _ B.out) ?_
 rintro e_ w4 ⟨rfl,hb_⟩
 replace B:=hd_ (B.out.trans (hb_.mono B.out.size))
 clear hb_ HAt
 go_wp2_with fail
 go_ret2
 exact ⟨rfl,B.out⟩
theorem lreduce_ok (w:World) (ps:List Int) (P:PrOk ps) (a0 a1:Option Addr) (c0 c1:Nat) (x:List Int) (rp:Rd w a0 (ints ps)) (r1:Rd w a1 (ints x)) (l1:x.length=ps.length) (s1:Xs x) (L:Laid w) :
  Calls Tryz.prog 43 #[.slice a0 ps.length c0,.slice a1 ps.length c1] w fun e w'=>∃ a c,e = .returned (.tuple #[.slice a ps.length c,.int .i64 (flU ps x)])∧Rd w' a (ints (redI ps x))∧Below w.heap.size w w':=by
 have h6:=P.n6
 have hn0:=P.n0
 have hf:=flU_le P l1 s1
 have HU:Hid (∀ W,Calls Tryz.prog 101 #[.slice a0 ps.length c0] W fun e w'=>∃ a c,e = .returned (.slice a ps.length c)∧Rd w' a (ints (unitI ps.length))∧Below W.heap.size W w'):=fun W=>lequave_ok W a0 c0 ps.length hn0 (by omega)
 have HE:Hid (∀ W a c,Below w.heap.size w W→Rd W a (ints (unitI ps.length))→Gives Tryz.prog 47 #[.slice a0 ps.length c0,.slice a1 ps.length c1,.slice a ps.length c] W (.tuple #[.int .i64 (flU ps x),.bool true])):=fun W a c hW hr =>
  lequaves_of W ps P a0 a1 a c0 c1 c x (unitI ps.length) (flU ps x) (rp.below hW nr_) (r1.below hW nr_) hr l1 (unitI_length _) s1 (unitI_xs _) (L.below hW) (by omega) fun W' b1 b2 d1 d2 hW' h1 h2 =>
   floorU_ok P c0 d1 d2 ((rp.below hW nr_).below hW' nr_) h1 h2 l1 s1 ((L.below hW).below hW')
 have HT:Hid (∀ W a c,Rd W a (ints (unitI ps.length))→Calls Tryz.prog 14 #[.slice a ps.length c,.int .i64 (flU ps x)] W fun e w'=>∃ a c,e = .returned (.slice a ps.length c)∧Rd w' a (ints (timI (flU ps x) (unitI ps.length)))∧Below W.heap.size W w'):=fun W a c hr =>
  ltimes_ok W a c ps.length (unitI ps.length) (flU ps x) hr (unitI_length _) (by omega) ((unitI_bd _).le (by decide)) (by omega)
 have HS:Hid (∀ W a c,Below w.heap.size w W→Rd W a (ints (timI (flU ps x) (unitI ps.length)))→Calls Tryz.prog 48 #[.slice a1 ps.length c1,.slice a ps.length c] W fun e w'=>∃ a c,e = .returned (.slice a ps.length c)∧Rd w' a (ints (redI ps x))∧Below W.heap.size W w'):=fun W a c hW hr=>by
  have:=lsub_ok W a1 a c1 c ps.length x (timI (flU ps x) (unitI ps.length)) (r1.below hW nr_) hr l1 ((timI_length _ _).trans (unitI_length _)) (by omega) (s1.bd.le (by decide)) (fun b hb=>by
   obtain ⟨u,hu,rfl⟩:=List.mem_map.1 hb
   have h1:=unitI_bd _ u hu
   have:(flU ps x * u).natAbs≤1000000000 * 1:=by rw [Int.natAbs_mul]; exact Nat.mul_le_mul (by omega) h1
   omega)
  rw [addE_sub _ l1 hn0] at this
  exact this
 clear rp r1 l1 s1 L P h6 hn0 hf
 generalize redI ps x=y at *
 generalize flU ps x=q at *
 generalize ps.length=n at *
 have B:=hd_ (Below.refl w.heap.size w)
 go_enter Tryz.func43,Tryz.ntmps43
 go_wp2_with fail
 refine cm_ (HU.out _) ?_
 rintro e_ w1 ⟨a3,c3,rfl,hr_,hb_⟩
 have R3:=hd_ hr_
 replace B:=hd_ (B.out.trans (hb_.mono B.out.size))
 clear hr_ hb_
 go_wp2_with fail
 refine cm_ (HE.out _ _ _ B.out R3.out) ?_
 rintro e_ w2 ⟨rfl,hb_⟩
 replace B:=hd_ (B.out.trans (hb_.mono B.out.size))
 clear hb_ HE R3
 go_wp2_with fail
 refine cm_ (HU.out _) ?_
 rintro e_ w3 ⟨a4,c4,rfl,hr_,hb_⟩
 have R4:=hd_ hr_
 replace B:=hd_ (B.out.trans (hb_.mono B.out.size))
 clear hr_ hb_ HU
 go_wp2_with fail
 refine cm_ (HT.out _ _ _ R4.out) ?_
 rintro e_ w4 ⟨a5,c5,rfl,hr_,hb_⟩
 have R5:=hd_ hr_
 replace B:=hd_ (B.out.trans (hb_.mono B.out.size))
 clear hr_ hb_ HT R4
 go_wp2_with fail
 refine cm_ (HS.out _ _ _ B.out R5.out) ?_
 rintro e_ w5 ⟨a6,c6,rfl,hr_,hb_⟩
 have R6:=hd_ hr_
 replace B:=hd_ (B.out.trans (hb_.mono B.out.size))
 clear hr_ hb_ HS R5
 go_wp2_with fail
 go_ret2
 exact ⟨a6,c6,rfl,R6.out,B.out⟩
end Go.Proofs.YtkoicfghplmghaaGreatDoor

namespace Go.Proofs.YtkoicfghplmghaaGreatDoor
def startB (n:Nat) (m:Int):List Int:=List.replicate n (-m)
def nextB (m:Int):List Int→List Int
 | []=>[]
 | a :: r=>if a=m then -m :: nextB m r else (a + 1) :: r
def seqB (n:Nat) (m:Int):Nat→List Int
 | 0=>startB n m
 | k + 1=>nextB m (seqB n m k)
theorem nextB_length (m:Int):∀ x:List Int,(nextB m x).length=x.length
 | []=>rfl
 | a :: r=>by
  unfold nextB
  split
  ·simp [nextB_length m r]
  ·simp
theorem seqB_length (n:Nat) (m:Int):∀ k,(seqB n m k).length=n
 | 0=>by simp [seqB,startB]
 | k + 1=>by rw [seqB,nextB_length,seqB_length n m k]
def InBox (m:Int) (x:List Int):Prop:=∀ a∈x,-m≤a∧a≤m
theorem nextB_box {m:Int} (hm:0≤m):∀ {x:List Int},InBox m x→InBox m (nextB m x)
 | [],h=>h
 | a :: r,h=>by
  have h0:=h a List.mem_cons_self
  have hr:InBox m r:=fun b hb=>h b (List.mem_cons_of_mem _ hb)
  unfold nextB
  split
  ·intro b hb
   rcases List.mem_cons.1 hb with rfl | hb
   ·omega
   ·exact nextB_box hm hr b hb
  ·intro b hb
   rcases List.mem_cons.1 hb with rfl | hb
   ·omega
   ·exact hr b hb
theorem seqB_box {m:Int} (hm:0≤m) (n:Nat):∀ k,InBox m (seqB n m k)
 | 0=>fun a ha=>by
  obtain ⟨_,rfl⟩:=List.mem_replicate.1 ha
  omega
 | k + 1=>nextB_box hm (seqB_box hm n k)
def valB (m:Nat):List Int→Nat
 | []=>0
 | a :: r=>(a + m).toNat + (2 * m + 1) * valB m r
theorem valB_lt {m:Nat}:∀ {x:List Int},InBox m x→valB m x < (2 * m + 1) ^ x.length
 | [],_=>by simp [valB]
 | a :: r,h=>by
  have h0:=h a List.mem_cons_self
  have ih:=valB_lt (m:=m) (x:=r) fun b hb=>h b (List.mem_cons_of_mem _ hb)
  rw [valB,List.length_cons,Nat.pow_succ,Nat.mul_comm _ (2 * m + 1)]
  have h1:(2 * m + 1) * (valB m r + 1)≤(2 * m + 1) * (2 * m + 1) ^ r.length:=Nat.mul_le_mul_left _ ih
  rw [Nat.mul_succ] at h1
  omega
theorem valB_next {m:Nat}:∀ {x:List Int},InBox m x→¬ (∀ a∈x,a=(m:Int))→valB m (nextB m x)=valB m x + 1
 | [],_,h=>absurd (fun a ha=>by cases ha) h
 | a :: r,h,hn=>by
  have h0:=h a List.mem_cons_self
  have hr:InBox m r:=fun b hb=>h b (List.mem_cons_of_mem _ hb)
  unfold nextB
  split
  ·rename_i ha
   have hn':¬ ∀ b∈r,b=(m:Int):=fun hc=>hn fun b hb=>by
    rcases List.mem_cons.1 hb with rfl | hb
    ·exact ha
    ·exact hc b hb
   rw [valB,valB,valB_next hr hn',Nat.mul_succ]
   omega
  ·rw [valB,valB]
   omega
theorem valB_top {m:Nat}:∀ {x:List Int},(∀ a∈x,a=(m:Int))→valB m x + 1=(2 * m + 1) ^ x.length
 | [],_=>by simp [valB]
 | a :: r,h=>by
  have h0:=h a List.mem_cons_self
  have ih:=valB_top (m:=m) (x:=r) fun b hb=>h b (List.mem_cons_of_mem _ hb)
  rw [valB,List.length_cons,Nat.pow_succ,Nat.mul_comm _ (2 * m + 1),← ih,Nat.mul_succ]
  omega
def numB (n m:Nat):Nat:=(2 * m + 1) ^ n
theorem numB_pos (n m:Nat):0 < numB n m:=Nat.pow_pos (by omega)
theorem seqB_val (n m:Nat):∀ k,k < numB n m→valB m (seqB n m k)=k
 | 0,_=>by
  show valB m (List.replicate n (-(m:Int)))=0
  induction n with
  | zero=>rfl
  | succ n ih =>
   rw [List.replicate_succ,valB,ih (numB_pos n m)]
   omega
 | k + 1,h=>by
  have ih:=seqB_val n m k (by omega)
  have hb:=seqB_box (m:=(m:Int)) (by omega) n k
  show valB m (nextB m (seqB n m k))=k + 1
  rw [valB_next hb,ih]
  intro ht
  have:=valB_top ht
  rw [seqB_length,ih] at this
  unfold numB at h
  omega
theorem seqB_top {n m k:Nat} (h:k < numB n m):(∀ a∈seqB n m k,a=(m:Int))↔k + 1=numB n m:=by
 have hv:=seqB_val n m k h
 constructor
 ·intro ht
  have:=valB_top ht
  rw [seqB_length,hv] at this
  exact this
 ·intro hk
  refine Classical.byContradiction fun hn=>?_
  have hb:=seqB_box (m:=(m:Int)) (by omega) n k
  have h1:=valB_next hb hn
  have h2:=valB_lt (nextB_box (by omega) hb)
  rw [nextB_length,seqB_length,h1,hv] at h2
  unfold numB at hk
  omega
def mixB (m:Int) (v:List Int) (j:Nat):List Int:=List.replicate j (-m) ++ v.drop j
theorem mixB_length (m:Int) (v:List Int) {j:Nat} (h:j≤v.length):(mixB m v j).length=v.length:=by simp [mixB]; omega
theorem mixB_zero (m:Int) (v:List Int):mixB m v 0=v:=by simp [mixB]
theorem mixB_get (m:Int) (v:List Int) {j:Nat} (_:j≤v.length):(mixB m v j).getD j 0=v.getD j 0:=by
 unfold mixB
 rw [List.getD_eq_getElem?_getD,List.getElem?_append_right (by simp),List.length_replicate,Nat.sub_self,List.getElem?_drop,Nat.add_zero,List.getD_eq_getElem?_getD]
theorem mixB_step (m:Int) (v:List Int) {j:Nat} (h:j < v.length):(mixB m v j).set j (-m)=mixB m v (j + 1):=by
 unfold mixB
 rw [List.set_append_right _ _ (by simp),List.length_replicate,Nat.sub_self,List.drop_eq_getElem_cons h,List.set_cons_zero,List.replicate_succ',List.append_assoc]
 rfl
theorem mixB_next (m:Int):∀ (v:List Int) (j:Nat),j < v.length→(∀ t,t < j→v.getD t 0=m)→v.getD j 0≠m→(mixB m v j).set j (v.getD j 0 + 1)=nextB m v
 | [],_,h,_,_=>by simp at h
 | a :: r,0,_,_,hn=>by
  have ha:¬ a=m:=by simpa using hn
  rw [mixB_zero]
  unfold nextB
  rw [if_neg ha]
  simp
 | a :: r,j + 1,h,hp,hn=>by
  have ha:a=m:=by simpa using hp 0 (by omega)
  have ih:=mixB_next m r j (by simpa using h) (fun t ht=>by have:=hp (t + 1) (by omega); simpa using this) (by simpa using hn)
  unfold nextB
  rw [if_pos ha,← ih]
  simp [mixB,List.replicate_succ]
theorem all_top {m:Int} {v:List Int} (h:∀ t,t < v.length→v.getD t 0=m):∀ a∈v,a=m:=fun a ha=>by
 obtain ⟨i,hi,rfl⟩:=List.mem_iff_getElem.1 ha
 have:=h i hi
 rwa [List.getD_eq_getElem?_getD,List.getElem?_eq_getElem hi] at this
end Go.Proofs.YtkoicfghplmghaaGreatDoor

namespace Go.Proofs.YtkoicfghplmghaaGreatDoor
open Go.RowKit
theorem four_cells {w:World} {g:Nat} {a b c d:Value} {t:TypeId} (h:w.heap[g]?=some (.cells #[a,b,c,d] t (0,0))):w.cell? ⟨g,0,none⟩=some a∧w.cell? ⟨g,1,none⟩=some b∧w.cell? ⟨g,2,none⟩=some c∧w.cell? ⟨g,3,none⟩=some d :=
 ⟨by rw [cell_of_row w g 0 _ t (0,0) h]; rfl,by rw [cell_of_row w g 1 _ t (0,0) h]; rfl,by rw [cell_of_row w g 2 _ t (0,0) h]; rfl,by rw [cell_of_row w g 3 _ t (0,0) h]; rfl⟩
def boxV (a0:Option Addr) (n c0:Nat) (most:Int) (a1:Option Addr) (m1 c1:Nat) (a2:Option Addr) (m2 c2:Nat):Array Value := #[.slice a0 n c0,.int .i64 most,.slice a1 m1 c1,.slice a2 m2 c2]
def bcode (ps:List Int) (most:Int) (low high:List Int):Int:=if pcode ps=0 then (if most < 0∨6 < most then 3 else mgo ps.length [low,high]) else pcode ps
theorem icheck_any (w:World) (a0 a1 a2:Option Addr) (c0 c1 c2:Nat) (ps low high:List Int) (most:Int) (rp:Rd w a0 (ints ps)) (hi:I64s ps) (hl0:ps.length≤1000000) (r1:Rd w a1 (ints low)) (r2:Rd w a2 (ints high)) (hl1:low.length≤1000000) (hl2:high.length≤1000000) :
  Gives Tryz.prog 63 #[.agg (boxV a0 ps.length c0 most a1 low.length c1 a2 high.length c2)] w (.int .i64 (bcode ps most low high)):=by
 unfold Gives boxV
 have H1:Hid (∀ W,Below w.heap.size w W→Gives Tryz.prog 70 #[.slice a0 ps.length c0] W (.int .i64 (pcode ps))):=fun W hW=>primeCheck_any W a0 c0 ps (rp.below hW nr_) hi hl0
 have HM:Hid (pcode ps=0→∀ W g,Below w.heap.size w W→W.heap[g]?=some (.cells #[.slice a1 low.length c1,.slice a2 high.length c2] 25 (0,0))→Gives Tryz.prog 71 #[.slice a0 ps.length c0,.slice (some ⟨g,0,none⟩) 2 2] W (.int .i64 (mgo ps.length [low,high]))):=fun h0 W g hW hg=>by
  have:=monCheckAll_any W a0 (some ⟨g,0,none⟩) c0 2 ps [low,high] (rp.below hW nr_) hi hl0 (rdi_two hg (r1.below hW nr_) (r2.below hW nr_)) (by simp) (fun z hz=>by simp at hz; rcases hz with rfl | rfl <;> assumption)
  unfold mcode at this
  rw [if_pos h0] at this
  exact this
 have Hv:Hid (bcode ps most low high=if pcode ps=0 then (if most < 0∨6 < most then 3 else mgo ps.length [low,high]) else pcode ps):=rfl
 clear rp hi hl0 r1 r2 hl1 hl2
 generalize bcode ps most low high=v at *
 generalize mgo ps.length [low,high]=mg at *
 generalize pcode ps=p at *
 generalize ps.length=n at *
 generalize low.length=m1 at *
 generalize high.length=m2 at *
 have B0:=hd_ ((Below.refl w.heap.size w).alloc nr_ (.cells #[.slice a0 n c0,.int .i64 most,.slice a1 m1 c1,.slice a2 m2 c2] 32))
 have P0:=hd_ (heap_at w #[.slice a0 n c0,.int .i64 most,.slice a1 m1 c1,.slice a2 m2 c2] 32 _ rfl)
 by_cases h0:p=0
 ·subst h0
  rw [if_pos rfl] at Hv
  replace HM:=hd_ (HM.out rfl)
  by_cases h1:most < 0
  ·rw [if_pos (.inl h1)] at Hv
   clear HM
   go_enter Tryz.func63,Tryz.ntmps63
   obtain ⟨k0,k1,k2,k3⟩:=four_cells P0.out
   go_wp2_with fail
   generalize w.alloc (.cells #[.slice a0 n c0,.int .i64 most,.slice a1 m1 c1,.slice a2 m2 c2] 32)=w0 at *
   clear k0 k1 k2 k3
   refine cm_ (H1.out _ B0.out) ?_
   rintro e w1 ⟨rfl,hb⟩
   have B1:=hd_ (B0.out.trans (hb.mono B0.out.size))
   have P1:=hd_ (heap_kept P0.out hb nr_)
   obtain ⟨k0,k1,k2,k3⟩:=four_cells P1.out
   clear hb H1 B0 P0
   go_wp2_with fail
   go_ret
   exact ⟨by rw [Hv.out]; rfl,B1.out⟩
  ·by_cases h2:6 < most
   ·rw [if_pos (.inr h2)] at Hv
    clear HM
    go_enter Tryz.func63,Tryz.ntmps63
    obtain ⟨k0,k1,k2,k3⟩:=four_cells P0.out
    go_wp2_with fail
    generalize w.alloc (.cells #[.slice a0 n c0,.int .i64 most,.slice a1 m1 c1,.slice a2 m2 c2] 32)=w0 at *
    clear k0 k1 k2 k3
    refine cm_ (H1.out _ B0.out) ?_
    rintro e w1 ⟨rfl,hb⟩
    have B1:=hd_ (B0.out.trans (hb.mono B0.out.size))
    have P1:=hd_ (heap_kept P0.out hb nr_)
    obtain ⟨k0,k1,k2,k3⟩:=four_cells P1.out
    clear hb H1 B0 P0
    go_wp2_with fail
    go_ret
    exact ⟨by rw [Hv.out]; rfl,B1.out⟩
   ·rw [if_neg (by omega)] at Hv
    go_enter Tryz.func63,Tryz.ntmps63
    obtain ⟨k0,k1,k2,k3⟩:=four_cells P0.out
    go_wp2_with fail
    generalize w.alloc (.cells #[.slice a0 n c0,.int .i64 most,.slice a1 m1 c1,.slice a2 m2 c2] 32)=w0 at *
    clear k0 k1 k2 k3
    refine cm_ (H1.out _ B0.out) ?_
    rintro e w1 ⟨rfl,hb⟩
    have B1:=hd_ (B0.out.trans (hb.mono B0.out.size))
    have P1:=hd_ (heap_kept P0.out hb nr_)
    obtain ⟨k0,k1,k2,k3⟩:=four_cells P1.out
    clear hb H1 B0 P0
    go_wp2_with fail
    have B2:=hd_ (B1.out.alloc B1.out.size (.cells #[.slice a1 m1 c1,.slice a2 m2 c2] 25))
    clear k0 k1 k2 k3
    refine cm_ (HM.out _ _ B2.out (heap_at w1 _ _ _ rfl)) ?_
    rintro e w2 ⟨rfl,hb⟩
    have B3:=hd_ (B2.out.trans (hb.mono B2.out.size))
    clear hb HM B1 B2
    go_wp2_with fail
    go_ret
    exact ⟨by rw [Hv.out]; rfl,B3.out⟩
 ·have hp0:(p == 0)=false:=by rw [beq_eq_false_iff_ne]; exact h0
  rw [if_neg h0] at Hv
  clear HM h0
  go_enter Tryz.func63,Tryz.ntmps63
  obtain ⟨k0,k1,k2,k3⟩:=four_cells P0.out
  go_wp2_with fail
  generalize w.alloc (.cells #[.slice a0 n c0,.int .i64 most,.slice a1 m1 c1,.slice a2 m2 c2] 32)=w0 at *
  clear k0 k1 k2 k3
  refine cm_ (H1.out _ B0.out) ?_
  rintro e w1 ⟨rfl,hb⟩
  have B1:=hd_ (B0.out.trans (hb.mono B0.out.size))
  have P1:=hd_ (heap_kept P0.out hb nr_)
  obtain ⟨k0,k1,k2,k3⟩:=four_cells P1.out
  clear hb H1 B0 P0
  go_wp2_with fail
  go_ret
  exact ⟨by rw [Hv.out]; rfl,B1.out⟩
end Go.Proofs.YtkoicfghplmghaaGreatDoor

namespace Go.Proofs.YtkoicfghplmghaaGreatDoor
open Go.ChangeShapes Go.WideShapes Go.ChangeAt Go.RowKit Go.Joins
theorem open_ints_cap {H:Type} {enc:TypeId×Value→H} {W:World} {v:Value} {d:DataW H} {p:List MemPlace} {t:TypeId} (ht:Tryz.prog.underlying t=some (.slice 3))
  (h:DataW.Trod enc Tryz.prog W 0 (fun _=>true) true t v d p) (hv:∃ a len cap,v = .slice a len cap) :
  ∃ (a:Option Addr) (c:Nat) (l:List Int),v = .slice a l.length c∧Rd W a (ints l)∧I64s l∧l.length≤c∧l.length≤maxLen:=by
 obtain ⟨a,len,cap,rfl⟩:=hv
 obtain ⟨fuel,hf⟩:=h
 rcases open_ints ht Tryz.underlying3 cellsInt hf with ⟨hcs,_⟩ | ⟨a,len,cap,zs,hcs,_,hl,hm,hz,_,hcell,hwz⟩
 ·simp [Value.cells] at hcs
  obtain ⟨rfl,rfl,rfl⟩:=hcs
  exact ⟨none,0,[],rfl,.inl rfl,(fun x hx=>by cases hx),Nat.zero_le _,Nat.zero_le _⟩
 ·simp [Value.cells] at hcs
  obtain ⟨rfl,rfl,rfl⟩:=hcs
  simp only [if_true] at hz
  refine ⟨some a,cap,zs.take len,by simp; omega,?_,?_,by simp; omega,by simp; omega⟩
  ·by_cases h0:len=0
   ·subst h0; exact .inl (by simp [ints])
   ·obtain ⟨b,off,rfl,hc⟩:=ints_at hcell (by omega)
    refine .inr ⟨b,off,rfl,block_lt_of_cell (hc 0 (by omega)),fun i v hi=>?_⟩
    unfold ints at hi
    rw [List.getElem?_map,Option.map_eq_some_iff] at hi
    obtain ⟨x,hx,rfl⟩:=hi
    obtain ⟨hil,hxe⟩:=List.getElem?_eq_some_iff.1 hx
    rw [List.length_take] at hil
    rw [hc i (by omega),List.getD_eq_getElem?_getD,List.getElem?_eq_getElem (by omega)]
    rw [List.getElem_take] at hxe
    rw [← hxe]; rfl
  ·intro x hx
   exact bounds_i64 (hwz x (List.mem_of_mem_take hx))
end Go.Proofs.YtkoicfghplmghaaGreatDoor

namespace Go.Proofs.YtkoicfghplmghaaGreatDoor
open Go.RowKit
theorem isizes_one (w:World) (ps:List Int) (P:PrOk ps) (a0 a1:Option Addr) (c0 c1 g:Nat) (x:List Int) (rp:Rd w a0 (ints ps)) (hg:w.heap[g]?=some (.cells #[.slice a1 ps.length c1] 25 (0,0))) (r1:Rd w a1 (ints x))
  (l1:x.length=ps.length) (s1:Xs x) (L:Laid w) :
  Calls Tryz.prog 67 #[.slice a0 ps.length c0,.slice (some ⟨g,0,none⟩) 1 1] w fun e w'=>∃ g' d b c,e = .returned (.slice (some ⟨g',0,none⟩) 1 d)∧w'.cell? ⟨g',0,none⟩=some (.slice b ps.length c)∧Rd w' b (cellsQ (rq x))∧Below w.heap.size w w':=by
 have hiv:Iv ps.length [x]:=fun z hz=>by
  simp only [List.mem_cons,List.not_mem_nil,or_false] at hz
  subst hz
  exact ⟨l1,s1⟩
 refine cm_ (isizes_ok w ps P a0 (some ⟨g,0,none⟩) c0 1 [x] rp (rdi_one (by rw [l1]; exact hg) r1) (by simp) hiv L) ?_
 rintro e w' ⟨b,d,LL,rfl,ho,hb⟩
 have hlen:LL.length=1:=ho.len
 obtain ⟨g',cap,hv,-,h2,-,-,-⟩:=own_open ho.row (by omega)
 simp only [Value.slice.injEq] at hv
 obtain ⟨rfl,-,rfl⟩:=hv
 obtain ⟨b',off,e',hlt,hc⟩:=rdl_cells ho.rdl ho.lens (by simp)
 simp only [Option.some.injEq,Addr.mk.injEq,and_true] at e'
 obtain ⟨rfl,rfl⟩:=e'
 obtain ⟨p0,q0,k0,z0⟩:=hc 0 (by simp)
 exact ⟨g',d,p0,q0,rfl,k0,z0,hb⟩
structure InsAt (W:World) (ps low high:List Int) (a0:Option Addr) (c0:Nat) (g1 g2:Nat):Prop where
 box:∃ most a1 m1 c1 a2 m2 c2,W.heap[g1]?=some (.cells (boxV a0 ps.length c0 most a1 m1 c1 a2 m2 c2) 32 (0,0))
 lst:∃ g d,W.heap[g2]?=some (.cells #[.slice (some ⟨g,0,none⟩) 2 d] 53 (0,0))∧TwoR W ps.length g (rq low) (rq high)
 rp:Rd W a0 (ints ps)
theorem TwoR.below {W W':World} {n g:Nat} {la lb:List Rat} (h:TwoR W n g la lb) (hb:Below W.heap.size W W'):TwoR W' n g la lb:=by
 obtain ⟨h1,⟨a,c,k0,r0⟩,⟨a',c',k1,r1⟩⟩:=h
 exact ⟨Nat.lt_of_lt_of_le h1 hb.size,⟨a,c,(hb.cell (p:=⟨g,0,none⟩) h1).trans k0,r0.below hb nr_⟩,⟨a',c',(hb.cell (p:=⟨g,1,none⟩) h1).trans k1,r1.below hb nr_⟩⟩
theorem InsAt.below {W W':World} {ps low high:List Int} {a0:Option Addr} {c0 g1 g2:Nat} (h:InsAt W ps low high a0 c0 g1 g2) (hb:Below W.heap.size W W'):InsAt W' ps low high a0 c0 g1 g2:=by
 obtain ⟨⟨most,a1,m1,c1,a2,m2,c2,h1⟩,⟨g,d,h2,T⟩,rp⟩:=h
 exact ⟨⟨most,a1,m1,c1,a2,m2,c2,heap_kept h1 hb nr_⟩,⟨g,d,heap_kept h2 hb nr_,T.below hb⟩,rp.below hb nr_⟩
def insB (ps low high x:List Int):Bool:=decide (cI ps low x≤0) && decide (cI ps x high < 0)
theorem inside_any (w:World) (ps:List Int) (P:PrOk ps) (a0 a1 a2:Option Addr) (c0 c1 c2:Nat) (low high:List Int) (most:Int) (rp:Rd w a0 (ints ps)) (r1:Rd w a1 (ints low)) (r2:Rd w a2 (ints high)) (l1:low.length=ps.length) (l2:high.length=ps.length) (s1:Xs low) (s2:Xs high) (L:Laid w) :
  Calls Tryz.prog 64 #[.agg (boxV a0 ps.length c0 most a1 ps.length c1 a2 ps.length c2)] w fun e w'=>∃ g1 g2,e = .returned (.func (.func 116) #[] #[.pointer (some ⟨g1,0,none⟩),.pointer (some ⟨g2,0,none⟩)])∧InsAt w' ps low high a0 c0 g1 g2∧Below w.heap.size w w':=by
 have HS:Hid (∀ W g,Below w.heap.size w W→W.heap[g]?=some (.cells #[.slice a1 ps.length c1,.slice a2 ps.length c2] 25 (0,0))→Calls Tryz.prog 67 #[.slice a0 ps.length c0,.slice (some ⟨g,0,none⟩) 2 2] W fun e w'=>∃ g' d,e = .returned (.slice (some ⟨g',0,none⟩) 2 d)∧TwoR w' ps.length g' (rq low) (rq high)∧Below W.heap.size W w'):=fun W g hW hg =>
  isizes_two W ps P a0 a1 a2 c0 c1 c2 g low high (rp.below hW nr_) hg (r1.below hW nr_) (r2.below hW nr_) l1 l2 s1 s2 (L.below hW)
 have Hfin:Hid (∀ W g1 g2 g d,Below w.heap.size w W→W.heap[g1]?=some (.cells (boxV a0 ps.length c0 most a1 ps.length c1 a2 ps.length c2) 32 (0,0))→W.heap[g2]?=some (.cells #[.slice (some ⟨g,0,none⟩) 2 d] 53 (0,0))→TwoR W ps.length g (rq low) (rq high)→InsAt W ps low high a0 c0 g1 g2) :=
  fun W g1 g2 g d hW h1 h2 T=>⟨⟨most,a1,_,c1,a2,_,c2,h1⟩,⟨g,d,h2,T⟩,rp.below hW nr_⟩
 clear rp r1 r2 l1 l2 s1 s2 L P
 generalize rq low=ql at *
 generalize rq high=qh at *
 unfold boxV at *
 have B0:=hd_ ((Below.refl w.heap.size w).alloc nr_ (.cells #[.slice a0 ps.length c0,.int .i64 most,.slice a1 ps.length c1,.slice a2 ps.length c2] 32))
 have P0:=hd_ (heap_at w #[.slice a0 ps.length c0,.int .i64 most,.slice a1 ps.length c1,.slice a2 ps.length c2] 32 _ rfl)
 go_enter Tryz.func64,Tryz.ntmps64
 obtain ⟨k0,k1,k2,k3⟩:=four_cells P0.out
 go_wp2_with fail
 have hs0:(w.alloc (.cells #[.slice a0 ps.length c0,.int .i64 most,.slice a1 ps.length c1,.slice a2 ps.length c2] 32)).heap.size=w.heap.size + 1:=World.size_alloc _ _
 have Hs0:=hd_ hs0
 clear hs0
 generalize w.alloc (.cells #[.slice a0 ps.length c0,.int .i64 most,.slice a1 ps.length c1,.slice a2 ps.length c2] 32)=w0 at *
 have B1:=hd_ (B0.out.alloc B0.out.size (.cells #[.slice a1 ps.length c1,.slice a2 ps.length c2] 25))
 have P1:=hd_ (heap_old P0.out (.cells #[.slice a1 ps.length c1,.slice a2 ps.length c2] 25))
 clear k0 k1 k2 k3
 refine cm_ (HS.out _ _ B1.out (heap_at w0 _ _ _ Hs0.out)) ?_
 rintro e_ w2 ⟨g,d,rfl,T,hb_⟩
 have B2:=hd_ (B1.out.trans (hb_.mono B1.out.size))
 have P2:=hd_ (heap_kept P1.out hb_ nr_)
 have T2:=hd_ T
 clear hb_ T HS B1 P1
 go_wp2_with fail
 have Pn:=hd_ (heap_at w2 #[.slice none 0 0] 53 _ rfl)
 obtain ⟨n0,n1⟩:=one_cell Pn.out
 go_wp2_with fail
 go_ret
 have Bn:Below w2.heap.size w2 (w2.alloc (.cells #[.slice (some ⟨g,0,none⟩) 2 d] 53)):=(Below.refl _ w2).alloc nr_ _
 have B3:=B2.out.trans (Bn.mono B2.out.size)
 have Ps:=heap_at w2 #[.slice (some ⟨g,0,none⟩) 2 d] 53 _ rfl
 exact ⟨_,_,rfl,Hfin.out _ _ _ g d B3 (heap_kept P2.out Bn nr_) Ps (T2.out.below Bn),B3⟩
theorem inside1_any (w:World) (ps:List Int) (P:PrOk ps) (a0 ax:Option Addr) (c0 cx g1 g2:Nat) (low high x:List Int) (S:InsAt w ps low high a0 c0 g1 g2) (rx:Rd w ax (ints x)) (lx:x.length=ps.length) (l1:low.length=ps.length) (l2:high.length=ps.length) (sx:Xs x) (s1:Xs low) (s2:Xs high) (L:Laid w) :
  Gives Tryz.prog 116 #[.slice ax ps.length cx,.pointer (some ⟨g1,0,none⟩),.pointer (some ⟨g2,0,none⟩)] w (.bool (insB ps low high x)):=by
 unfold Gives
 obtain ⟨⟨most,a1,m1,c1,a2,m2,c2,hbox⟩,⟨g,d,hlst,T⟩,rp⟩:=S
 have HS:Hid (∀ W gg,Below w.heap.size w W→W.heap[gg]?=some (.cells #[.slice ax ps.length cx] 25 (0,0))→Calls Tryz.prog 67 #[.slice a0 ps.length c0,.slice (some ⟨gg,0,none⟩) 1 1] W fun e w'=>∃ g' d b c,e = .returned (.slice (some ⟨g',0,none⟩) 1 d)∧w'.cell? ⟨g',0,none⟩=some (.slice b ps.length c)∧Rd w' b (cellsQ (rq x))∧Below W.heap.size W w'):=fun W gg hW hg =>
  isizes_one W ps P a0 ax c0 cx gg x (rp.below hW nr_) hg (rx.below hW nr_) lx sx (L.below hW)
 obtain ⟨hgl,⟨b0,d0,t0,z0⟩,⟨b1,d1,t1,z1⟩⟩:=T
 have HA:Hid (∀ W b c,Below w.heap.size w W→Rd W b (cellsQ (rq x))→Gives Tryz.prog 105 #[.slice a0 ps.length c0,.slice b0 ps.length d0,.slice b ps.length c] W (.tuple #[.int .i64 (cI ps low x),.int .i64 0])):=fun W b c hW hr =>
  cmpI_ok P c0 d0 c (rp.below hW nr_) (z0.below hW nr_) hr l1 lx (s1.bd.le (by decide)) (sx.bd.le (by decide)) (L.below hW)
 have HB:Hid (∀ W b c,Below w.heap.size w W→Rd W b (cellsQ (rq x))→Gives Tryz.prog 105 #[.slice a0 ps.length c0,.slice b ps.length c,.slice b1 ps.length d1] W (.tuple #[.int .i64 (cI ps x high),.int .i64 0])):=fun W b c hW hr =>
  cmpI_ok P c0 c d1 (rp.below hW nr_) hr (z1.below hW nr_) lx l2 (sx.bd.le (by decide)) (s2.bd.le (by decide)) (L.below hW)
 have Hv:Hid (insB ps low high x=(decide (cI ps low x≤0) && decide (cI ps x high < 0))):=rfl
 unfold boxV at hbox
 have Pb:=hd_ hbox
 have Pl:=hd_ hlst
 have t0:=hd_ t0
 have t1:=hd_ t1
 clear z0 z1 rp rx lx l1 l2 sx s1 s2 L P hbox hlst
 generalize insB ps low high x=v at *
 generalize cI ps low x=ca at *
 generalize cI ps x high=cb at *
 generalize rq x=qx at *
 generalize ps.length=n at *
 go_enter Tryz.func116,Tryz.ntmps116
 obtain ⟨k0,k1,k2,k3⟩:=four_cells Pb.out
 go_wp2_with fail
 have B0:=hd_ ((Below.refl w.heap.size w).alloc nr_ (.cells #[.slice ax n cx] 25))
 clear k0 k1 k2 k3
 refine cm_ (HS.out _ _ B0.out (heap_at w _ _ _ rfl)) ?_
 rintro e_ w1 ⟨g',d',b,c,rfl,hc_,hr_,hb_⟩
 have B1:=hd_ (B0.out.trans (hb_.mono B0.out.size))
 have R1:=hd_ hr_
 have Pb1:=hd_ (heap_kept Pb.out B1.out nr_)
 have Pl1:=hd_ (heap_kept Pl.out B1.out nr_)
 have t0':=hd_ ((B1.out.cell (p:=⟨g,0,none⟩) hgl).trans t0.out)
 have t1':=hd_ ((B1.out.cell (p:=⟨g,1,none⟩) hgl).trans t1.out)
 clear hb_ hr_ HS B0 Pb Pl t0 t1
 go_wp2_with fail
 clear hc_
 obtain ⟨k0,k1,k2,k3⟩:=four_cells Pb1.out
 obtain ⟨j0,j1⟩:=one_cell Pl1.out
 have y0:=t0'.out
 have q0:=BW.cell k0
 have q1:=BW.cell j0
 have q2:=BW.cell y0
 have hnon:Nonempty (BW w1):=⟨⟨w1,Below.refl _ _⟩⟩
 have I:Hid (Below w1.heap.size w1 w1.drew):=(Below.refl _ _).drew
 clear k0 k1 k2 k3 j0 j1 y0
 refine RY.wp_region_readers 6 [(1,0),(1,1),(1,2),(1,3),(1,4),(1,5),(0,6),(0,7),(2,8),(2,9),(0,10),(0,11)] (fun w'=>∃ p:BW w1,w'=p.w) (by kernel_rfl) (by kernel_rfl) ?_ ?_
 ·exact ⟨⟨_,I.out⟩,rfl⟩
 iterate 6 (refine RY.walkR_read ?_; simp only [dsc_,dz_,tsc_,tz_]; go_big_quiet_step (fail); refine wpQuiet_nil ?_)
 clear hnon q0 q1 q2
 refine RY.walkR_move ?_
 simp only [dsc_,dz_,tsc_,tz_]
 go_wp2_with fail
 refine cm_ (HA.out _ _ _ (B1.out.trans (I.out.mono B1.out.size)) (R1.out.below I.out nr_)) ?_
 rintro e_ w2 ⟨rfl,hb_⟩
 have I2:=hd_ (I.out.trans (hb_.mono I.out.size))
 have B2:=hd_ (B1.out.trans (I2.out.mono B1.out.size))
 have R2:=hd_ (R1.out.below I2.out nr_)
 have Pb2:=hd_ (heap_kept Pb1.out I2.out nr_)
 have Pl2:=hd_ (heap_kept Pl1.out I2.out nr_)
 have t1'':=hd_ ((I2.out.cell (p:=⟨g,1,none⟩) (Nat.lt_of_lt_of_le hgl B1.out.size)).trans t1'.out)
 clear hb_ I HA I2 B1 R1 Pb1 Pl1 t0' t1'
 go_wp2_with fail
 refine RY.walkR_move ?_
 simp only [dsc_,dz_,tsc_,tz_]
 go_wp2_with fail
 iterate 2 (refine RY.walkR_any ?_; simp only [dsc_,dz_,tsc_,tz_]; go_big_quiet_step (fail); refine wpQuiet_nil ?_)
 refine RY.walkR_move ?_
 simp only [dsc_,dz_,tsc_,tz_]
 go_wp2_with fail
 refine RY.walkR_move ?_
 simp only [dsc_,dz_,tsc_,tz_]
 go_wp2_with fail
 simp only [RY.walkR]
 by_cases hca:0 < ca
 ·rw [decide_eq_false (show ¬ ca≤0 by omega),Bool.false_and] at Hv
  go_wp2_with fail
  go_ret
  exact ⟨by rw [Hv.out]; rfl,B2.out⟩
 ·rw [decide_eq_true (show ca≤0 by omega),Bool.true_and] at Hv
  go_wp2_with fail
  obtain ⟨k0,k1,k2,k3⟩:=four_cells Pb2.out
  obtain ⟨j0,j1⟩:=one_cell Pl2.out
  have y0:=t1''.out
  have q0:=BW.cell k0
  have q1:=BW.cell j0
  have q2:=BW.cell y0
  have hnon:Nonempty (BW w2):=⟨⟨w2,Below.refl _ _⟩⟩
  have I:Hid (Below w2.heap.size w2 w2.drew):=(Below.refl _ _).drew
  clear k0 k1 k2 k3 j0 j1 y0
  refine RY.wp_region_readers 6 [(1,0),(1,1),(1,2),(1,3),(1,4),(1,5),(0,6),(0,7),(2,8),(2,9),(0,10),(0,11)] (fun w'=>∃ p:BW w2,w'=p.w) (by kernel_rfl) (by kernel_rfl) ?_ ?_
  ·exact ⟨⟨_,I.out⟩,rfl⟩
  iterate 6 (refine RY.walkR_read ?_; simp only [dsc_,dz_,tsc_,tz_]; go_big_quiet_step (fail); refine wpQuiet_nil ?_)
  clear hnon q0 q1 q2
  refine RY.walkR_move ?_
  simp only [dsc_,dz_,tsc_,tz_]
  go_wp2_with fail
  refine cm_ (HB.out _ _ _ (B2.out.trans (I.out.mono B2.out.size)) (R2.out.below I.out nr_)) ?_
  rintro e_ w3 ⟨rfl,hb_⟩
  have I2:=hd_ (I.out.trans (hb_.mono I.out.size))
  have B3:=hd_ (B2.out.trans (I2.out.mono B2.out.size))
  clear hb_ I HB I2 B2 R2
  go_wp2_with fail
  refine RY.walkR_move ?_
  simp only [dsc_,dz_,tsc_,tz_]
  go_wp2_with fail
  iterate 2 (refine RY.walkR_any ?_; simp only [dsc_,dz_,tsc_,tz_]; go_big_quiet_step (fail); refine wpQuiet_nil ?_)
  refine RY.walkR_move ?_
  simp only [dsc_,dz_,tsc_,tz_]
  go_wp2_with fail
  refine RY.walkR_move ?_
  simp only [dsc_,dz_,tsc_,tz_]
  go_wp2_with fail
  simp only [RY.walkR]
  go_wp2_with fail
  go_ret
  exact ⟨by rw [Hv.out]; rfl,B3.out⟩
end Go.Proofs.YtkoicfghplmghaaGreatDoor

namespace Go.Proofs.YtkoicfghplmghaaGreatDoor
open Go.RowKit Go.Shelf
attribute [local go_sem] Oper.semAt_some
structure KpW (n₀ gv bp:Nat) (X Y:World):Prop where
 b:Below n₀ X Y
 v:Y.heap[gv]?=X.heap[gv]?
 p:Y.heap[bp]?=X.heap[bp]?
theorem grown_ofB {A B:World} (h:Below A.heap.size A B) (r:Option Nat):A.grownBy B r:=⟨h.os,h.tape,h.output,h.size,fun k hk _=>h.block k hk⟩
theorem OwnI.block15 {w w':World} {B c g:Nat} {l:List Int} (h:OwnI w B (some ⟨g,0,none⟩) c l) (he:w'.heap[g]?=w.heap[g]?):OwnI w' B (some ⟨g,0,none⟩) c l:=by
 refine ⟨h.1,?_⟩
 rcases h.2 with h1 | ⟨g',cap,cur,hv,hb,hg,rest⟩
 ·exact .inl h1
 ·simp only [Value.slice.injEq,Option.some.injEq,Addr.mk.injEq,and_true,true_and] at hv
  obtain ⟨rfl,rfl⟩:=hv
  exact .inr ⟨g,c,cur,rfl,hb,by rw [he]; exact hg,rest⟩
theorem OwnI.lower15 {w:World} {B B' c:Nat} {a:Option Addr} {l:List Int} (h:OwnI w B a c l) (hb:B'≤B):OwnI w B' a c l :=
 ⟨h.1,h.2.imp id fun ⟨g,cap,cur,h1,h2,h3⟩=>⟨g,cap,cur,h1,Nat.le_trans hb h2,h3⟩⟩
theorem mixB_fill (m:Int) (n k:Nat) (h:k≤n):((List.replicate k (-m) ++ List.replicate (n - k) 0:List Int)).length=n:=by simp; omega
theorem fillB_set (m:Int) (n k:Nat) (h:k < n):(List.replicate k (-m) ++ List.replicate (n - k) (0:Int)).set k (-m)=List.replicate (k + 1) (-m) ++ List.replicate (n - (k + 1)) 0:=by
 refine List.ext_getElem (by simp; omega) fun i h1 h2=>?_
 simp only [List.getElem_set,List.getElem_append,List.length_replicate,List.getElem_replicate]
 repeat' split
 all_goals first | rfl | omega
theorem rows_seq (r:Nat) (hr1:1≤r) (n m:Nat) (a0:Option Addr) (c0:Nat) (hn:n≤1000) (hn0:0 < n) (hm:m≤6) (a1 a2:Option Addr) (m1 c1 m2 c2:Nat) (w00 W:World) (hb:Below w00.heap.size w00 W) (bp:Nat)
  (hbp:W.heap[bp]?=some (.cells (boxV a0 n c0 (m:Int) a1 m1 c1 a2 m2 c2) 32 (0,0)))
  (l:Nat) (J Jx:Nat→World→Prop) (hJ:∀ k A B,J k A→A.grownBy B (some W.heap.size)→J k B)
  (hY:∀ k X c d,k < numB n m→J k X→Below w00.heap.size w00 X→W.heap.size < X.heap.size→OwnI X (W.heap.size + 1) (some ⟨c,0,none⟩) d (seqB n m k)→YieldAt Fence.wide (r - 1) Tryz.prog l #[.slice (some ⟨c,0,none⟩) n d] X fun e Y =>
   (e = .returned (.bool true)∧J (k + 1) Y∧KpW w00.heap.size W.heap.size bp X Y)∨(e = .returned (.bool false)∧Jx k Y))
  (h0:J 0 W) :
  CallsIn Fence.wide r Tryz.prog 117 #[.func (.yield l) #[] #[],.pointer (some ⟨bp,0,none⟩)] W fun e X=>(∃ v,e = .returned v)∧(J (numB n m) X∨∃ k,Jx k X):=by
 unfold boxV at hbp
 have hmk:=made_i15 n W (by omega)
 have hwn:IntKind.i64.wrap (n:Int)=n:=iw_ _ (by omega)
 have hwm:IntKind.i64.wrap (-(m:Int)) = -(m:Int):=iw_ _ (by omega)
 have O0:Hid (OwnI (W.alloc (.cells (ints (List.replicate n 0)).toArray 3)) W.heap.size (some ⟨W.heap.size,0,none⟩) n (List.replicate 0 (-(m:Int)) ++ List.replicate (n - 0) 0)):=by
  have:=own_made15 W (List.replicate n 0) (by simp; omega)
  rw [List.length_replicate] at this
  show OwnI _ _ _ _ _
  simpa using this
 have B0:=hd_ ((Below.refl W.heap.size W).alloc nr_ (.cells (ints (List.replicate n 0)).toArray 3))
 have HW:=hd_ hb
 have Hset:Hid (∀ k,k < n→(List.replicate k (-(m:Int)) ++ List.replicate (n - k) (0:Int)).set k (-(m:Int))=List.replicate (k + 1) (-(m:Int)) ++ List.replicate (n - (k + 1)) 0):=fun k hk=>fillB_set m n k hk
 have Hlen:Hid (∀ k,k≤n→((List.replicate k (-(m:Int)) ++ List.replicate (n - k) 0:List Int)).length=n):=fun k hk=>mixB_fill m n k hk
 have Hfin:Hid (List.replicate n (-(m:Int)) ++ List.replicate (n - n) 0=seqB n m 0):=by show _=_; simp [seqB,startB]
 have Hsl:Hid (∀ k,(seqB n m k).length=n):=seqB_length n m
 have Hbox:Hid (∀ k,InBox m (seqB n m k)):=seqB_box (Int.natCast_nonneg m) n
 have Htop:Hid (∀ k,k < numB n m→(∀ t,t < n→(seqB n m k).getD t 0=(m:Int))→k + 1=numB n m):=fun k hk ht=>(seqB_top hk).1 (all_top fun t h=>ht t (by rw [seqB_length] at h; exact h))
 have Hnt:Hid (∀ k j,k < numB n m→j < n→(seqB n m k).getD j 0≠(m:Int)→k + 1 < numB n m):=fun k j hk hj hne=>by
  rcases Nat.lt_or_ge (k + 1) (numB n m) with h | h
  ·exact h
  ·exfalso
   have h1:=(seqB_top hk).2 (by omega)
   refine hne (h1 _ ?_)
   rw [List.getD_eq_getElem?_getD,List.getElem?_eq_getElem (by rw [seqB_length]; exact hj),Option.getD_some]
   exact List.getElem_mem _
 have Hpos:Hid (0 < numB n m):=numB_pos n m
 have HWs:=hd_ hb.size
 have Mp:=hd_ hbp
 have Hne:Hid (bp≠W.heap.size):=fun e=>by have:=(Array.getElem?_eq_some_iff.1 hbp).1; omega
 clear hb
 generalize hN:numB n m=N at *
 refine callsIn_of_wp Tryz.func117 rfl trivial ?_ rfl
 simp only [Tryz.ntmps117,List.size_toArray,List.length_cons,List.length_nil,Nat.reduceAdd,Nat.reduceSub,Array.replicate_succ,Array.replicate_zero,List.push_toArray,List.append_toArray,List.nil_append,List.cons_append]
 obtain ⟨p0,p1,p2,p3⟩:=four_cells hbp
 clear hbp hN
 gi_wp2
 gi_loopw [12] (fun x wr=>∃ k:Nat,k≤n∧x = .int .i64 k∧Hid (OwnI wr W.heap.size (some ⟨W.heap.size,0,none⟩) n (List.replicate k (-(m:Int)) ++ List.replicate (n - k) 0))∧Hid (Below W.heap.size W wr)) (fun x _=>n - (intOf x).toNat)
 case atStart=>exact ⟨0,Nat.zero_le _,rfl,O0,B0⟩
 case round =>
  clear O0 B0
  obtain ⟨k,hk,rfl,O,B⟩:=hrel
  have Mp':=hd_ ((B.out.block bp (Array.getElem?_eq_some_iff.1 Mp.out).1).trans Mp.out)
  obtain ⟨p0,p1,p2,p3⟩:=four_cells Mp'.out
  have Bw:Hid (Below w00.heap.size w00 wr):=HW.out.trans (B.out.mono HW.out.size)
  by_cases hlt:k < n
  ·have hlt':(k:Int) < n:=by omega
   have Hs:=hd_ (Hset.out k hlt)
   have Hl:=hd_ (Hlen.out k (by omega))
   obtain ⟨x0,x1,x2,x3⟩:=O.out.at15 (i:=k) (by rw [Hl.out]; exact hlt)
   have P:=hd_ (O.out.put15 k (-(m:Int)))
   rw [Hs.out] at P
   clear x2 x3 O
   gi_wp2
   go_roundw
   case rel=>exact ⟨k + 1,by omega,by go_num,P.out.1,B.out.setCell (p:=⟨W.heap.size,k,none⟩) nr_ _⟩
   case measure=>simp [intOf]; omega
  ·have hkm:k=n:=by omega
   have hlt':¬ (k:Int) < n:=by omega
   have O2:Hid (OwnI wr W.heap.size (some ⟨W.heap.size,0,none⟩) n (seqB n m 0)):=by
    have:=O.out
    rw [hkm,Hfin.out] at this
    exact this
   have J0:Hid (J 0 wr):=hJ 0 W wr h0 ⟨B.out.os,B.out.tape,B.out.output,B.out.size,fun i hi _=>B.out.block i hi⟩
   have S0:Hid (W.heap.size < wr.heap.size):=(O.out.at15 (i:=0) (by rw [Hlen.out k hk]; exact hn0)).2.2.1
   clear O B p0 p1 p2 p3 Hfin h0
   gi_wp2_with fail
   gi_loopg [5] (N + 1) (fun z x wr=>∃ k:Nat,k < N∧k + z=N + 1∧Hid (J k wr)∧Hid (OwnI wr W.heap.size (some ⟨W.heap.size,0,none⟩) n (seqB n m k))∧Hid (Below w00.heap.size w00 wr)∧Hid (wr.heap[bp]?=some (.cells #[.slice a0 n c0,.int .i64 (m:Int),.slice a1 m1 c1,.slice a2 m2 c2] 32 (0,0)))∧Hid (W.heap.size < wr.heap.size))
   case atStart=>exact ⟨0,Hpos.out,by omega,J0,O2,Bw,Mp',S0⟩
   case round =>
    clear J0 O2 Bw Mp' S0 Mp HW
    obtain ⟨k,hkN,hkz,Jk,O,B,M,S⟩:=hrel
    have hl:=Hsl.out k
    have Hbk:=hd_ (Hbox.out k)
    have Htk:=hd_ (Htop.out k hkN)
    have Hntk:Hid (∀ j,j < n→(seqB n m k).getD j 0≠(m:Int)→k + 1 < N):=fun j=>Hnt.out k j hkN
    have Hnx:Hid (seqB n m (k + 1)=nextB m (seqB n m k)):=rfl
    have Hy:Hid (∀ X c d,J k X→Below w00.heap.size w00 X→W.heap.size < X.heap.size→OwnI X (W.heap.size + 1) (some ⟨c,0,none⟩) d (seqB n m k)→YieldAt Fence.wide (r - 1) Tryz.prog l #[.slice (some ⟨c,0,none⟩) n d] X fun e Y =>
     (e = .returned (.bool true)∧J (k + 1) Y∧KpW w00.heap.size W.heap.size bp X Y)∨(e = .returned (.bool false)∧Jx k Y)):=fun X c d h1 h2 h3 h4=>hY k X c d hkN h1 h2 h3 h4
    generalize hv':seqB n m (k + 1)=v' at *
    have Hv':Hid (seqB n m (k + 1)=v'):=hv'
    clear hv'
    generalize seqB n m k=v at *
    have Hcl:=hd_ (iclone_ok wr W.heap.size 0 n v O.out.rd (by omega) (by omega))
    rw [hl] at Hcl
    have Hvl:=hd_ hl
    clear hl
    gi_wp2_with fail
    refine ⟨trivial,?_⟩
    refine (callsIn_wide.2 Hcl.out).mono ?_
    rintro e w1 ⟨g,d,rfl,ho,hb1⟩
    have B1:=hd_ (B.out.trans (hb1.mono B.out.size))
    have O1:=hd_ (O.out.below hb1 nr_)
    have J1:Hid (J k w1):=hJ k wr w1 Jk.out (grown_ofB hb1 _)
    have M1:=hd_ ((hb1.block bp (Array.getElem?_eq_some_iff.1 M.out).1).trans M.out)
    have S1:=hd_ (Nat.lt_of_lt_of_le S.out hb1.size)
    obtain ⟨fn,tmps,assign,body,hy,hR⟩:=Hy.out w1 g d J1.out B1.out S1.out (ho.lower15 S.out)
    clear ho hb1 Hcl Hy J1 B O Jk M S
    gi_wp2_with fail
    refine hR.mono ?_
    rintro e W3 (⟨rfl,hJ3,hk3⟩ | ⟨rfl,hJx3⟩)
    ·have B3:=hd_ (B1.out.trans hk3.b)
     have O3:Hid (OwnI W3 W.heap.size (some ⟨W.heap.size,0,none⟩) n (mixB m v 0)):=by rw [mixB_zero]; exact O1.out.block15 hk3.v
     have M3:=hd_ (hk3.p.trans M1.out)
     have J3:=hd_ hJ3
     clear hJ3 hk3 hR hy B1 O1 M1 S1
     gi_wp2_with fail
     gi_loopw [5] (fun x wr=>∃ j:Nat,j≤n∧x = .int .i64 j∧Hid (∀ t,t < j→v.getD t 0=(m:Int))∧Hid (J (k + 1) wr)∧Hid (OwnI wr W.heap.size (some ⟨W.heap.size,0,none⟩) n (mixB m v j))∧Hid (Below w00.heap.size w00 wr)∧Hid (wr.heap[bp]?=some (.cells #[.slice a0 n c0,.int .i64 (m:Int),.slice a1 m1 c1,.slice a2 m2 c2] 32 (0,0)))) (fun x _=>n - (intOf x).toNat)
     case atStart=>exact ⟨0,Nat.zero_le _,rfl,fun t ht=>absurd ht (Nat.not_lt_zero _),J3,O3,B3,M3⟩
     case round =>
      clear J3 O3 B3 M3
      obtain ⟨j,hj,rfl,Ht,Jw,O,B,M⟩:=hrel
      obtain ⟨p0,p1,p2,p3⟩:=four_cells M.out
      by_cases hlt:j < n
      ·have hlt':(j:Int) < n:=by omega
       have hjl:j < v.length:=by rw [Hvl.out]; exact hlt
       obtain ⟨x0,x1,x2,x3⟩:=O.out.at15 (i:=j) (by rw [mixB_length _ _ (by omega)]; exact hjl)
       rw [mixB_get _ _ (by omega)] at x0
       have hbx : -(m:Int)≤v.getD j 0∧v.getD j 0≤m:=by
        refine Hbk.out _ ?_
        rw [List.getD_eq_getElem?_getD,List.getElem?_eq_getElem hjl,Option.getD_some]
        exact List.getElem_mem _
       by_cases hq:v.getD j 0=(m:Int)
       ·have Hmx:Hid ((mixB m v j).set j (-(m:Int))=mixB m v (j + 1)):=mixB_step _ _ hjl
        rw [hq] at x0
        have Ht2:Hid (∀ t,t < j + 1→v.getD t 0=(m:Int)):=fun t ht=>by
         rcases Nat.lt_or_ge t j with h | h
         ·exact Ht.out t h
         ·rw [show t=j by omega]; exact hq
        have Hj:=hd_ hlt
        have hmm:((m:Int) == m)=true:=beq_self_eq_true _
        clear hq hbx Ht x2 x3
        gi_wp2_with fail
        refine wpIn_wide.2 ?_
        go_quiet (fail)
        gi_wp2
        go_roundw
        case rel =>
         refine ⟨j + 1,by have:=Hj.out; omega,by go_num,Ht2,?_,?_,?_,?_⟩
         ·exact hJ _ _ _ (hJ _ _ _ Jw.out (grown_ofB (below_drawn _ _) _)) ((O.out.below (below_drawn _ _) nr_).put15 j _).2
         ·show OwnI _ _ _ _ _
          rw [← Hmx.out]
          exact ((O.out.below (below_drawn _ _) nr_).put15 j _).1
         ·exact (below_dn B.out _).setCell (p:=⟨W.heap.size,j,none⟩) HWs.out _
         ·show _=_
          rw [Below.heap_setCell _ _ _ _ (fun e=>Hne.out e)]
          exact M.out
        case measure=>simp [intOf]; omega
       ·have Hmx:Hid ((mixB m v j).set j (v.getD j 0 + 1)=v'):=by
         show _=_
         rw [mixB_next _ _ _ hjl Ht.out hq]
         exact Hnx.out.symm
        have hNk:=Hntk.out j hlt hq
        have f1:IntKind.i64.wrap (v.getD j 0 + 1)=v.getD j 0 + 1:=iw_ _ (by omega)
        have hq1:(v.getD j 0 == (m:Int))=false:=by rw [beq_eq_false_iff_ne]; exact hq
        have hne:((j:Int) == n)=false:=by rw [beq_eq_false_iff_ne]; omega
        have Sx:=hd_ x2
        clear hq Ht x2 x3
        generalize v.getD j 0=xb at *
        gi_wp2_with fail
        refine wpIn_wide.2 ?_
        go_quiet (fail)
        gi_wp2
        go_roundg (gk - 1)
        case measure=>omega
        case rel =>
         refine ⟨k + 1,hNk,by omega,?_,?_,?_,?_,?_⟩
         ·exact hJ _ _ _ (hJ _ _ _ Jw.out (grown_ofB (below_drawn _ _) _)) ((O.out.below (below_drawn _ _) nr_).put15 j _).2
         ·show OwnI _ _ _ _ _
          rw [Hv'.out,← Hmx.out]
          exact ((O.out.below (below_drawn _ _) nr_).put15 j _).1
         ·exact (below_dn B.out _).setCell (p:=⟨W.heap.size,j,none⟩) HWs.out _
         ·show _=_
          rw [Below.heap_setCell _ _ _ _ (fun e=>Hne.out e)]
          exact M.out
         ·exact Nat.lt_of_lt_of_le Sx.out ((Below.refl 0 (wr.drewN _)).setCell (p:=⟨W.heap.size,j,none⟩) (Nat.zero_le _) _).size
      ·have hlt':¬ (j:Int) < n:=by omega
       have hjn:j=n:=by omega
       have hNk:=Htk.out (by rw [← hjn]; exact Ht.out)
       have heq:((j:Int) == n)=true:=by rw [beq_iff_eq]; omega
       have JX:Hid (J N wr):=by rw [← hNk]; exact Jw.out
       clear hjn
       gi_wp2_with fail
       refine wpIn_wide.2 ?_
       go_quiet (fail)
       gi_wp2
       refine bodyPost_ret (results_none rfl _ _ _) rfl ?_
       exact ⟨⟨_,rfl⟩,.inl (hJ _ _ _ JX.out (grown_ofB (below_drawn _ _) _))⟩
    ·have JX:=hd_ hJx3
     clear hJx3 hR hy B1 O1 M1 S1
     gi_wp2
     refine bodyPost_ret (results_none rfl _ _ _) rfl ?_
     exact ⟨⟨_,rfl⟩,.inr ⟨k,JX.out⟩⟩
end Go.Proofs.YtkoicfghplmghaaGreatDoor

namespace Go.Proofs.YtkoicfghplmghaaGreatDoor
open Go.RowKit Go.Shelf
structure KpC (n₀:Nat) (S:List Nat) (X Y:World):Prop where
 b:Below n₀ X Y
 same:∀ i∈S,Y.heap[i]?=X.heap[i]?
theorem KpC.refl (n₀:Nat) (S:List Nat) (X:World):KpC n₀ S X X:=⟨Below.refl _ _,fun _ _=>rfl⟩
theorem KpC.trans {n₀:Nat} {S:List Nat} {X Y Z:World} (h:KpC n₀ S X Y) (k:KpC n₀ S Y Z):KpC n₀ S X Z:=⟨h.b.trans k.b,fun i hi=>(k.same i hi).trans (h.same i hi)⟩
theorem KpC.of {n₀ B:Nat} {S:List Nat} {X Y:World} (h:Below B X Y) (h0:n₀≤B) (hS:∀ i∈S,i < B):KpC n₀ S X Y:=⟨h.mono h0,fun i hi=>h.block i (hS i hi)⟩
theorem KpC.grown {n₀ r:Nat} {S:List Nat} {X Y:World} (h:X.grownBy Y (some r)) (h0:n₀≤r) (h1:n₀≤X.heap.size) (hS:∀ i∈S,i < X.heap.size∧i≠r):KpC n₀ S X Y :=
 ⟨⟨h.os,h.tape,h.output,h.size,fun i hi=>h.block i (by omega) (fun e=>by have:=Option.some.inj e; omega)⟩,fun i hi=>h.block i (hS i hi).1 (fun e=>(hS i hi).2 (Option.some.inj e))⟩
def rowPost (n₀ D bp:Nat) (I:Nat→World→Prop) (Ix:Code→World→Prop) (k:Nat) (X:World):Exit→Act→World→Prop
 | .normal,_,Y=>I (k + 1) Y∧KpC n₀ [D,D + 1,D + 2,bp] X Y
 | .ret,_,Y=>Ix .ret Y∧KpC n₀ [D,D + 1,D + 2,bp] X Y
 | .exit id,_,Y=>Ix (.exit id) Y∧KpC n₀ [D,D + 1,D + 2,bp] X Y
 | .goto t,_,Y=>Ix (.goto t) Y∧KpC n₀ [D,D + 1,D + 2,bp] X Y
 | .panic _,_,_=>False
 | .outgrown,_,_=>False
theorem range_rows {g:Operand} {pt:Tmp} {assign body:Code} {Q:Exit→Act→World→Prop} {a:Act} {n:Nat} (h1:2≤n)
  (nn m:Nat) (a0:Option Addr) (c0:Nat) (hnn:nn≤1000) (hn0:0 < nn) (hm:m≤6) (x1 x2:Option Addr) (m1 c1 m2 c2:Nat) (w00 w:World) (hb:Below w00.heap.size w00 w) (bp:Nat)
  (hbp:w.heap[bp]?=some (.cells (boxV a0 nn c0 (m:Int) x1 m1 c1 x2 m2 c2) 32 (0,0)))
  (hg:a.eval g = .func (.func 117) #[] #[.pointer (some ⟨bp,0,none⟩)])
  (I:Nat→World→Prop) (Ix:Code→World→Prop)
  (hI:∀ k A B r,I k A→A.grownBy B (some r)→w.heap.size≤r∧r≤w.heap.size + 2→I k B)
  (hIx:∀ c A B r,Ix c A→A.grownBy B (some r)→w.heap.size≤r∧r≤w.heap.size + 2→Ix c B) (h0:I 0 w) (a₁:Nat→Nat→Act)
  (hassign:∀ (c d:Nat) (W:World) (K:Act→World→Prop),K (a₁ c d) W →
   assign.wpIn (Fence.wide.inRound (w.heap.size + 1)) (n - 1 - 1) Tryz.prog (Exit.then K (fun _ _ _=>False)) { tmps:=a.tmps.setIfInBounds pt (.slice (some ⟨c,0,none⟩) nn d),defers:=[] } W)
  (hbody:∀ (k:Nat) (X:World) (c d:Nat),k < numB nn m→I k X→Below w00.heap.size w00 X→w.heap.size + 2 < X.heap.size→OwnI X (w.heap.size + 3) (some ⟨c,0,none⟩) d (seqB nn m k) →
   body.wpIn (Fence.wide.inRound (w.heap.size + 1)) (n - 1 - 1) Tryz.prog (rowPost w00.heap.size w.heap.size bp I Ix k X) (a₁ c d) X)
  (hstop:∀ (c:Code) (W:World),Ix c W→W.heap[w.heap.size]?=some (.deferred (some []))→c.wpIn Fence.wide n Tryz.prog Q { a with defers:={ target := .collected w.heap.size,args := #[] } :: a.defers } W)
  (hdone:∀ (W:World),I (numB nn m) W→W.heap[w.heap.size]?=some (.deferred (some []))→Q .normal { a with defers:={ target := .collected w.heap.size,args := #[] } :: a.defers } W) :
  (Code.rangeFunc g #[pt] assign body).wpIn Fence.wide n Tryz.prog Q a w:=by
 refine wpIn_rangeFunc ?_
 intro fn hfn
 rw [show Fence.wide.round=none from rfl]
 obtain ⟨rec,hrec⟩:∃ rec:LoopState→Option Code→Loop,rec=fun st pe=>{ state:=st,pending:=pe,fn,tmps:=a.tmps,params := #[pt],assign,body,defers:=w.heap.size }:=⟨_,rfl⟩
 obtain ⟨W1,hW1⟩:∃ W1,(w.alloc (.deferred (some []))).alloc (.loop (rec .ready none))=W1:=⟨_,rfl⟩
 have hs1:W1.heap.size=w.heap.size + 2:=by rw [← hW1]; simp
 have hL1:W1.heap[w.heap.size + 1]?=some (.loop (rec .ready none)):=by
  rw [← hW1]; have:=World.alloc_heap_new (w.alloc (.deferred (some []))) (.loop (rec .ready none)); rwa [World.size_alloc] at this
 have hK1:W1.heap[w.heap.size]?=some (.deferred (some [])):=by
  rw [← hW1]; exact (Below.heap_alloc _ _ _ (by simp)).trans (World.alloc_heap_new w _)
 have hG1:Below w.heap.size w W1:=by rw [← hW1]; exact ((Below.refl _ w).alloc nr_ _).alloc (by simp) _
 have hI1:I 0 W1:=hI 0 w W1 w.heap.size h0 (grown_ofB hG1 _) ⟨Nat.le_refl _,by omega⟩
 have hb1:Below w00.heap.size w00 W1:=hb.trans (hG1.mono hb.size)
 have sp:=(Array.getElem?_eq_some_iff.1 hbp).1
 have hbp1:=(hG1.block bp sp).trans hbp
 have eg:=enters_of Tryz.func117 (by kernel_rfl) rfl
 refine ⟨w.heap.size + 1,[{ target := .collected w.heap.size,args := #[] }],W1,{ target := .fn (.func 117) #[.pointer (some ⟨bp,0,none⟩)],args := #[.func (.yield (w.heap.size + 1)) #[] #[]] },W1,117,
  #[.func (.yield (w.heap.size + 1)) #[] #[]] ++ #[.pointer (some ⟨bp,0,none⟩)],W1,?_,?_,?_,?_,fun _=>by omega,?_⟩
 ·rw [← hW1,hrec]; exact run_enterLoop_outer _ _ _ _ _
 ·simp only [resolve,hg]
  simp [go_sem]
 ·intro f' hf'; simp [Target.leads] at hf'; subst hf'; trivial
 ·simp [invoke,go_sem]
 ·refine (rows_seq (n - 1) (by omega) nn m a0 c0 hnn hn0 hm x1 x2 m1 c1 m2 c2 w00 W1 hb1 bp hbp1 (w.heap.size + 1)
   (fun k X=>I k X∧X.heap[w.heap.size + 1]?=some (.loop (rec .ready none))∧X.heap[w.heap.size]?=some (.deferred (some [])))
   (fun k X=>∃ c,Ix c X∧X.heap[w.heap.size + 1]?=some (.loop (rec .done (some c)))∧X.heap[w.heap.size]?=some (.deferred (some [])))
   ?_ ?_ ⟨hI1,hL1,hK1⟩).mono ?_
  ·intro k A B hs hg'
   rw [hs1] at hg'
   refine ⟨hI k A B _ hs.1 hg' ⟨by omega,Nat.le_refl _⟩,(hg'.block _ (Array.getElem?_eq_some_iff.1 hs.2.1).1 (fun e=>by have:=Option.some.inj e; omega)).trans hs.2.1,(hg'.block _ (Array.getElem?_eq_some_iff.1 hs.2.2).1 (fun e=>by have:=Option.some.inj e; omega)).trans hs.2.2⟩
  ·-- ONE ROUND
   rintro k W c d hkN ⟨hi,hl,hk⟩ hbW hsW hO
   rw [hs1] at hsW hO
   have hlt:w.heap.size + 1 < W.heap.size:=(Array.getElem?_eq_some_iff.1 hl).1
   have hy:=run_yield (P:=Tryz.prog) (args := #[.slice (some ⟨c,0,none⟩) nn d]) hl (by rw [hrec]; simp)
   rw [hrec] at hy
   obtain ⟨W2,hW2⟩:∃ W2,W.putObj (w.heap.size + 1) (.loop { rec .ready none with state := .busy })=W2:=⟨_,rfl⟩
   have hl2:W2.heap[w.heap.size + 1]?=some (.loop { rec .ready none with state := .busy }):=by rw [← hW2]; exact World.putObj_heap_same hlt
   have hg2:W.grownBy W2 (some (w.heap.size + 1)):=by rw [← hW2]; exact grownBy_putObj' W _ _
   have hk2:W2.heap[w.heap.size]?=some (.deferred (some [])):=(hg2.block _ (by omega) (fun e=>by have:=Option.some.inj e; omega)).trans hk
   have hi2:I k W2:=hI k W W2 _ hi hg2 ⟨by omega,by omega⟩
   have hz:w00.heap.size≤w.heap.size:=hb.size
   have hbW2:Below w00.heap.size W W2:=⟨hg2.os,hg2.tape,hg2.output,hg2.size,fun i hj=>hg2.block i (by omega) (fun e=>by have:=Option.some.inj e; omega)⟩
   have hO2:OwnI W2 (w.heap.size + 3) (some ⟨c,0,none⟩) d (seqB nn m k):=by
    refine hO.block15 (hg2.block c ?_ ?_)
    ·exact (hO.at15 (i:=0) (by rw [seqB_length]; exact hn0)).2.2.1
    ·intro e
     have:=(hO.at15 (i:=0) (by rw [seqB_length]; exact hn0)).2.2.2
     have:=Option.some.inj e
     omega
   have hw:=hbody k W2 c d hkN hi2 (hbW.trans hbW2) (Nat.lt_of_lt_of_le hsW hg2.size) hO2
   refine ⟨fn,_,assign,body,hy,roundIn_of_wpIn hfn ?_⟩
   have ht:((#[pt]:Array Tmp).zip #[Value.slice (some ⟨c,0,none⟩) nn d]).foldl (fun tmps (t,a)=>tmps.setIfInBounds t a) a.tmps=a.tmps.setIfInBounds pt (.slice (some ⟨c,0,none⟩) nn d):=by simp
   rw [ht]
   refine hassign c d W _ ⟨W2,?_,?_⟩
   ·rw [← hW2]; exact run_beginRound hl (by rw [hrec])
   refine wpIn_mono hw ?_
   have fin:∀ (jump:Option Code) (W3:World),KpC w00.heap.size [w.heap.size,w.heap.size + 1,w.heap.size + 2,bp] W2 W3 →
     (Instr.endRound (w.heap.size + 1) jump).run Tryz.prog W3 = .ok (.bool jump.isNone) (W3.putObj (w.heap.size + 1) (.loop (rec (if jump.isNone then .ready else .done) jump))) ∧
     (W3.putObj (w.heap.size + 1) (.loop (rec (if jump.isNone then .ready else .done) jump))).heap[w.heap.size + 1]?=some (.loop (rec (if jump.isNone then .ready else .done) jump)) ∧
     (W3.putObj (w.heap.size + 1) (.loop (rec (if jump.isNone then .ready else .done) jump))).heap[w.heap.size]?=some (.deferred (some [])) ∧
     W3.grownBy (W3.putObj (w.heap.size + 1) (.loop (rec (if jump.isNone then .ready else .done) jump))) (some (w.heap.size + 1)):=fun jump W3 hk3=>by
    have hl3:=(hk3.same (w.heap.size + 1) (by simp)).trans hl2
    have:=run_endRound (P:=Tryz.prog) jump hl3
    rw [hrec] at this ⊢
    exact ⟨this,World.putObj_heap_same (Array.getElem?_eq_some_iff.1 hl3).1,(World.putObj_heap_other (by omega)).trans ((hk3.same _ (by simp)).trans hk2),grownBy_putObj' _ _ _⟩
   rintro e a3 W3 hpst
   cases e with
   | normal =>
    obtain ⟨hi3,hk3⟩:=hpst
    obtain ⟨hr,hl4,hk4,hg4⟩:=fin none W3 hk3
    refine ⟨_,_,hr,.inl ⟨rfl,⟨hI _ W3 _ _ hi3 hg4 ⟨by omega,by omega⟩,hl4,hk4⟩,⟨?_,?_,?_⟩⟩⟩
    ·refine (hbW2.trans hk3.b).trans ⟨hg4.os,hg4.tape,hg4.output,hg4.size,fun i hj=>hg4.block i ?_ (fun e=>by have:=Option.some.inj e; omega)⟩
     have:=hk3.b.size
     have:=hg2.size
     omega
    ·rw [hs1]
     exact (World.putObj_heap_other (by omega)).trans ((hk3.same _ (by simp)).trans (hg2.block _ hsW (fun e=>by have:=Option.some.inj e; omega)))
    ·exact (World.putObj_heap_other (by omega)).trans ((hk3.same _ (by simp)).trans (hg2.block _ (by omega) (fun e=>by have:=Option.some.inj e; omega)))
   | ret =>
    obtain ⟨hi3,hk3⟩:=hpst
    obtain ⟨hr,hl4,hk4,hg4⟩:=fin (some .ret) W3 hk3
    exact ⟨_,_,hr,.inr ⟨rfl,.ret,hIx _ W3 _ _ hi3 hg4 ⟨by omega,by omega⟩,hl4,hk4⟩⟩
   | exit id =>
    obtain ⟨hi3,hk3⟩:=hpst
    obtain ⟨hr,hl4,hk4,hg4⟩:=fin (some (.exit id)) W3 hk3
    exact ⟨_,_,hr,.inr ⟨rfl,.exit id,hIx _ W3 _ _ hi3 hg4 ⟨by omega,by omega⟩,hl4,hk4⟩⟩
   | goto t =>
    obtain ⟨hi3,hk3⟩:=hpst
    obtain ⟨hr,hl4,hk4,hg4⟩:=fin (some (.goto t)) W3 hk3
    exact ⟨_,_,hr,.inr ⟨rfl,.goto t,hIx _ W3 _ _ hi3 hg4 ⟨by omega,by omega⟩,hl4,hk4⟩⟩
   | panic ch=>exact hpst.elim
   | outgrown=>exact hpst.elim
  ·-- BEHIND THE ITERATOR
   rintro e W2 ⟨⟨v,rfl⟩,(⟨hi,hl,hk⟩ | ⟨k,c,hi,hl,hk⟩)⟩
   ·refine ⟨none,_,by have:=run_endLoop (P:=Tryz.prog) hl (by rw [hrec]; simp); rw [hrec] at this; exact this,?_⟩
    exact hdone _ (hI _ W2 _ _ hi (grownBy_putObj' _ _ _) ⟨by omega,by omega⟩) ((World.putObj_heap_other (by omega)).trans hk)
   ·refine ⟨some c,_,by have:=run_endLoop (P:=Tryz.prog) hl (by rw [hrec]; simp); rw [hrec] at this; exact this,?_⟩
    exact hstop c _ (hIx c W2 _ _ hi (grownBy_putObj' _ _ _) ⟨by omega,by omega⟩) ((World.putObj_heap_other (by omega)).trans hk)
theorem rowsF_any (w:World) (a0:Option Addr) (c0 n:Nat) (most:Int) (a1 a2:Option Addr) (m1 c1 m2 c2:Nat) :
  Calls Tryz.prog 65 #[.agg (boxV a0 n c0 most a1 m1 c1 a2 m2 c2)] w fun e w' =>
   e = .returned (.func (.func 117) #[] #[.pointer (some ⟨w.heap.size,0,none⟩)])∧w'=w.alloc (.cells (boxV a0 n c0 most a1 m1 c1 a2 m2 c2) 32):=by
 unfold boxV
 go_enter Tryz.func65,Tryz.ntmps65
 go_wp2
 go_ret
 exact ⟨rfl,rfl⟩
end Go.Proofs.YtkoicfghplmghaaGreatDoor

namespace Go.Proofs.YtkoicfghplmghaaGreatDoor
open Go.RowKit Go.Shelf
attribute [local go_sem] Oper.semAt_some
theorem wpListIn_append_row {F:Fence} {nF:Nat} {P:Program} {W:World} {ops:Array Oper} {rest:List Oper} {o:Oper} {a:Act} {Q:Exit→Act→World→Prop} (hgd:o.guard=none) (s x:Operand) (t:TypeId)
  (ho:o.op = .call { callee := .builtin .append,args := #[s,x],argTypes := #[t,t] })
  {e:TypeId} {z:Value} {bytes:Nat} (E:ElemOf P t e z 1 bytes)
  (v u:Value) (hs:a.eval s=v) (hx:a.eval x = .slice (some ⟨W.heap.size,0,none⟩) 1 1)
  {base n:Nat} {xs:List Value} (hown:W.ownsRow base e 1 v n xs) (hbase:base≤W.heap.size)
  (h1:u.oneCell'=true) (h63:n + 1≤4611686018427387904) (hbytes:(n + 1) * bytes≤140737488355328)
  (h:∀ v' w',w'.ownsRow base e 1 v' (n + 1) (xs ++ [u])→(W.alloc (.cells #[u] e)).grownBy w' v.ownBlock→(v'.ownBlock=v.ownBlock∨v'.ownBlock=some (W.alloc (.cells #[u] e)).heap.size)→wpListIn F nF P ops Q rest (a.put o.dst v') w') :
  wpListIn F nF P ops Q (o :: rest) a (W.alloc (.cells #[u] e)):=by
 obtain ⟨i,hi,hz,hsize,hby⟩:=E.info
 exact wpListIn_append_own_at _ hgd s x t ho base e i z 1 bytes E.ht hi hz hsize hby E.hzs E.pos v n xs hs (hown.alloc _) ⟨W.heap.size,0,none⟩ 1 1 [u] hx rfl (cell_one_new W u e) (fun y hy=>by obtain rfl:=List.mem_singleton.1 hy; exact h1) (by unfold maxLen; omega) hbytes (by simp; omega) fun v' w' h2 h3 _ h5=>h v' w' h2 h3 h5
structure OwnW (w:World) (B:Nat) (b:Option Addr) (d n:Nat) (L:List (Nat×Nat)) (ls:Nat→List Int):Prop where
 row:w.ownsRow B 25 1 (.slice b L.length d) L.length (L.map fun x => .slice (some ⟨x.1,0,none⟩) n x.2)
 each:∀ i (h1:i < L.length),OwnI w B (some ⟨L[i].1,0,none⟩) L[i].2 (ls i)
 lens:∀ i,(ls i).length=n
theorem OwnW.nil (w:World) (B n:Nat) (ls:Nat→List Int) (h:∀ i,(ls i).length=n):OwnW w B none 0 n [] ls:=⟨⟨rfl,.inl ⟨rfl,rfl⟩⟩,fun i h1=>by simp at h1,h⟩
theorem ownI_lt15 {w:World} {B c g:Nat} {l:List Int} (h:OwnI w B (some ⟨g,0,none⟩) c l):B≤g∧g < w.heap.size:=World.ownsRow.lt h g rfl
theorem OwnW.kept {w w':World} {B r:Nat} {b:Option Addr} {d n:Nat} {L:List (Nat×Nat)} {ls:Nat→List Int} (h:OwnW w B b d n L ls) (hg:w.grownBy w' (some r)) (hr:r < B):OwnW w' B b d n L ls:=by
 refine ⟨h.row.kept hg (.inr fun e=>?_),fun i h1=>(h.each i h1).block15 (hg.block _ (ownI_lt15 (h.each i h1)).2 fun e=>?_),h.lens⟩
 ·have:=(h.row.lt r e).1
  omega
 ·have:=(ownI_lt15 (h.each i h1)).1
  have:=Option.some.inj e
  omega
theorem OwnW.below {w w':World} {B B':Nat} {b:Option Addr} {d n:Nat} {L:List (Nat×Nat)} {ls:Nat→List Int} (h:OwnW w B b d n L ls) (hb:Below B' w w') (hB:w.heap.size≤B'):OwnW w' B b d n L ls :=
 ⟨own_below h.row hb hB,fun i h1=>(h.each i h1).block15 (hb.block _ (by have:=(ownI_lt15 (h.each i h1)).2; omega)),h.lens⟩
theorem OwnW.lower {w:World} {B B':Nat} {b:Option Addr} {d n:Nat} {L:List (Nat×Nat)} {ls:Nat→List Int} (h:OwnW w B b d n L ls) (hb:B'≤B):OwnW w B' b d n L ls :=
 ⟨⟨h.row.1,h.row.2.imp id fun ⟨g,cap,cur,h1,h2,h3⟩=>⟨g,cap,cur,h1,Nat.le_trans hb h2,h3⟩⟩,fun i h1=>(h.each i h1).lower15 hb,h.lens⟩
theorem ownW_apart {w:World} {B1 B2 s1 s2 n1 n2:Nat} {e1 e2:TypeId} {v1 v2:Value} {x1 x2:List Value} (h1:w.ownsRow B1 e1 s1 v1 n1 x1) (h2:w.ownsRow B2 e2 s2 v2 n2 x2) (hne:e1≠e2) :
  ∀ k,v1.ownBlock=some k→v2.ownBlock≠some k:=by
 intro k hk hk2
 rcases h1.2 with ⟨rfl,_⟩ | ⟨g,cap,cur,rfl,_,hg,_⟩
 ·simp [Value.ownBlock] at hk
 ·rcases h2.2 with ⟨rfl,_⟩ | ⟨g2,cap2,cur2,rfl,_,hg2,_⟩
  ·simp [Value.ownBlock] at hk2
  ·simp only [Value.ownBlock,Option.some.injEq] at hk hk2
   subst hk
   subst hk2
   rw [hg] at hg2
   simp only [Option.some.injEq,Obj.cells.injEq] at hg2
   exact hne hg2.2.1
theorem OwnW.put {w1 w3:World} {B d n c g:Nat} {b:Option Addr} {L:List (Nat×Nat)} {ls:Nat→List Int} {v':Value} (h:OwnW w1 B b d n L ls) (ho:OwnI w1 B (some ⟨g,0,none⟩) c (ls L.length))
  (hown:w3.ownsRow B 25 1 v' (L.length + 1) ((L.map fun x=>Value.slice (some ⟨x.1,0,none⟩) n x.2) ++ [.slice (some ⟨g,0,none⟩) n c])) (hg:(w1.alloc (.cells #[.slice (some ⟨g,0,none⟩) n c] 25)).grownBy w3 (Value.slice b L.length d).ownBlock) :
  ∃ b' d',v' = .slice b' (L.length + 1) d'∧OwnW w3 B b' d' n (L ++ [(g,c)]) ls:=by
 obtain ⟨b',d',rfl⟩:=own_form hown
 have hA:Below w1.heap.size w1 (w1.alloc (.cells #[.slice (some ⟨g,0,none⟩) n c] 25)):=(Below.refl _ _).alloc nr_ _
 have hrow:=own_below h.row hA nr_
 have keep:∀ (a2:Option Addr) (c2:Nat) (l2:List Int),OwnI w1 B a2 c2 l2→OwnI w3 B a2 c2 l2:=fun a2 c2 l2 h2=>by
  have h3:OwnI _ B a2 c2 l2:=h2.below hA nr_
  unfold OwnI at h3 ⊢
  refine World.ownsRow.kept h3 hg ?_
  have hap:=ownW_apart hrow h3 (by decide)
  cases hv:(Value.slice b L.length d).ownBlock with
  | none=>cases hv2:(Value.slice a2 l2.length c2).ownBlock <;> simp
  | some k=>exact .inr (hap k hv)
 refine ⟨b',d',rfl,?_,?_,h.lens⟩
 ·rw [List.length_append,List.map_append]
  exact hown
 ·intro i h1
  by_cases hi:i < L.length
  ·simp only [List.getElem_append_left hi]
   exact keep _ _ _ (h.each i hi)
  ·have e:i=L.length:=by simp at h1; omega
   subst e
   simp only [List.getElem_append_right nr_,Nat.sub_self,List.getElem_cons_zero]
   exact keep _ _ _ ho
end Go.Proofs.YtkoicfghplmghaaGreatDoor

namespace Go.Proofs.YtkoicfghplmghaaGreatDoor
def SoB (G:Nat→Nat) (a b:Nat):Prop:=∀ i j,a≤i→i < j→j < b→G i < G j
structure PmB (F F':Nat→Nat) (a b:Nat):Prop where
 out:∀ k,k < a∨b≤k→F' k=F k
 src:∀ k,a≤k→k < b→∃ m,a≤m∧m < b∧F' k=F m
theorem PmB.refl (F:Nat→Nat) (a b:Nat):PmB F F a b:=⟨fun _ _=>rfl,fun k h1 h2=>⟨k,h1,h2,rfl⟩⟩
theorem PmB.trans {F F' F'':Nat→Nat} {a b:Nat} (h:PmB F F' a b) (k:PmB F' F'' a b):PmB F F'' a b :=
 ⟨fun i hi=>(k.out i hi).trans (h.out i hi),fun i h1 h2=>by
  obtain ⟨m,m1,m2,e⟩:=k.src i h1 h2
  obtain ⟨l,l1,l2,e2⟩:=h.src m m1 m2
  exact ⟨l,l1,l2,e.trans e2⟩⟩
theorem PmB.wide {F F':Nat→Nat} {a b c d:Nat} (h:PmB F F' c d) (h1:a≤c) (h2:d≤b):PmB F F' a b :=
 ⟨fun i hi=>h.out i (by omega),fun i h3 h4=>by
  by_cases hc:c≤i∧i < d
  ·obtain ⟨m,m1,m2,e⟩:=h.src i hc.1 hc.2
   exact ⟨m,by omega,by omega,e⟩
  ·exact ⟨i,h3,h4,h.out i (by omega)⟩⟩
def rotF (F:Nat→Nat) (lo i j k:Nat):Nat:=if k < lo then F k else if k < lo + j then F (k + i) else if k < lo + i + j then F (k - j) else F k
def swR (F:Nat→Nat) (a b n k:Nat):Nat:=if a≤k∧k < a + n then F (k - a + b) else if b≤k∧k < b + n then F (k - b + a) else F k
def sw2 (F:Nat→Nat) (x y k:Nat):Nat:=if k=x then F y else if k=y then F x else F k
theorem rot_gt {F:Nat→Nat} {lo i j:Nat} (h:j < i) (h0:0 < j):rotF (swR F lo (lo + i) j) (lo + j) (i - j) j=rotF F lo i j:=by
 funext k
 unfold rotF swR
 repeat' split
 all_goals first | rfl | omega | (congr 1; omega)
theorem rot_lt {F:Nat→Nat} {lo i j:Nat} (h:i < j) (h0:0 < i):rotF (swR F lo (lo + j) i) lo i (j - i)=rotF F lo i j:=by
 funext k
 unfold rotF swR
 repeat' split
 all_goals first | rfl | omega | (congr 1; omega)
theorem rot_eq (F:Nat→Nat) (lo i:Nat):swR F lo (lo + i) i=rotF F lo i i:=by
 funext k
 unfold rotF swR
 repeat' split
 all_goals first | rfl | omega | (congr 1; omega)
theorem swR_zero (F:Nat→Nat) (a b:Nat):swR F a b 0=F:=by
 funext k
 unfold swR
 rw [if_neg (by omega),if_neg (by omega)]
theorem swR_succ {F:Nat→Nat} {a b n t:Nat} (h:a + n≤b) (ht:t < n):sw2 (swR F a b t) (a + t) (b + t)=swR F a b (t + 1):=by
 funext k
 unfold sw2 swR
 repeat' split
 all_goals first | rfl | omega | (congr 1; omega)
theorem rotF_up (F:Nat→Nat) (a t:Nat):sw2 (rotF F a 1 t) (a + t) (a + t + 1)=rotF F a 1 (t + 1):=by
 funext k
 unfold sw2 rotF
 repeat' split
 all_goals first | rfl | omega | (congr 1; omega)
theorem rotF_dn (F:Nat→Nat) (l t:Nat):sw2 (rotF F (l + 1) t 1) (l + 1) l=rotF F l (t + 1) 1:=by
 funext k
 unfold sw2 rotF
 repeat' split
 all_goals first | rfl | omega | (congr 1; omega)
theorem rotF_z1 (F:Nat→Nat) (l i:Nat):rotF F l i 0=F:=by
 funext k
 unfold rotF
 repeat' split
 all_goals first | rfl | omega
theorem rotF_z2 (F:Nat→Nat) (l j:Nat):rotF F l 0 j=F:=by
 funext k
 unfold rotF
 repeat' split
 all_goals first | rfl | omega | (congr 1; omega)
theorem rotF_comp (r F:Nat→Nat) (l i j k:Nat):r (rotF F l i j k)=rotF (fun x=>r (F x)) l i j k:=by
 unfold rotF
 repeat' split
 all_goals rfl
theorem rotF_pm (F:Nat→Nat) {l i j a b:Nat} (h1:a≤l) (h2:l + i + j≤b):PmB F (rotF F l i j) a b:=by
 refine ⟨fun k hk=>?_,fun k h3 h4=>?_⟩
 ·unfold rotF
  repeat' split
  all_goals first | rfl | omega
 ·unfold rotF
  repeat' split
  ·exact ⟨k,h3,h4,rfl⟩
  ·exact ⟨k + i,by omega,by omega,rfl⟩
  ·exact ⟨k - j,by omega,by omega,rfl⟩
  ·exact ⟨k,h3,h4,rfl⟩
theorem sw2_pm (F:Nat→Nat) {x y a b:Nat} (h1:a≤x) (h2:x < b) (h3:a≤y) (h4:y < b):PmB F (sw2 F x y) a b:=by
 refine ⟨fun k hk=>?_,fun k h5 h6=>?_⟩
 ·unfold sw2
  rw [if_neg (by omega),if_neg (by omega)]
 ·unfold sw2
  repeat' split
  ·exact ⟨y,h3,h4,rfl⟩
  ·exact ⟨x,h1,h2,rfl⟩
  ·exact ⟨k,h5,h6,rfl⟩
theorem ins_up {G:Nat→Nat} {a b i:Nat} (h:SoB G (a + 1) b) (h1:a + 1≤i) (h2:i≤b) (hl:∀ k,a + 1≤k→k < i→G k < G a) (hg:∀ k,i≤k→k < b→G a < G k):SoB (rotF G a 1 (i - 1 - a)) a b:=by
 intro x y hx hxy hy
 have val:∀ z,a≤z→z < b→(z + 1 < i∧rotF G a 1 (i - 1 - a) z=G (z + 1))∨(z + 1=i∧rotF G a 1 (i - 1 - a) z=G a)∨(i≤z∧rotF G a 1 (i - 1 - a) z=G z):=by
  intro z h3 h4
  unfold rotF
  repeat' split
  ·omega
  ·exact .inl ⟨by omega,rfl⟩
  ·exact .inr (.inl ⟨by omega,by congr 1; omega⟩)
  ·exact .inr (.inr ⟨by omega,rfl⟩)
 rcases val x hx (by omega) with ⟨c1,e1⟩ | ⟨c1,e1⟩ | ⟨c1,e1⟩ <;> rcases val y (by omega) hy with ⟨c2,e2⟩ | ⟨c2,e2⟩ | ⟨c2,e2⟩ <;> rw [e1,e2]
 ·exact h _ _ (by omega) (by omega) (by omega)
 ·exact hl _ (by omega) (by omega)
 ·exact h _ _ (by omega) (by omega) (by omega)
 ·omega
 ·omega
 ·exact hg _ (by omega) (by omega)
 ·omega
 ·omega
 ·exact h _ _ (by omega) (by omega) (by omega)
theorem ins_dn {G:Nat→Nat} {a m i:Nat} (h:SoB G a m) (h1:a≤i) (h2:i≤m) (hl:∀ k,a≤k→k < i→G k < G m) (hg:∀ k,i≤k→k < m→G m < G k):SoB (rotF G i (m - i) 1) a (m + 1):=by
 intro x y hx hxy hy
 have val:∀ z,a≤z→z < m + 1→(z < i∧rotF G i (m - i) 1 z=G z)∨(z=i∧rotF G i (m - i) 1 z=G m)∨(i < z∧rotF G i (m - i) 1 z=G (z - 1)):=by
  intro z h3 h4
  unfold rotF
  repeat' split
  ·exact .inl ⟨by omega,rfl⟩
  ·exact .inr (.inl ⟨by omega,by congr 1; omega⟩)
  ·exact .inr (.inr ⟨by omega,rfl⟩)
  ·omega
 rcases val x hx (by omega) with ⟨c1,e1⟩ | ⟨c1,e1⟩ | ⟨c1,e1⟩ <;> rcases val y (by omega) hy with ⟨c2,e2⟩ | ⟨c2,e2⟩ | ⟨c2,e2⟩ <;> rw [e1,e2]
 ·exact h _ _ (by omega) (by omega) (by omega)
 ·exact hl _ (by omega) (by omega)
 ·exact h _ _ (by omega) (by omega) (by omega)
 ·omega
 ·omega
 ·exact hg _ (by omega) (by omega)
 ·omega
 ·omega
 ·exact h _ _ (by omega) (by omega) (by omega)
theorem rot_parts {G:Nat→Nat} {a m b s e mid:Nat} (h1:SoB G a m) (h2:SoB G m b) (q1:a≤s) (q2:s≤m) (q3:m≤e) (q4:e≤b) (hmid:mid + m=s + e)
  (x1:∀ i j,a≤i→i < s→e≤j→j < b→G i < G j) (x2:∀ i j,m≤i→i < e→s≤j→j < m→G i < G j) :
  SoB (rotF G s (m - s) (e - m)) a s∧SoB (rotF G s (m - s) (e - m)) s mid∧SoB (rotF G s (m - s) (e - m)) mid e∧SoB (rotF G s (m - s) (e - m)) e b ∧
  ∀ i j,a≤i→i < mid→mid≤j→j < b→rotF G s (m - s) (e - m) i < rotF G s (m - s) (e - m) j:=by
 have v1:∀ z,z < s→rotF G s (m - s) (e - m) z=G z:=fun z hz=>by unfold rotF; rw [if_pos hz]
 have v2:∀ z,s≤z→z < mid→rotF G s (m - s) (e - m) z=G (z + (m - s)):=fun z hz hz2=>by unfold rotF; rw [if_neg (by omega),if_pos (by omega)]
 have v3:∀ z,mid≤z→z < e→rotF G s (m - s) (e - m) z=G (z - (e - m)):=fun z hz hz2=>by unfold rotF; rw [if_neg (by omega),if_neg (by omega),if_pos (by omega)]
 have v4:∀ z,e≤z→rotF G s (m - s) (e - m) z=G z:=fun z hz=>by unfold rotF; rw [if_neg (by omega),if_neg (by omega),if_neg (by omega)]
 refine ⟨fun x y c1 c2 c3=>?_,fun x y c1 c2 c3=>?_,fun x y c1 c2 c3=>?_,fun x y c1 c2 c3=>?_,fun x y c1 c2 c3 c4=>?_⟩
 ·rw [v1 x (by omega),v1 y (by omega)]; exact h1 _ _ (by omega) c2 (by omega)
 ·rw [v2 x (by omega) (by omega),v2 y (by omega) (by omega)]; exact h2 _ _ (by omega) (by omega) (by omega)
 ·rw [v3 x (by omega) (by omega),v3 y (by omega) (by omega)]; exact h1 _ _ (by omega) (by omega) (by omega)
 ·rw [v4 x (by omega),v4 y (by omega)]; exact h2 _ _ (by omega) (by omega) (by omega)
 ·by_cases k1:x < s
  ·rw [v1 x k1]
   by_cases k2:y < e
   ·rw [v3 y c3 k2]; exact h1 _ _ c1 (by omega) (by omega)
   ·rw [v4 y (by omega)]; exact x1 _ _ c1 k1 (by omega) c4
  ·rw [v2 x (by omega) c2]
   by_cases k2:y < e
   ·rw [v3 y c3 k2]; exact x2 _ _ (by omega) (by omega) (by omega) (by omega)
   ·rw [v4 y (by omega)]; exact h2 _ _ (by omega) (by omega) c4
theorem join_parts {r F F':Nat→Nat} {a mid b:Nat} (hx:∀ i j,a≤i→i < mid→mid≤j→j < b→r (F i) < r (F j)) (p1:PmB F F' a mid) :
  ∀ i j,a≤i→i < mid→mid≤j→j < b→r (F' i) < r (F' j):=fun i j c1 c2 c3 c4=>by
 obtain ⟨m,m1,m2,e⟩:=p1.src i c1 c2
 rw [e,p1.out j (by omega)]
 exact hx _ _ m1 m2 c3 c4
theorem join_parts2 {r F F':Nat→Nat} {a mid b:Nat} (hx:∀ i j,a≤i→i < mid→mid≤j→j < b→r (F i) < r (F j)) (p1:PmB F F' mid b) :
  ∀ i j,a≤i→i < mid→mid≤j→j < b→r (F' i) < r (F' j):=fun i j c1 c2 c3 c4=>by
 obtain ⟨m,m1,m2,e⟩:=p1.src j c3 c4
 rw [e,p1.out i (by omega)]
 exact hx _ _ c1 c2 m1 m2
theorem SoB.join {G:Nat→Nat} {a mid b:Nat} (h1:SoB G a mid) (h2:SoB G mid b) (hx:∀ i j,a≤i→i < mid→mid≤j→j < b→G i < G j):SoB G a b:=fun i j c1 c2 c3=>by
 by_cases k1:j < mid
 ·exact h1 i j c1 c2 k1
 ·by_cases k2:i < mid
  ·exact hx i j c1 k2 (by omega) c3
  ·exact h2 i j (by omega) c2 c3
theorem SoB.out {r F F':Nat→Nat} {a b c d:Nat} (h:SoB (fun k=>r (F k)) a b) (p:PmB F F' c d) (hd:b≤c∨d≤a):SoB (fun k=>r (F' k)) a b:=fun i j c1 c2 c3=>by
 show r (F' i) < r (F' j)
 rw [p.out i (by omega),p.out j (by omega)]
 exact h i j c1 c2 c3
theorem SoB.one (G:Nat→Nat) (a b:Nat) (h:b≤a + 1):SoB G a b:=fun i j c1 c2 c3=>by omega
structure CutAt (G:Nat→Nat) (lo hi p s:Nat):Prop where
 le1:lo≤s
 le2:s≤hi
 below:∀ c,lo≤c→c < s→G c < G (p - c)
 above:∀ c,s≤c→c < hi→G (p - c) < G c
theorem CutAt.cross {G:Nat→Nat} {a m b mid lo hi s:Nat} (h1:SoB G a m) (h2:SoB G m b) (hmid:2 * mid≤a + b∧a + b≤2 * mid + 1)
  (hlo:lo=if mid < m then mid + m - b else a) (hhi:hi=if mid < m then mid else m) (C:CutAt G lo hi (mid + m - 1) s) :
  a≤s∧s≤m∧m≤mid + m - s∧mid + m - s≤b∧s≤mid∧(∀ i j,a≤i→i < s→mid + m - s≤j→j < b→G i < G j)∧(∀ i j,m≤i→i < mid + m - s→s≤j→j < m→G i < G j):=by
 have c1:=C.le1
 have c2:=C.le2
 have le1:∀ i j,a≤i→i≤j→j < m→G i≤G j:=fun i j x1 x2 x3=>by
  rcases Nat.lt_or_ge i j with h | h
  ·exact Nat.le_of_lt (h1 i j x1 h x3)
  ·rw [show i=j by omega]; exact Nat.le_refl _
 have le2:∀ i j,m≤i→i≤j→j < b→G i≤G j:=fun i j x1 x2 x3=>by
  rcases Nat.lt_or_ge i j with h | h
  ·exact Nat.le_of_lt (h2 i j x1 h x3)
  ·rw [show i=j by omega]; exact Nat.le_refl _
 have hb:a≤s∧s≤m∧m≤mid + m - s∧mid + m - s≤b∧s≤mid:=by
  by_cases hc:mid < m
  ·rw [if_pos hc] at hlo hhi; omega
  ·rw [if_neg hc] at hlo hhi; omega
 refine ⟨hb.1,hb.2.1,hb.2.2.1,hb.2.2.2.1,hb.2.2.2.2,fun i j x1 x2 x3 x4=>?_,fun i j x1 x2 x3 x4=>?_⟩
 ·have hne:lo < s:=by
   by_cases hc:mid < m
   ·rw [if_pos hc] at hlo; omega
   ·rw [if_neg hc] at hlo; omega
  have h3:=C.below (s - 1) (by omega) (by omega)
  rw [show mid + m - 1 - (s - 1)=mid + m - s by omega] at h3
  have h4:=le1 i (s - 1) x1 (by omega) (by omega)
  have h5:=le2 (mid + m - s) j (by omega) x3 x4
  omega
 ·have hne:s < hi:=by
   by_cases hc:mid < m
   ·rw [if_pos hc] at hhi; omega
   ·rw [if_neg hc] at hhi; omega
  have h3:=C.above s nr_ hne
  have h4:=le2 i (mid + m - 1 - s) x1 (by omega) (by omega)
  have h5:=le1 s j (by omega) x3 x4
  omega
theorem cut_up {G:Nat→Nat} {a m b mid lo hi:Nat} (h1:SoB G a m) (h2:SoB G m b) (hm1:a < m) (hm2:m < b) (hmid:2 * mid≤a + b∧a + b≤2 * mid + 1)
  (hlo:lo=if mid < m then mid + m - b else a) (hhi:hi=if mid < m then mid else m) (c:Nat) (_:lo≤c) (q2:c < hi) (hG:G c < G (mid + m - 1 - c)):∀ d,lo≤d→d < c + 1→G d < G (mid + m - 1 - d):=fun d d1 d2=>by
 rcases Nat.lt_or_ge d c with h | h
 ·have e1:G d < G c:=h1 d c (by split at hlo <;> omega) h (by split at hhi <;> omega)
  have e2:G (mid + m - 1 - c) < G (mid + m - 1 - d):=h2 _ _ (by split at hhi <;> omega) (by split at hhi <;> omega) (by split at hlo <;> omega)
  omega
 ·rw [show d=c by omega]; exact hG
theorem cut_dn {G:Nat→Nat} {a m b mid lo hi:Nat} (h1:SoB G a m) (h2:SoB G m b) (hm1:a < m) (hm2:m < b) (hmid:2 * mid≤a + b∧a + b≤2 * mid + 1)
  (hlo:lo=if mid < m then mid + m - b else a) (hhi:hi=if mid < m then mid else m) (c:Nat) (q1:lo≤c) (q2:c < hi) (hG:G (mid + m - 1 - c) < G c):∀ d,c≤d→d < hi→G (mid + m - 1 - d) < G d:=fun d d1 d2=>by
 rcases Nat.lt_or_ge c d with h | h
 ·have e1:G c < G d:=h1 c d (by split at hlo <;> omega) h (by split at hhi <;> omega)
  have e2:G (mid + m - 1 - d) < G (mid + m - 1 - c):=h2 _ _ (by split at hhi <;> omega) (by split at hhi <;> omega) (by split at hlo <;> omega)
  omega
 ·rw [show d=c by omega]; exact hG
structure InsB (G:Nat→Nat) (a i j:Nat):Prop where
 ord:∀ x y,a≤x→x < y→y≤i→x≠j→y≠j→G x < G y
 hi:∀ y,j < y→y≤i→G j < G y
 aj:a≤j
 ji:j≤i
theorem InsB.start {G:Nat→Nat} {a i:Nat} (h:SoB G a i) (ha:a≤i):InsB G a i i :=
 ⟨fun x y h1 h2 h3 _ h5=>h x y h1 h2 (by omega),fun y h1 h2=>by omega,ha,Nat.le_refl _⟩
theorem InsB.stop {G:Nat→Nat} {a i j:Nat} (h:InsB G a i j) (hs:j=a∨G (j - 1) < G j):SoB G a (i + 1):=fun x y h1 h2 h3=>by
 have haj:=h.aj
 have hji:=h.ji
 by_cases hy:y=j
 ·subst hy
  rcases hs with h0 | h0
  ·omega
  ·rcases Nat.lt_or_ge x (y - 1) with h4 | h4
   ·exact Nat.lt_trans (h.ord x (y - 1) h1 h4 (by omega) (by omega) (by omega)) h0
   ·rw [show x=y - 1 by omega]; exact h0
 ·by_cases hx:x=j
  ·subst hx; exact h.hi y h2 (by omega)
  ·exact h.ord x y h1 h2 (by omega) hx hy
theorem InsB.swap {G:Nat→Nat} {a i j:Nat} (h:InsB G a i (j + 1)) (ha:a≤j) (hs:G (j + 1) < G j):InsB (sw2 G (j + 1) j) a i j:=by
 have hji:=h.ji
 have s1:sw2 G (j + 1) j (j + 1)=G j:=by unfold sw2; rw [if_pos rfl]
 have s2:sw2 G (j + 1) j j=G (j + 1):=by unfold sw2; rw [if_neg (by omega),if_pos rfl]
 have s3:∀ k,k≠j→k≠j + 1→sw2 G (j + 1) j k=G k:=fun k h1 h2=>by unfold sw2; rw [if_neg h2,if_neg h1]
 refine ⟨fun x y h1 h2 h3 h4 h5=>?_,fun y h1 h2=>?_,ha,by omega⟩
 ·by_cases hx:x=j + 1
  ·subst hx
   rw [s1,s3 y h5 (by omega)]
   exact h.ord j y ha (by omega) h3 (by omega) (by omega)
  ·rw [s3 x h4 hx]
   by_cases hy:y=j + 1
   ·subst hy
    rw [s1]
    exact h.ord x j h1 (by omega) (by omega) hx (by omega)
   ·rw [s3 y h5 hy]
    exact h.ord x y h1 h2 h3 hx hy
 ·rw [s2]
  by_cases hy:y=j + 1
  ·subst hy; rw [s1]; exact hs
  ·rw [s3 y (by omega) hy]; exact h.hi y (by omega) h2
theorem sw2_comp (r F:Nat→Nat) (x y k:Nat):r (sw2 F x y k)=sw2 (fun z=>r (F z)) x y k:=by
 unfold sw2
 repeat' split
 all_goals rfl
end Go.Proofs.YtkoicfghplmghaaGreatDoor

namespace Go.Proofs.YtkoicfghplmghaaGreatDoor
def Bef (c:Nat→Nat→Int) (u v:Nat):Prop:=c u v < 0∨(c u v=0∧u < v)
structure Pre (c:Nat→Nat→Int) (n:Nat):Prop where
 neg:∀ u v,c v u = - c u v
 tr:∀ u v w,u < n→v < n→w < n→c u v≤0→c v w≤0→c u w≤0
theorem Pre.bef_tr {c:Nat→Nat→Int} {n:Nat} (h:Pre c n) {u v w:Nat} (hu:u < n) (hv:v < n) (hw:w < n) (h1:Bef c u v) (h2:Bef c v w):Bef c u w:=by
 have n1:=h.neg u v
 have n2:=h.neg v w
 have n3:=h.neg u w
 have a1:c u v≤0:=by rcases h1 with h1 | h1 <;> omega
 have a2:c v w≤0:=by rcases h2 with h2 | h2 <;> omega
 have a3:=h.tr u v w hu hv hw a1 a2
 unfold Bef
 rcases Int.lt_or_eq_of_le a3 with h3 | h3
 ·exact .inl h3
 ·have a4:=h.tr v w u hv hw hu a2 (by omega)
  have a5:=h.tr w u v hw hu hv (by omega) a1
  refine .inr ⟨h3,?_⟩
  rcases h1 with h1 | ⟨h1,h1'⟩
  ·omega
  ·rcases h2 with h2 | ⟨h2,h2'⟩
   ·omega
   ·omega
theorem Pre.bef_or {c:Nat→Nat→Int} {n:Nat} (h:Pre c n) {u v:Nat} (hne:u≠v):Bef c u v∨Bef c v u:=by
 have n1:=h.neg u v
 unfold Bef
 omega
theorem Pre.bef_not {c:Nat→Nat→Int} {n:Nat} (h:Pre c n) {u v:Nat} (h1:Bef c u v):¬ Bef c v u:=by
 have n1:=h.neg u v
 unfold Bef at *
 omega
instance (c:Nat→Nat→Int) (u v:Nat):Decidable (Bef c u v):=inferInstanceAs (Decidable (_∨_))
theorem countP_lt {α:Type} {p q : α→Bool}:∀ {l:List α},(∀ x∈l,p x=true→q x=true)→∀ {u : α},u∈l→q u=true→p u=false→l.countP p < l.countP q
 | [],_,u,hu,_,_=>by cases hu
 | x :: l,h,u,hu,h1,h2=>by
  have hl:∀ y∈l,p y=true→q y=true:=fun y hy=>h y (List.mem_cons_of_mem _ hy)
  have hle:l.countP p≤l.countP q:=List.countP_mono_left hl
  rcases List.mem_cons.1 hu with rfl | hu
  ·rw [List.countP_cons_of_neg (by simp [h2]),List.countP_cons_of_pos (by simpa using h1)]
   omega
  ·have ih:=countP_lt hl hu h1 h2
   have hx:=h x List.mem_cons_self
   rw [List.countP_cons,List.countP_cons]
   cases hp:p x
   ·simp; omega
   ·rw [hx hp]; simp; omega
def rkB (c:Nat→Nat→Int) (n u:Nat):Nat:=(List.range n).countP fun v=>decide (Bef c v u)
theorem rkB_lt {c:Nat→Nat→Int} {n:Nat} (h:Pre c n) {u v:Nat} (hu:u < n) (hv:v < n) (hb:Bef c u v):rkB c n u < rkB c n v:=by
 refine countP_lt (u:=u) (fun x hx hp=>?_) (List.mem_range.2 hu) (by simpa using hb) ?_
 ·exact decide_eq_true (h.bef_tr (List.mem_range.1 hx) hu hv (of_decide_eq_true hp) hb)
 ·exact decide_eq_false fun hc=>h.bef_not hc hc
theorem rkB_iff {c:Nat→Nat→Int} {n:Nat} (h:Pre c n) {u v:Nat} (hu:u < n) (hv:v < n):rkB c n u < rkB c n v↔Bef c u v:=by
 refine ⟨fun hr=>?_,rkB_lt h hu hv⟩
 refine Classical.byContradiction fun hc=>?_
 by_cases e:u=v
 ·subst e; omega
 ·rcases h.bef_or e with h1 | h1
  ·exact hc h1
  ·have:=rkB_lt h hv hu h1; omega
theorem rkB_inj {c:Nat→Nat→Int} {n:Nat} (h:Pre c n) {u v:Nat} (hu:u < n) (hv:v < n) (e:rkB c n u=rkB c n v):u=v:=by
 refine Classical.byContradiction fun hc=>?_
 rcases h.bef_or hc with h1 | h1
 ·have:=rkB_lt h hu hv h1; omega
 ·have:=rkB_lt h hv hu h1; omega
theorem rkB_bd {c:Nat→Nat→Int} {n:Nat} (h:Pre c n) {u:Nat} (hu:u < n):rkB c n u < n:=by
 have:rkB c n u < (List.range n).countP fun _=>true:=countP_lt (u:=u) (fun _ _ _=>rfl) (List.mem_range.2 hu) rfl (decide_eq_false fun hc=>h.bef_not hc hc)
 simpa using this
theorem up_id {G:Nat→Nat} {n:Nat} (h:∀ k,k + 1 < n→G k < G (k + 1)) (hb:∀ k,k < n→G k < n):∀ k,k < n→G k=k:=by
 have lo:∀ k,k < n→k≤G k:=fun k=>by
  induction k with
  | zero=>intro _; exact Nat.zero_le _
  | succ k ih=>intro hk; have:=ih (by omega); have:=h k hk; omega
 have hi:∀ d k,k + d + 1=n→G k≤k:=fun d=>by
  induction d with
  | zero=>intro k hk; have:=hb k (by omega); omega
  | succ d ih=>intro k hk; have:=ih (k + 1) (by omega); have:=h k (by omega); omega
 intro k hk
 have:=lo k hk
 have:=hi (n - 1 - k) k (by omega)
 omega
theorem Fin'.rank {c:Nat→Nat→Int} {n:Nat} {F:Nat→Nat} (h:Fin' c n F) (p:Pre c n):∀ k,k < n→rkB c n (F k)=k :=
 up_id (G:=fun k=>rkB c n (F k)) (fun k hk=>rkB_lt p (h.lt k (by omega)) (h.lt _ hk) (by
  obtain ⟨h1,h2⟩:=h.adj k hk
  have:=p.neg (F k) (F (k + 1))
  unfold Bef
  omega)) fun k hk=>rkB_bd p (h.lt k hk)
theorem Fin'.unique {c:Nat→Nat→Int} {n:Nat} {F G:Nat→Nat} (h:Fin' c n F) (g:Fin' c n G) (p:Pre c n) (k:Nat) (hk:k < n):F k=G k :=
 rkB_inj p (h.lt k hk) (g.lt k hk) ((h.rank p k hk).trans (g.rank p k hk).symm)
theorem Fin'.of_rank {c:Nat→Nat→Int} {n:Nat} {F:Nat→Nat} (p:Pre c n) (hs:SoB (fun k=>rkB c n (F k)) 0 n) (hp:PmB (fun k=>k) F 0 n):Fin' c n F:=by
 have hlt:∀ k,k < n→F k < n:=fun k hk=>by
  obtain ⟨m,_,hm,e⟩:=hp.src k (Nat.zero_le _) hk
  rw [e]; exact hm
 refine ⟨hlt,fun k m hk hm e=>?_,fun k hk=>?_⟩
 ·refine Classical.byContradiction fun hne=>?_
  rcases Nat.lt_or_gt_of_ne hne with h1 | h1
  ·have:=hs k m (Nat.zero_le _) h1 hm
   simp only [e] at this; omega
  ·have:=hs m k (Nat.zero_le _) h1 hk
   simp only [e] at this; omega
 ·have h1:=(rkB_iff p (hlt k (by omega)) (hlt _ hk)).1 (hs k (k + 1) (Nat.zero_le _) (by omega) hk)
  have:=p.neg (F k) (F (k + 1))
  unfold Bef at h1
  unfold Ok
  omega
end Go.Proofs.YtkoicfghplmghaaGreatDoor

namespace Go.Proofs.YtkoicfghplmghaaGreatDoor
open Go.RowKit
structure CmpR (c:Nat→Nat→Int) (r:Nat→Nat) (n:Nat):Prop where
 iff:∀ x y,x < n→y < n→x < y→(c y x < 0↔r y < r x)
 inj:∀ x y,x < n→y < n→r x=r y→x=y
 bd:∀ u v,-1≤c u v∧c u v≤1
theorem CmpR.of {c:Nat→Nat→Int} {n:Nat} (p:Pre c n) (hb:∀ u v,-1≤c u v∧c u v≤1):CmpR c (rkB c n) n:=by
 refine ⟨fun x y hx hy hxy=>?_,fun x y hx hy e=>rkB_inj p hx hy e,hb⟩
 rw [rkB_iff p hy hx]
 unfold Bef
 omega
theorem CmpR.no {c:Nat→Nat→Int} {r:Nat→Nat} {n:Nat} (h:CmpR c r n) {x y:Nat} (hx:x < n) (hy:y < n) (hxy:x < y) (hc:¬ c y x < 0):r x < r y:=by
 have h1:=h.iff x y hx hy hxy
 have h2:=h.inj x y hx hy
 omega
theorem RowF.sw2 {W:World} {g n:Nat} {F:Nat→Nat} (h:RowF W g n F) (x y:Nat) (hx:x < n) (hy:y < n) (hxy:x≠y) :
  RowF ((W.setCell ⟨g,x,none⟩ (.int .i64 (F y:Nat))).setCell ⟨g,y,none⟩ (.int .i64 (F x:Nat))) g n (sw2 F x y):=by
 have h0:=h.cell x hx
 have h1:=h.cell y hy
 have ne:∀ a b:Nat,a≠b→(⟨g,a,none⟩:Addr)≠⟨g,b,none⟩:=fun a b hab e=>by cases e; exact hab rfl
 refine ⟨by simpa using h.lt,fun k hk=>?_,fun k=>?_⟩
 ·unfold Go.Proofs.YtkoicfghplmghaaGreatDoor.sw2
  by_cases k2:k=x
  ·subst k2
   rw [if_pos rfl,World.cell?_setCell_other _ _ _ _ (ne _ _ (fun e=>hxy e.symm))]
   exact World.cell?_setCell_same _ _ _ h0
  ·rw [if_neg k2]
   by_cases k1:k=y
   ·subst k1
    rw [if_pos rfl]
    exact World.cell?_setCell_same _ _ _ (u := .int .i64 (F k:Nat)) (by rw [World.cell?_setCell_other _ _ _ _ (ne _ _ (by omega))]; exact h1)
   ·rw [if_neg k1,World.cell?_setCell_other _ _ _ _ (ne _ _ (fun e=>k1 e.symm)),World.cell?_setCell_other _ _ _ _ (ne _ _ (fun e=>k2 e.symm))]
    exact h.cell k hk
 ·have:=h.fr k
  simpa using this
structure InsC (r:Nat→Nat) (F0 F:Nat→Nat) (a i j:Nat):Prop where
 I:InsB (fun k=>r (F k)) a i j
 x:F j=i
 lo:∀ k,a≤k→k≤i→k≠j→F k < i
 p:PmB F0 F a (i + 1)
theorem InsC.start {r F0 F:Nat→Nat} {a b i:Nat} (hid:∀ k,a≤k→k < b→F0 k=k) (h:SoB (fun k=>r (F k)) a i) (p:PmB F0 F a i) (ha:a≤i) (hi:i < b):InsC r F0 F a i i:=by
 refine ⟨InsB.start h ha,?_,fun k h1 h2 h3=>?_,p.wide nr_ (by omega)⟩
 ·rw [p.out i (by omega)]; exact hid i ha hi
 ·obtain ⟨m,m1,m2,e⟩:=p.src k h1 (by omega)
  rw [e,hid m m1 (by omega)]; exact m2
theorem InsC.swap {r F0 F:Nat→Nat} {a i j:Nat} (h:InsC r F0 F a i (j + 1)) (ha:a≤j) (hs:r (F (j + 1)) < r (F j)):InsC r F0 (sw2 F (j + 1) j) a i j:=by
 have hji:=h.I.ji
 refine ⟨?_,?_,fun k h1 h2 h3=>?_,h.p.trans (sw2_pm F (by omega) (by omega) ha (by omega))⟩
 ·have:=h.I.swap ha hs
  have e:(fun k=>r (sw2 F (j + 1) j k))=sw2 (fun k=>r (F k)) (j + 1) j:=by funext k; exact sw2_comp r F (j + 1) j k
  rw [e]; exact this
 ·unfold sw2
  rw [if_neg (by omega),if_pos rfl]; exact h.x
 ·unfold sw2
  by_cases k1:k=j + 1
  ·rw [if_pos k1]; exact h.lo j ha (by omega) (by omega)
  ·rw [if_neg k1,if_neg h3]; exact h.lo k h1 h2 k1
theorem insertion_gen (w:World) (B g n cap a b:Nat) (f:FuncId) (lb:Array Value) (eg:∀ args w,(callFunc f args).run Tryz.prog w = .ok (.enter f args) w) (c:Nat→Nat→Int) (r:Nat→Nat) (hc:CmpR c r n) (hB:B≤g) (hn:n≤1000) (hab:a≤b) (hbn:b≤n) (F0:Nat→Nat) (hid:∀ k,a≤k→k < b→F0 k=k) (hrow:RowF w g n F0)
  (hcmp:∀ W,Below B w W→∀ i j:Nat,i < n→j < n→Gives Tryz.prog f (#[.int .i64 i,.int .i64 j] ++ lb) W (.int .i64 (c i j))) :
  Calls Tryz.prog 182 #[.slice (some ⟨g,0,none⟩) n cap,.int .i64 a,.int .i64 b,.func (.func f) #[] lb] w fun e w'=>e = .returned (.tuple #[])∧∃ F,SoB (fun k=>r (F k)) a b∧PmB F0 F a b∧RowF w' g n F∧Below B w w':=by
 have Hc:=hd_ hc
 have Hcmp:=hd_ hcmp
 have Hrow:=hd_ hrow
 have Hid0:=hd_ hid
 clear hc hcmp hrow hid
 go_enter Tryz.func182,Tryz.ntmps182
 go_wp2_with fail
 go_loopw [8] (fun z wr=>∃ (i:Nat) (F:Nat→Nat),a + 1≤i∧z = .int .i64 i∧Hid (SoB (fun k=>r (F k)) a (if i≤b then i else b))∧Hid (PmB F0 F a (if i≤b then i else b))∧Hid (RowF wr g n F)∧Hid (Below B w wr)) (fun z _=>b - (intOf z).toNat)
 case atStart=>exact ⟨a + 1,F0,Nat.le_refl _,by go_num,SoB.one _ _ _ (by split <;> omega),PmB.refl _ _ _,Hrow.out,Below.refl _ _⟩
 case round =>
  obtain ⟨i,F,hi1,rfl,HS,HP,HR,HB⟩:=hrel
  clear Hrow
  by_cases hlt:i < b
  ·have hlt':(i:Int) < b:=by omega
   rw [if_pos (by omega)] at HS HP
   go_wp2_with fail
   go_loopw [9] (fun z wr=>∃ (j:Nat) (F:Nat→Nat),z = .int .i64 j∧Hid (InsC r F0 F a i j)∧Hid (RowF wr g n F)∧Hid (Below B w wr)) (fun z _=>(intOf z).toNat)
   case atStart=>exact ⟨i,F,rfl,InsC.start Hid0.out HS.out HP.out (by omega) hlt,HR.out,HB.out⟩
   case round =>
    clear HS HP HR HB
    obtain ⟨j,F,rfl,HI,HR,HB⟩:=hrel
    have hji:=HI.out.I.ji
    have haj:=HI.out.I.aj
    rcases Nat.lt_or_ge a j with h0 | h0
    ·obtain ⟨p,rfl⟩:∃ p,j=p + 1:=⟨j - 1,by omega⟩
     have hBs:B≤wr.heap.size:=Nat.le_trans hB (Nat.le_of_lt HR.out.lt)
     have Hxj:=hd_ HI.out.x
     have hxl:=HI.out.lo p (by omega) (by omega) (by omega)
     have hFi:F (p + 1) < n:=by have:=Hxj.out; omega
     have k1:=HR.out.cell (p + 1) (by omega)
     have k0:=HR.out.cell p (by omega)
     have Hcall:=hd_ fun W hW=>Hcmp.out W hW (F (p + 1)) (F p) (by omega) (by omega)
     have hcb:=Hc.out.bd (F (p + 1)) (F p)
     have q1:=BW.cell k1
     have q0:=BW.cell k0
     have hnon:Nonempty (BW wr):=⟨⟨wr,Below.refl _ _⟩⟩
     have I:Hid (Below wr.heap.size wr wr.drew):=(Below.refl _ _).drew
     have hpi:(p:Int) + 1 < n:=by omega
     have hpi0:(p:Int) < n:=by omega
     have hap:(a:Int) < ((p + 1:Nat):Int):=by omega
     have hap':(a:Int) < (p:Int) + 1:=by omega
     go_wp2_with fail
     clear k0 k1
     refine RY.wp_region_readers 14 [(1,0),(1,1),(1,2),(1,3),(1,4),(1,5),(1,6),(1,7),(1,8),(1,9),(1,10),(1,11),(1,12),(1,13),(0,14),(2,15),(0,16)] (fun w'=>∃ p:BW wr,w'=p.w) (by kernel_rfl) (by kernel_rfl) ?_ ?_
     ·exact ⟨⟨_,I.out⟩,rfl⟩
     iterate 14 (refine RY.walkR_read ?_; simp only [dsc_,dz_,tsc_,tz_]; go_big_quiet_step (fail); refine wpQuiet_nil ?_)
     clear hnon q0 q1
     refine RY.walkR_move ?_
     simp only [dsc_,dz_,tsc_,tz_]
     go_wp2_with fail
     refine cm_ (Hcall.out _ (HB.out.trans (I.out.mono hBs))) ?_
     rintro e_ w2 ⟨rfl,hb_⟩
     have D:Hid (Below wr.heap.size wr w2):=I.out.trans (hb_.mono I.out.size)
     have HR2:=hd_ (HR.out.below D.out nr_)
     have HB2:=hd_ (HB.out.trans (D.out.mono hBs))
     clear hb_ I D Hcall HR HB
     have hxj:=Hxj.out
     by_cases hneg:c (F (p + 1)) (F p) < 0
     ·have HI2:=hd_ (HI.out.swap (by omega) ((Hc.out.iff (F p) (F (p + 1)) (by omega) (by omega) (by omega)).1 hneg))
      have HR3:=hd_ (HR2.out.sw2 (p + 1) p (by omega) (by omega) (by omega))
      have HB3:=hd_ ((HB2.out.setCell (p:=⟨g,p + 1,none⟩) hB (.int .i64 (F p:Nat))).setCell (p:=⟨g,p,none⟩) hB (.int .i64 (F (p + 1):Nat)))
      have k1:=HR2.out.cell (p + 1) (by omega)
      have k0:=HR2.out.cell p (by omega)
      have f1:=HR2.out.fr (p + 1)
      have f0:=HR2.out.fr p
      clear hxj hxl
      generalize F (p + 1)=x at *
      generalize F p=y at *
      generalize c x y=z at *
      go_wp2_with fail
      refine RY.walkR_any ?_
      simp only [dsc_,dz_,tsc_,tz_]
      go_big_quiet_step (fail)
      refine wpQuiet_nil ?_
      refine RY.walkR_move ?_
      simp only [dsc_,dz_,tsc_,tz_]
      go_wp2_with fail
      simp only [RY.walkR]
      go_wp2_with fail
      go_region
      go_wp2
      go_roundw
      case rel=>exact ⟨p,_,rfl,HI2.out,HR3.out.below (Below.refl _ _).drew nr_,HB3.out.drew⟩
      case measure=>simp [intOf]
     ·have HS2:=hd_ (HI.out.I.stop (.inr (by rw [Nat.add_sub_cancel]; exact Hc.out.no (x:=F p) (y:=F (p + 1)) (by omega) (by omega) (by omega) hneg)))
      have HP2:=hd_ HI.out.p
      clear hxj hxl
      generalize F (p + 1)=x at *
      generalize F p=y at *
      generalize c x y=z at *
      go_wp2_with fail
      refine RY.walkR_any ?_
      simp only [dsc_,dz_,tsc_,tz_]
      go_big_quiet_step (fail)
      refine wpQuiet_nil ?_
      refine RY.walkR_move ?_
      simp only [dsc_,dz_,tsc_,tz_]
      go_wp2_with fail
      simp only [RY.walkR]
      go_wp2
      go_roundw
      case rel=>exact ⟨i + 1,F,by omega,by go_num,by rw [if_pos (by omega)]; exact HS2.out,by rw [if_pos (by omega)]; exact HP2.out,HR2.out,HB2.out⟩
      case measure=>simp [intOf]; omega
    ·obtain rfl:j=a:=by omega
     have HS2:=hd_ (HI.out.I.stop (.inl rfl))
     have HP2:=hd_ HI.out.p
     go_wp2_with fail
     go_quiet (fail)
     go_wp2
     go_roundw
     case rel=>exact ⟨i + 1,F,by omega,by go_num,by rw [if_pos (by omega)]; exact HS2.out,by rw [if_pos (by omega)]; exact HP2.out,HR.out.below (below_dn (Below.refl wr.heap.size wr) _) nr_,below_dn HB.out _⟩
     case measure=>simp [intOf]; omega
  ·have hlt':¬ (i:Int) < b:=by omega
   have e:(if i≤b then i else b)=b:=by split <;> omega
   rw [e] at HS HP
   go_wp2
   go_end0
   exact ⟨rfl,F,HS.out,HP.out,HR.out,HB.out⟩
end Go.Proofs.YtkoicfghplmghaaGreatDoor

namespace Go.Proofs.YtkoicfghplmghaaGreatDoor
open Go.RowKit
theorem swapRange_gen (w:World) (B g n cap a b k:Nat) (v:Value) (hB:B≤g) (hn:n≤1000) (hab:a + k≤b) (hbn:b + k≤n) (F:Nat→Nat) (hrow:RowF w g n F) (_hw:B≤w.heap.size) :
  Calls Tryz.prog 237 #[.slice (some ⟨g,0,none⟩) n cap,.int .i64 a,.int .i64 b,.int .i64 k,v] w fun e w'=>e = .returned (.tuple #[])∧RowF w' g n (swR F a b k)∧Below B w w':=by
 have Hrow:=hd_ hrow
 clear hrow
 go_enter Tryz.func237,Tryz.ntmps237
 go_wp2_with fail
 go_loopw [10] (fun z wr=>∃ t:Nat,t≤k∧z = .int .i64 t∧Hid (RowF wr g n (swR F a b t))∧Hid (Below B w wr)) (fun z _=>k - (intOf z).toNat)
 case atStart=>exact ⟨0,Nat.zero_le _,rfl,by rw [swR_zero]; exact Hrow.out,Below.refl _ _⟩
 case round =>
  clear Hrow
  obtain ⟨t,ht,rfl,HR,HB⟩:=hrel
  by_cases hlt:t < k
  ·have hlt':(t:Int) < k:=by omega
   have k1:=HR.out.cell (a + t) (by omega)
   have k0:=HR.out.cell (b + t) (by omega)
   have f1:=HR.out.fr (a + t)
   have f0:=HR.out.fr (b + t)
   have HR3:=hd_ (HR.out.sw2 (a + t) (b + t) (by omega) (by omega) (by omega))
   rw [swR_succ hab hlt] at HR3
   have HB3:=hd_ ((HB.out.setCell (p:=⟨g,a + t,none⟩) hB (.int .i64 (swR F a b t (b + t):Nat))).setCell (p:=⟨g,b + t,none⟩) hB (.int .i64 (swR F a b t (a + t):Nat)))
   have e1:IntKind.i64.wrap ((a:Int) + t)=((a + t:Nat):Int):=by rw [← Int.natCast_add]; exact iw_ _ (by omega)
   have e2:IntKind.i64.wrap ((b:Int) + t)=((b + t:Nat):Int):=by rw [← Int.natCast_add]; exact iw_ _ (by omega)
   have l1:((a + t:Nat):Int) < n:=by omega
   have l2:((b + t:Nat):Int) < n:=by omega
   generalize swR F a b t (b + t)=x at *
   generalize swR F a b t (a + t)=y at *
   have Hne12:Hid (a + t≠b + t):=by show _≠_; omega
   generalize a + t=s1 at *
   generalize b + t=s2 at *
   have K1:=hd_ k1
   have K0:=hd_ k0
   have q1:=BW.cell k1
   have q0:=BW.cell k0
   have hnon:Nonempty (BW wr):=⟨⟨wr,Below.refl _ _⟩⟩
   have I:Hid (Below wr.heap.size wr wr.drew):=(Below.refl _ _).drew
   go_wp2_with fail
   clear k0 k1
   refine RY.wp_region_readers 21 [(2,0),(2,1),(2,2),(2,3),(2,4),(2,5),(2,6),(2,7),(2,8),(2,9),(2,10),(2,11),(2,12),(1,13),(2,14),(2,15),(2,16),(2,17),(2,18),(1,19),(2,20),(0,21),(2,22),(0,23)] (fun w'=>∃ p:BW wr,w'=p.w) (by kernel_rfl) (by kernel_rfl) ?_ ?_
   ·exact ⟨⟨_,I.out⟩,rfl⟩
   iterate 21 ((first | refine RY.walkR_any ?_ | refine RY.walkR_read ?_); simp only [dsc_,dz_,tsc_,tz_]; go_big_quiet_step (fail); refine wpQuiet_nil ?_)
   clear hnon q0 q1
   have k1:=K1.out
   have k0:=K0.out
   have k2:(wr.setCell ⟨g,s1,none⟩ (.int .i64 x)).cell? ⟨g,s2,none⟩=some (.int .i64 x):=by rw [World.cell?_setCell_other _ _ _ _ (fun e=>Hne12.out (congrArg Addr.off e))]; exact K0.out
   refine RY.walkR_move ?_
   simp only [dsc_,dz_,tsc_,tz_]
   go_wp2_with fail
   refine RY.walkR_any ?_
   simp only [dsc_,dz_,tsc_,tz_]
   go_big_quiet_step (fail)
   refine wpQuiet_nil ?_
   refine RY.walkR_move ?_
   simp only [dsc_,dz_,tsc_,tz_]
   go_wp2_with fail
   simp only [RY.walkR]
   go_wp2
   go_roundw
   case rel=>exact ⟨t + 1,by omega,by go_num,HR3.out.below (Below.refl _ _).drew nr_,HB3.out.drew⟩
   case measure=>simp [intOf]; omega
  ·have hlt':¬ (t:Int) < k:=by omega
   obtain rfl:t=k:=by omega
   go_wp2
   go_end0
   exact ⟨rfl,HR.out,HB.out⟩
end Go.Proofs.YtkoicfghplmghaaGreatDoor

namespace Go.Proofs.YtkoicfghplmghaaGreatDoor
open Go.RowKit
theorem rotate_gen (w:World) (B g n cap a m b:Nat) (v:Value) (hB:B≤g) (hn:n≤1000) (ham:a < m) (hmb:m < b) (hbn:b≤n) (F:Nat→Nat) (hrow:RowF w g n F) (hw:B≤w.heap.size) :
  Calls Tryz.prog 218 #[.slice (some ⟨g,0,none⟩) n cap,.int .i64 a,.int .i64 m,.int .i64 b,v] w fun e w'=>e = .returned (.tuple #[])∧RowF w' g n (rotF F a (m - a) (b - m))∧Below B w w':=by
 have Hrow:=hd_ hrow
 have HS:Hid (∀ (W:World) (x y k:Nat) (F:Nat→Nat),Below B w W→x + k≤y→y + k≤n→RowF W g n F→Calls Tryz.prog 237 #[.slice (some ⟨g,0,none⟩) n cap,.int .i64 x,.int .i64 y,.int .i64 k,v] W fun e w'=>e = .returned (.tuple #[])∧RowF w' g n (swR F x y k)∧Below B W w'):=fun W x y k F hW h1 h2 hr=>swapRange_gen W B g n cap x y k v hB hn h1 h2 F hr (Nat.le_trans hw hW.size)
 clear hrow
 have e1:IntKind.i64.wrap ((m:Int) - a)=((m - a:Nat):Int):=by rw [show (m:Int) - a=((m - a:Nat):Int) by omega]; exact iw_ _ (by omega)
 have e2:IntKind.i64.wrap ((b:Int) - m)=((b - m:Nat):Int):=by rw [show (b:Int) - m=((b - m:Nat):Int) by omega]; exact iw_ _ (by omega)
 go_enter Tryz.func218,Tryz.ntmps218
 go_wp2_with fail
 go_loopw [10,11] (fun z y wr=>∃ (i j:Nat) (G:Nat→Nat),0 < i∧0 < j∧i + a≤m∧m + j≤b∧z = .int .i64 i∧y = .int .i64 j∧Hid (rotF G (m - i) i j=rotF F a (m - a) (b - m))∧Hid (RowF wr g n G)∧Hid (Below B w wr)) (fun z y _=>(intOf z).toNat + (intOf y).toNat)
 case atStart=>exact ⟨m - a,b - m,F,by omega,by omega,by omega,by omega,rfl,rfl,by show _=_; rw [show m - (m - a)=a by omega],Hrow.out,Below.refl _ _⟩
 case round =>
  clear Hrow
  obtain ⟨i,j,G,hi,hj,him,hjb,rfl,rfl,HE,HR,HB⟩:=hrel
  have w1:IntKind.i64.wrap ((m:Int) - i)=((m - i:Nat):Int):=by rw [show (m:Int) - i=((m - i:Nat):Int) by omega]; exact iw_ _ (by omega)
  rcases Nat.lt_trichotomy i j with h | h | h
  ·have hne:((i:Int) == j)=false:=by rw [beq_eq_false_iff_ne]; omega
   have hle:¬ (j:Int) < i:=by omega
   have w4:IntKind.i64.wrap ((j:Int) - i)=((j - i:Nat):Int):=by rw [show (j:Int) - i=((j - i:Nat):Int) by omega]; exact iw_ _ (by omega)
   have Hs:=HS.out wr (m - i) (m + j - i) i G HB.out (by omega) (by omega) HR.out
   rw [show ((m + j - i:Nat):Int)=(m:Int) + j - i by omega] at Hs
   have Hs:=hd_ Hs
   have HE2:Hid (rotF (swR G (m - i) (m + j - i) i) (m - i) i (j - i)=rotF F a (m - a) (b - m)):=by
    show _=_
    rw [← HE.out,← rot_lt (lo:=m - i) h hi,show m - i + j=m + j - i by omega]
   go_wp2_with fail
   refine cm_ Hs.out ?_
   rintro e_ w2 ⟨rfl,hr_,hb_⟩
   have HR2:=hd_ hr_
   have HB2:=hd_ (HB.out.trans hb_)
   clear hr_ hb_ Hs HR HB HE
   go_wp2_with fail
   go_roundw
   case rel=>exact ⟨i,j - i,_,hi,by omega,him,by omega,rfl,by first | rfl | (rw [w4]),HE2,HR2,HB2⟩
   case measure=>simp [intOf]; omega
  ·subst h
   have Hs:=hd_ (HS.out wr (m - i) m i G HB.out (by omega) (by omega) HR.out)
   have HE2:Hid (swR G (m - i) m i=rotF F a (m - a) (b - m)):=by
    show _=_
    rw [← HE.out,← rot_eq]
    congr 1
    omega
   go_wp2_with fail
   refine cm_ Hs.out ?_
   rintro e_ w2 ⟨rfl,hr_,hb_⟩
   rw [HE2.out] at hr_
   have HR2:=hd_ hr_
   have HB2:=hd_ (HB.out.trans hb_)
   clear hr_ hb_ Hs HR HB HE
   go_wp2_with fail
   go_end0
   exact ⟨rfl,HR2.out,HB2.out⟩
  ·have hne:((i:Int) == j)=false:=by rw [beq_eq_false_iff_ne]; omega
   have hle:(j:Int) < i:=by omega
   have w4:IntKind.i64.wrap ((i:Int) - j)=((i - j:Nat):Int):=by rw [show (i:Int) - j=((i - j:Nat):Int) by omega]; exact iw_ _ (by omega)
   have Hs:=hd_ (HS.out wr (m - i) m j G HB.out (by omega) (by omega) HR.out)
   have HE2:Hid (rotF (swR G (m - i) m j) (m - (i - j)) (i - j) j=rotF F a (m - a) (b - m)):=by
    show _=_
    rw [← HE.out,← rot_gt (lo:=m - i) h hj,show m - i + i=m by omega,show m - i + j=m - (i - j) by omega]
   go_wp2_with fail
   refine cm_ Hs.out ?_
   rintro e_ w2 ⟨rfl,hr_,hb_⟩
   have HR2:=hd_ hr_
   have HB2:=hd_ (HB.out.trans hb_)
   clear hr_ hb_ Hs HR HB HE
   go_wp2_with fail
   go_roundw
   case rel=>exact ⟨i - j,j,_,by omega,hj,by omega,hjb,by first | rfl | (rw [w4]),rfl,HE2,HR2,HB2⟩
   case measure=>simp [intOf]; omega
end Go.Proofs.YtkoicfghplmghaaGreatDoor

namespace Go.Proofs.YtkoicfghplmghaaGreatDoor
open Go.RowKit
structure MrgB (r F:Nat→Nat) (n a m b:Nat):Prop where
 am:a < m
 mb:m < b
 s1:SoB (fun k=>r (F k)) a m
 s2:SoB (fun k=>r (F k)) m b
 lt:∀ i j,a≤i→i < m→m≤j→j < b→F i < F j
 bd:∀ k,a≤k→k < b→F k < n
structure MrgD (w w':World) (B g n a b:Nat) (r F:Nat→Nat):Prop where
 ex:∃ F',SoB (fun k=>r (F' k)) a b∧PmB F F' a b∧RowF w' g n F'
 bel:Below B w w'
theorem CmpR.yes {c:Nat→Nat→Int} {r:Nat→Nat} {n:Nat} (h:CmpR c r n) {x y:Nat} (hx:x < n) (hy:y < n) (hxy:x < y) (hc:c y x < 0):r y < r x:=(h.iff x y hx hy hxy).1 hc
theorem sob_le {G:Nat→Nat} {a b i j:Nat} (h:SoB G a b) (h1:a≤i) (h2:i≤j) (h3:j < b):G i≤G j:=by
 rcases Nat.lt_or_ge i j with h4 | h4
 ·exact Nat.le_of_lt (h i j h1 h4 h3)
 ·rw [show i=j by omega]; exact Nat.le_refl _
theorem sob_leF {r F:Nat→Nat} {a b i j:Nat} (h:SoB (fun k=>r (F k)) a b) (h1:a≤i) (h2:i≤j) (h3:j < b):r (F i)≤r (F j):=sob_le (G:=fun k=>r (F k)) h h1 h2 h3
theorem half_lt {i j:Nat} (h:i < j):i≤(i + j) / 2∧(i + j) / 2 < j:=by omega
theorem rot_sob {r F:Nat→Nat} {l i j a b:Nat} (h:SoB (rotF (fun k=>r (F k)) l i j) a b):SoB (fun k=>r (rotF F l i j k)) a b:=by
 rw [show (fun k=>r (rotF F l i j k))=rotF (fun k=>r (F k)) l i j from funext fun k=>rotF_comp r F l i j k]
 exact h
theorem swap_up {F:Nat→Nat} {a u:Nat} (h:a≤u):sw2 (rotF F a 1 (u - a)) u (u + 1)=rotF F a 1 (u + 1 - a):=by
 have:=rotF_up F a (u - a)
 rw [show a + (u - a)=u by omega,show u - a + 1=u + 1 - a by omega] at this
 exact this
theorem swap_dn {F:Nat→Nat} {p m:Nat} (h:p + 1≤m):sw2 (rotF F (p + 1) (m - (p + 1)) 1) (p + 1) p=rotF F p (m - p) 1:=by
 have:=rotF_dn F p (m - (p + 1))
 rw [show m - (p + 1) + 1=m - p by omega] at this
 exact this
theorem symL_gen (w:World) (B g n cap a m b:Nat) (f:FuncId) (lb:Array Value) (eg:∀ args w,(callFunc f args).run Tryz.prog w = .ok (.enter f args) w) (c:Nat→Nat→Int) (r:Nat→Nat) (hc:CmpR c r n) (hB:B≤g) (hn:n≤1000) (hbn:b≤n) (F:Nat→Nat) (hM:MrgB r F n a m b) (hma:Hid (m=a + 1)) (hrow:RowF w g n F)
  (hcmp:∀ W,Below B w W→∀ i j:Nat,i < n→j < n→Gives Tryz.prog f (#[.int .i64 i,.int .i64 j] ++ lb) W (.int .i64 (c i j))) :
  Calls Tryz.prog 183 #[.slice (some ⟨g,0,none⟩) n cap,.int .i64 a,.int .i64 m,.int .i64 b,.func (.func f) #[] lb] w fun e w'=>e = .returned (.tuple #[])∧MrgD w w' B g n a b r F:=by
 have Hc:=hd_ hc
 have Hcmp:=hd_ hcmp
 have Hrow:=hd_ hrow
 have HM:=hd_ hM
 have ham:=hM.am
 have hmb:=hM.mb
 have hm1:m≤a + 1:=by have:=hma.out; omega
 have e1:((m:Int) - a == 1)=true:=by rw [beq_iff_eq]; have:=hma.out; omega
 have HS1:Hid (SoB (fun k=>r (F k)) (a + 1) b):=by have:=hM.s2; rw [hma.out] at this; exact this
 clear hc hcmp hrow hM hma
 go_enter Tryz.func183,Tryz.ntmps183
 go_wp2_with fail
 go_loopw [10,11] (fun y z wr=>∃ i j:Nat,a + 1≤i∧i≤j∧j≤b∧y = .int .i64 i∧z = .int .i64 j∧Hid (∀ k,a + 1≤k→k < i→r (F k) < r (F a))∧Hid (∀ k,j≤k→k < b→r (F a) < r (F k))∧Hid (RowF wr g n F)∧Hid (Below B w wr)) (fun y z _=>(intOf z).toNat - (intOf y).toNat)
 case atStart=>exact ⟨m,b,by omega,by omega,Nat.le_refl _,rfl,rfl,fun k h1 h2=>by omega,fun k h1 h2=>by omega,Hrow.out,Below.refl _ _⟩
 case round =>
  clear Hrow
  obtain ⟨i,j,hi,hij,hj,rfl,rfl,HL,HG,HR,HB⟩:=hrel
  by_cases hlt:i < j
  ·have hlt':(i:Int) < j:=by omega
   obtain ⟨h1,h2⟩:=half_lt hlt
   have hh':((i:Int) + j) / 2=((i + j) / 2:Nat):=by omega
   generalize (i + j) / 2=h at *
   have Fa:=HM.out.bd a (by omega) (by omega)
   have Fh:=HM.out.bd h (by omega) (by omega)
   have Flt:=HM.out.lt a h (by omega) (by omega) (by omega) (by omega)
   have k1:=HR.out.cell (h) (by omega)
   have k0:=HR.out.cell (a) (by omega)
   have Hcall:=hd_ fun W hW=>Hcmp.out W hW (F (h)) (F (a)) (Fh) (Fa)
   have hcb:=Hc.out.bd (F (h)) (F (a))
   have q1:=BW.cell k1
   have q0:=BW.cell k0
   have hnon:Nonempty (BW wr):=⟨⟨wr,Below.refl _ _⟩⟩
   have I:Hid (Below wr.heap.size wr wr.drew):=(Below.refl _ _).drew
   have hBs:B≤wr.heap.size:=Nat.le_trans hB (Nat.le_of_lt HR.out.lt)
   go_wp2_with fail
   clear k0 k1
   refine RY.wp_region_readers 9 [(1,0),(1,1),(1,2),(1,3),(1,4),(1,5),(1,6),(1,7),(1,8),(0,9),(2,10)] (fun w'=>∃ p:BW wr,w'=p.w) (by kernel_rfl) (by kernel_rfl) ?_ ?_
   ·exact ⟨⟨_,I.out⟩,rfl⟩
   iterate 9 (refine RY.walkR_read ?_; simp only [dsc_,dz_,tsc_,tz_]; go_big_quiet_step (fail); refine wpQuiet_nil ?_)
   clear hnon q0 q1
   refine RY.walkR_move ?_
   simp only [dsc_,dz_,tsc_,tz_]
   go_wp2_with fail
   refine cm_ (Hcall.out _ (HB.out.trans (I.out.mono hBs))) ?_
   rintro e_ w2 ⟨rfl,hb_⟩
   have D:Hid (Below wr.heap.size wr w2):=I.out.trans (hb_.mono I.out.size)
   have HR2:=hd_ (HR.out.below D.out nr_)
   have HB2:=hd_ (HB.out.trans (D.out.mono hBs))
   clear hb_ I D Hcall HR HB
   by_cases hneg:c (F h) (F a) < 0
   ·have HL2:Hid (∀ k,a + 1≤k→k < h + 1→r (F k) < r (F a)):=fun k d1 d2=>Nat.lt_of_le_of_lt (sob_leF HS1.out d1 (Nat.lt_succ_iff.1 d2) (by omega)) (Hc.out.yes Fa Fh Flt hneg)
    clear HL Fa Fh Flt
    generalize F (h)=x at hneg hcb ⊢
    generalize F (a)=y at hneg hcb ⊢
    generalize c x y=z at hneg hcb ⊢
    go_wp2_with fail
    refine RY.walkR_any ?_
    simp only [dsc_,dz_,tsc_,tz_]
    go_big_quiet_step (fail)
    refine wpQuiet_nil ?_
    simp only [RY.walkR]
    go_wp2
    go_roundw
    case rel=>exact ⟨h + 1,j,by omega,by omega,hj,by go_num,rfl,HL2.out,HG.out,HR2.out,HB2.out⟩
    case measure=>simp [intOf]; omega
   ·have HG2:Hid (∀ k,h≤k→k < b→r (F a) < r (F k)):=fun k d1 d2=>Nat.lt_of_lt_of_le (Hc.out.no Fa Fh Flt hneg) (sob_leF HS1.out (by omega) d1 d2)
    clear HG Fa Fh Flt
    generalize F (h)=x at hneg hcb ⊢
    generalize F (a)=y at hneg hcb ⊢
    generalize c x y=z at hneg hcb ⊢
    go_wp2_with fail
    refine RY.walkR_any ?_
    simp only [dsc_,dz_,tsc_,tz_]
    go_big_quiet_step (fail)
    refine wpQuiet_nil ?_
    simp only [RY.walkR]
    go_wp2
    go_roundw
    case rel=>exact ⟨i,h,hi,h1,by omega,rfl,rfl,HL.out,HG2.out,HR2.out,HB2.out⟩
    case measure=>simp [intOf]; omega
  ·have hlt':¬ (i:Int) < j:=by omega
   obtain rfl:i=j:=by omega
   have HS:=hd_ (rot_sob (ins_up HS1.out hi hj HL.out HG.out))
   have HP:=hd_ (rotF_pm F (l:=a) (i:=1) (j:=i - 1 - a) (a:=a) (b:=b) nr_ (by omega))
   clear HL HG
   go_wp2_with fail
   go_loopw [13] (fun z wr=>∃ u:Nat,a≤u∧u + 1≤i∧z = .int .i64 u∧Hid (RowF wr g n (rotF F a 1 (u - a)))∧Hid (Below B w wr)) (fun z _=>i - (intOf z).toNat)
   case atStart=>exact ⟨a,Nat.le_refl _,hi,rfl,by rw [Nat.sub_self,rotF_z1]; exact HR.out,HB.out⟩
   case round =>
    clear HR HB
    obtain ⟨u,hu1,hu2,rfl,HR,HB⟩:=hrel
    by_cases hlt2:u + 1 < i
    ·have hlt2':(u:Int) < i - 1:=by omega
     have hrot:=swap_up (F:=F) hu1
     generalize rotF F a 1 (u - a)=G at *
     generalize hG2:rotF F a 1 (u + 1 - a)=G2 at *
     have HG2:Hid (rotF F a 1 (u + 1 - a)=G2):=hG2
     clear hG2
     have k1:=HR.out.cell (u) (by omega)
     have k0:=HR.out.cell (u + 1) (by omega)
     have f1:=HR.out.fr (u)
     have f0:=HR.out.fr (u + 1)
     have HR3:=hd_ (HR.out.sw2 (u) (u + 1) (by omega) (by omega) (by omega))
     rw [hrot] at HR3
     have HB3:=hd_ ((HB.out.setCell (p:=⟨g,u,none⟩) hB (.int .i64 (G (u + 1):Nat))).setCell (p:=⟨g,u + 1,none⟩) hB (.int .i64 (G (u):Nat)))
     have K1:=hd_ k1
     have K2:Hid ((wr.setCell ⟨g,u,none⟩ (.int .i64 (G (u + 1):Nat))).cell? ⟨g,u + 1,none⟩=some (.int .i64 (G (u + 1):Nat))):=by
      show _=_
      rw [World.cell?_setCell_other _ _ _ _ (fun e=>absurd (congrArg Addr.off e) (by show ¬ u=u + 1; omega))]
      exact k0
     clear hrot
     generalize G (u)=x at *
     generalize G (u + 1)=y at *
     have q1:=BW.cell k1
     have q0:=BW.cell k0
     have hnon:Nonempty (BW wr):=⟨⟨wr,Below.refl _ _⟩⟩
     have I:Hid (Below wr.heap.size wr wr.drew):=(Below.refl _ _).drew
     go_wp2_with fail
     clear k0 k1
     refine RY.wp_region_readers 15 [(2,0),(2,1),(2,2),(2,3),(2,4),(2,5),(2,6),(2,7),(2,8),(1,9),(2,10),(2,11),(2,12),(1,13),(2,14),(0,15),(2,16),(0,17)] (fun w'=>∃ p:BW wr,w'=p.w) (by kernel_rfl) (by kernel_rfl) ?_ ?_
     ·exact ⟨⟨_,I.out⟩,rfl⟩
     iterate 15 ((first | refine RY.walkR_any ?_ | refine RY.walkR_read ?_); simp only [dsc_,dz_,tsc_,tz_]; go_big_quiet_step (fail); refine wpQuiet_nil ?_)
     clear hnon q0 q1
     have k1:=K1.out
     have k2:=K2.out
     refine RY.walkR_move ?_
     simp only [dsc_,dz_,tsc_,tz_]
     go_wp2_with fail
     refine RY.walkR_any ?_
     simp only [dsc_,dz_,tsc_,tz_]
     go_big_quiet_step (fail)
     refine wpQuiet_nil ?_
     refine RY.walkR_move ?_
     simp only [dsc_,dz_,tsc_,tz_]
     go_wp2_with fail
     simp only [RY.walkR]
     go_wp2
     go_roundw
     case rel=>exact ⟨u + 1,by omega,by omega,by go_num,by rw [HG2.out]; exact HR3.out.below (Below.refl _ _).drew nr_,HB3.out.drew⟩
     case measure=>simp [intOf]; omega
    ·have hlt2':¬ (u:Int) < i - 1:=by omega
     have hu:u=i - 1:=by omega
     have HR4:Hid (RowF wr g n (rotF F a 1 (i - 1 - a))):=by rw [← hu]; exact HR.out
     clear hu
     go_wp2
     refine bodyPost_ret (results_none rfl _ _ _) rfl ?_
     exact ⟨rfl,⟨_,HS.out,HP.out,HR4.out⟩,HB.out⟩
theorem symR_gen (w:World) (B g n cap a m b:Nat) (f:FuncId) (lb:Array Value) (eg:∀ args w,(callFunc f args).run Tryz.prog w = .ok (.enter f args) w) (c:Nat→Nat→Int) (r:Nat→Nat) (hc:CmpR c r n) (hB:B≤g) (hn:n≤1000) (hbn:b≤n) (F:Nat→Nat) (hM:MrgB r F n a m b) (hne1:m≠a + 1) (hbm:Hid (b=m + 1)) (hrow:RowF w g n F)
  (hcmp:∀ W,Below B w W→∀ i j:Nat,i < n→j < n→Gives Tryz.prog f (#[.int .i64 i,.int .i64 j] ++ lb) W (.int .i64 (c i j))) :
  Calls Tryz.prog 183 #[.slice (some ⟨g,0,none⟩) n cap,.int .i64 a,.int .i64 m,.int .i64 b,.func (.func f) #[] lb] w fun e w'=>e = .returned (.tuple #[])∧MrgD w w' B g n a b r F:=by
 have Hc:=hd_ hc
 have Hcmp:=hd_ hcmp
 have Hrow:=hd_ hrow
 have HM:=hd_ hM
 have ham:=hM.am
 have hmb:=hM.mb
 have e1:((m:Int) - a == 1)=false:=by rw [beq_eq_false_iff_ne]; omega
 have hb1:b≤m + 1:=by have:=hbm.out; omega
 have e2:((b:Int) - m == 1)=true:=by rw [beq_iff_eq]; have:=hbm.out; omega
 clear hc hcmp hrow hM
 go_enter Tryz.func183,Tryz.ntmps183
 go_wp2_with fail
 go_loopw [14,15] (fun y z wr=>∃ i j:Nat,a≤i∧i≤j∧j≤m∧y = .int .i64 i∧z = .int .i64 j∧Hid (∀ k,a≤k→k < i→r (F k) < r (F m))∧Hid (∀ k,j≤k→k < m→r (F m) < r (F k))∧Hid (RowF wr g n F)∧Hid (Below B w wr)) (fun y z _=>(intOf z).toNat - (intOf y).toNat)
 case atStart=>exact ⟨a,m,Nat.le_refl _,by omega,Nat.le_refl _,rfl,rfl,fun k h1 h2=>by omega,fun k h1 h2=>by omega,Hrow.out,Below.refl _ _⟩
 case round =>
  clear Hrow
  obtain ⟨i,j,hi,hij,hj,rfl,rfl,HL,HG,HR,HB⟩:=hrel
  by_cases hlt:i < j
  ·have hlt':(i:Int) < j:=by omega
   obtain ⟨h1,h2⟩:=half_lt hlt
   have hh':((i:Int) + j) / 2=((i + j) / 2:Nat):=by omega
   generalize (i + j) / 2=h at *
   have Fm:=HM.out.bd m (by omega) (by omega)
   have Fh:=HM.out.bd h (by omega) (by omega)
   have Flt:=HM.out.lt h m (by omega) (by omega) (by omega) (by omega)
   have k1:=HR.out.cell (m) (by omega)
   have k0:=HR.out.cell (h) (by omega)
   have Hcall:=hd_ fun W hW=>Hcmp.out W hW (F (m)) (F (h)) (Fm) (Fh)
   have hcb:=Hc.out.bd (F (m)) (F (h))
   have q1:=BW.cell k1
   have q0:=BW.cell k0
   have hnon:Nonempty (BW wr):=⟨⟨wr,Below.refl _ _⟩⟩
   have I:Hid (Below wr.heap.size wr wr.drew):=(Below.refl _ _).drew
   have hBs:B≤wr.heap.size:=Nat.le_trans hB (Nat.le_of_lt HR.out.lt)
   go_wp2_with fail
   clear k0 k1
   refine RY.wp_region_readers 9 [(1,0),(1,1),(1,2),(1,3),(1,4),(1,5),(1,6),(1,7),(1,8),(0,9),(2,10),(0,11)] (fun w'=>∃ p:BW wr,w'=p.w) (by kernel_rfl) (by kernel_rfl) ?_ ?_
   ·exact ⟨⟨_,I.out⟩,rfl⟩
   iterate 9 (refine RY.walkR_read ?_; simp only [dsc_,dz_,tsc_,tz_]; go_big_quiet_step (fail); refine wpQuiet_nil ?_)
   clear hnon q0 q1
   refine RY.walkR_move ?_
   simp only [dsc_,dz_,tsc_,tz_]
   go_wp2_with fail
   refine cm_ (Hcall.out _ (HB.out.trans (I.out.mono hBs))) ?_
   rintro e_ w2 ⟨rfl,hb_⟩
   have D:Hid (Below wr.heap.size wr w2):=I.out.trans (hb_.mono I.out.size)
   have HR2:=hd_ (HR.out.below D.out nr_)
   have HB2:=hd_ (HB.out.trans (D.out.mono hBs))
   clear hb_ I D Hcall HR HB
   by_cases hneg:c (F m) (F h) < 0
   ·have HG2:Hid (∀ k,h≤k→k < m→r (F m) < r (F k)):=fun k d1 d2=>Nat.lt_of_lt_of_le (Hc.out.yes Fh Fm Flt hneg) (sob_leF HM.out.s1 (by omega) d1 d2)
    clear HG Fm Fh Flt
    generalize F (m)=x at hneg hcb ⊢
    generalize F (h)=y at hneg hcb ⊢
    generalize c x y=z at hneg hcb ⊢
    go_wp2_with fail
    refine RY.walkR_any ?_
    simp only [dsc_,dz_,tsc_,tz_]
    go_big_quiet_step (fail)
    refine wpQuiet_nil ?_
    refine RY.walkR_move ?_
    simp only [dsc_,dz_,tsc_,tz_]
    go_wp2_with fail
    simp only [RY.walkR]
    go_wp2
    go_roundw
    case rel=>exact ⟨i,h,hi,h1,by omega,rfl,rfl,HL.out,HG2.out,HR2.out,HB2.out⟩
    case measure=>simp [intOf]; omega
   ·have HL2:Hid (∀ k,a≤k→k < h + 1→r (F k) < r (F m)):=fun k d1 d2=>Nat.lt_of_le_of_lt (sob_leF HM.out.s1 d1 (Nat.lt_succ_iff.1 d2) (by omega)) (Hc.out.no Fh Fm Flt hneg)
    clear HL Fm Fh Flt
    generalize F (m)=x at hneg hcb ⊢
    generalize F (h)=y at hneg hcb ⊢
    generalize c x y=z at hneg hcb ⊢
    go_wp2_with fail
    refine RY.walkR_any ?_
    simp only [dsc_,dz_,tsc_,tz_]
    go_big_quiet_step (fail)
    refine wpQuiet_nil ?_
    refine RY.walkR_move ?_
    simp only [dsc_,dz_,tsc_,tz_]
    go_wp2_with fail
    simp only [RY.walkR]
    go_wp2
    any_goals (exfalso; rename_i hh; rw [decide_eq_false (show ¬ z < 0 by omega)] at hh; cases hh; done)
    go_roundw
    case rel=>exact ⟨h + 1,j,by omega,by omega,hj,by go_num,rfl,HL2.out,HG.out,HR2.out,HB2.out⟩
    case measure=>simp [intOf]; omega
  ·have hlt':¬ (i:Int) < j:=by omega
   obtain rfl:i=j:=by omega
   have HS:Hid (SoB (fun k=>r (rotF F i (m - i) 1 k)) a b):=by have:=rot_sob (ins_dn HM.out.s1 hi hj HL.out HG.out); rw [hbm.out]; exact this
   have HP:=hd_ (rotF_pm F (l:=i) (i:=m - i) (j:=1) (a:=a) (b:=b) hi (by omega))
   clear HL HG
   go_wp2_with fail
   go_loopw [17] (fun z wr=>∃ u:Nat,i≤u∧u≤m∧z = .int .i64 u∧Hid (RowF wr g n (rotF F u (m - u) 1))∧Hid (Below B w wr)) (fun z _=>(intOf z).toNat)
   case atStart=>exact ⟨m,hj,Nat.le_refl _,rfl,by rw [Nat.sub_self,rotF_z2]; exact HR.out,HB.out⟩
   case round =>
    clear HR HB
    obtain ⟨u,hu1,hu2,rfl,HR,HB⟩:=hrel
    by_cases hlt2:i < u
    ·obtain ⟨p,rfl⟩:∃ p,u=p + 1:=⟨u - 1,by omega⟩
     have hlt2':(i:Int) < ((p + 1:Nat):Int):=by omega
     have hlt2'':(i:Int) < (p:Int) + 1:=by omega
     have hrot:=swap_dn (F:=F) hu2
     generalize rotF F (p + 1) (m - (p + 1)) 1=G at *
     generalize hG2:rotF F p (m - p) 1=G2 at *
     have HG2:Hid (rotF F p (m - p) 1=G2):=hG2
     clear hG2
     have k1:=HR.out.cell (p + 1) (by omega)
     have k0:=HR.out.cell (p) (by omega)
     have f1:=HR.out.fr (p + 1)
     have f0:=HR.out.fr (p)
     have HR3:=hd_ (HR.out.sw2 (p + 1) (p) (by omega) (by omega) (by omega))
     rw [hrot] at HR3
     have HB3:=hd_ ((HB.out.setCell (p:=⟨g,p + 1,none⟩) hB (.int .i64 (G (p):Nat))).setCell (p:=⟨g,p,none⟩) hB (.int .i64 (G (p + 1):Nat)))
     have K1:=hd_ k1
     have K2:Hid ((wr.setCell ⟨g,p + 1,none⟩ (.int .i64 (G (p):Nat))).cell? ⟨g,p,none⟩=some (.int .i64 (G (p):Nat))):=by
      show _=_
      rw [World.cell?_setCell_other _ _ _ _ (fun e=>absurd (congrArg Addr.off e) (by show ¬ p + 1=p; omega))]
      exact k0
     clear hrot
     generalize G (p + 1)=x at *
     generalize G (p)=y at *
     have q1:=BW.cell k1
     have q0:=BW.cell k0
     have hnon:Nonempty (BW wr):=⟨⟨wr,Below.refl _ _⟩⟩
     have I:Hid (Below wr.heap.size wr wr.drew):=(Below.refl _ _).drew
     go_wp2_with fail
     clear k0 k1
     refine RY.wp_region_readers 15 [(2,0),(2,1),(2,2),(2,3),(2,4),(2,5),(2,6),(2,7),(2,8),(1,9),(2,10),(2,11),(2,12),(1,13),(2,14),(0,15),(2,16),(0,17)] (fun w'=>∃ p:BW wr,w'=p.w) (by kernel_rfl) (by kernel_rfl) ?_ ?_
     ·exact ⟨⟨_,I.out⟩,rfl⟩
     iterate 15 ((first | refine RY.walkR_any ?_ | refine RY.walkR_read ?_); simp only [dsc_,dz_,tsc_,tz_]; go_big_quiet_step (fail); refine wpQuiet_nil ?_)
     clear hnon q0 q1
     have k1:=K1.out
     have k2:=K2.out
     refine RY.walkR_move ?_
     simp only [dsc_,dz_,tsc_,tz_]
     go_wp2_with fail
     refine RY.walkR_any ?_
     simp only [dsc_,dz_,tsc_,tz_]
     go_big_quiet_step (fail)
     refine wpQuiet_nil ?_
     refine RY.walkR_move ?_
     simp only [dsc_,dz_,tsc_,tz_]
     go_wp2_with fail
     simp only [RY.walkR]
     go_wp2
     go_roundw
     case rel=>exact ⟨p,by omega,by omega,by go_num,by rw [HG2.out]; exact HR3.out.below (Below.refl _ _).drew nr_,HB3.out.drew⟩
     case measure=>simp [intOf]
    ·have hlt2':¬ (i:Int) < u:=by omega
     obtain rfl:u=i:=by omega
     go_wp2
     refine bodyPost_ret (results_none rfl _ _ _) rfl ?_
     exact ⟨rfl,⟨_,HS.out,HP.out,HR.out⟩,HB.out⟩
end Go.Proofs.YtkoicfghplmghaaGreatDoor

namespace Go.Proofs.YtkoicfghplmghaaGreatDoor
open Go.RowKit
structure RotD (r F F2:Nat→Nat) (n a m b s e mid:Nat):Prop where
 s1:SoB (fun k=>r (F2 k)) a s
 s2:SoB (fun k=>r (F2 k)) s mid
 s3:SoB (fun k=>r (F2 k)) mid e
 s4:SoB (fun k=>r (F2 k)) e b
 x:∀ i j,a≤i→i < mid→mid≤j→j < b→r (F2 i) < r (F2 j)
 l1:∀ i j,a≤i→i < s→s≤j→j < mid→F2 i < F2 j
 l2:∀ i j,mid≤i→i < e→e≤j→j < b→F2 i < F2 j
 pm:PmB F F2 a b
 bd:∀ k,a≤k→k < b→F2 k < n
 q1:a≤s
 q2:s≤mid
 q3:mid≤e
 q4:e≤b
theorem PmB.bd {F F':Nat→Nat} {a b n:Nat} (p:PmB F F' a b) (h:∀ k,a≤k→k < b→F k < n):∀ k,a≤k→k < b→F' k < n:=fun k h1 h2=>by
 obtain ⟨m,m1,m2,e⟩:=p.src k h1 h2
 rw [e]; exact h m m1 m2
theorem RotD.of {r F:Nat→Nat} {n a m b s e mid:Nat} (M:MrgB r F n a m b) (q1:a≤s) (q2:s≤m) (q3:m≤e) (q4:e≤b) (hmid:mid + m=s + e)
  (x1:∀ i j,a≤i→i < s→e≤j→j < b→r (F i) < r (F j)) (x2:∀ i j,m≤i→i < e→s≤j→j < m→r (F i) < r (F j)):RotD r F (rotF F s (m - s) (e - m)) n a m b s e mid:=by
 obtain ⟨p1,p2,p3,p4,p5⟩:=rot_parts (G:=fun k=>r (F k)) M.s1 M.s2 q1 q2 q3 q4 hmid x1 x2
 have v1:∀ z,z < s→rotF F s (m - s) (e - m) z=F z:=fun z hz=>by unfold rotF; rw [if_pos hz]
 have v2:∀ z,s≤z→z < mid→rotF F s (m - s) (e - m) z=F (z + (m - s)):=fun z hz hz2=>by unfold rotF; rw [if_neg (by omega),if_pos (by omega)]
 have v3:∀ z,mid≤z→z < e→rotF F s (m - s) (e - m) z=F (z - (e - m)):=fun z hz hz2=>by unfold rotF; rw [if_neg (by omega),if_neg (by omega),if_pos (by omega)]
 have v4:∀ z,e≤z→rotF F s (m - s) (e - m) z=F z:=fun z hz=>by unfold rotF; rw [if_neg (by omega),if_neg (by omega),if_neg (by omega)]
 have pm:PmB F (rotF F s (m - s) (e - m)) a b:=rotF_pm F q1 (by omega)
 refine ⟨rot_sob p1,rot_sob p2,rot_sob p3,rot_sob p4,fun i j c1 c2 c3 c4=>?_,fun i j c1 c2 c3 c4=>?_,fun i j c1 c2 c3 c4=>?_,pm,pm.bd M.bd,q1,by omega,by omega,q4⟩
 ·rw [rotF_comp r,rotF_comp r]; exact p5 i j c1 c2 c3 c4
 ·rw [v1 i c2,v2 j c3 c4]; exact M.lt _ _ (by omega) (by omega) (by omega) (by omega)
 ·rw [v3 i c1 c2,v4 j c3]; exact M.lt _ _ (by omega) (by omega) (by omega) (by omega)
theorem RotD.sub1 {r F F2:Nat→Nat} {n a m b s e mid:Nat} (D:RotD r F F2 n a m b s e mid) (h1:a < s) (h2:s < mid):MrgB r F2 n a s mid :=
 ⟨h1,h2,D.s1,D.s2,D.l1,fun k k1 k2=>D.bd k k1 (by have:=D.q3; have:=D.q4; omega)⟩
theorem RotD.sub2 {r F F2 F3:Nat→Nat} {n a m b s e mid:Nat} (D:RotD r F F2 n a m b s e mid) (p:PmB F2 F3 a mid) (h1:mid < e) (h2:e < b):MrgB r F3 n mid e b:=by
 have o:∀ k,mid≤k→F3 k=F2 k:=fun k hk=>p.out k (.inr hk)
 refine ⟨h1,h2,fun i j c1 c2 c3=>?_,fun i j c1 c2 c3=>?_,fun i j c1 c2 c3 c4=>?_,fun k k1 k2=>?_⟩
 ·show r (F3 i) < r (F3 j)
  rw [o i c1,o j (by omega)]; exact D.s3 i j c1 c2 c3
 ·show r (F3 i) < r (F3 j)
  rw [o i (by omega),o j (by omega)]; exact D.s4 i j c1 c2 c3
 ·rw [o i c1,o j (by omega)]; exact D.l2 i j c1 c2 c3 c4
 ·rw [o k k1]; exact D.bd k (by have:=D.q1; have:=D.q2; omega) k2
theorem RotD.none1 {r F F2:Nat→Nat} {n a m b s e mid:Nat} (D:RotD r F F2 n a m b s e mid) (h:¬ (a < s∧s < mid)):SoB (fun k=>r (F2 k)) a mid:=by
 have h1:=D.q1
 have h2:=D.q2
 by_cases hs:a=s
 ·rw [hs]; exact D.s2
 ·have e:s=mid:=by omega
  rw [← e]; exact D.s1
theorem RotD.none2 {r F F2 F3:Nat→Nat} {n a m b s e mid:Nat} (D:RotD r F F2 n a m b s e mid) (p:PmB F2 F3 a mid) (h:¬ (mid < e∧e < b)):SoB (fun k=>r (F3 k)) mid b:=by
 have h1:=D.q3
 have h2:=D.q4
 have o:∀ k,mid≤k→F3 k=F2 k:=fun k hk=>p.out k (.inr hk)
 have h3:SoB (fun k=>r (F2 k)) mid b:=by
  by_cases hs:mid=e
  ·rw [hs]; exact D.s4
  ·have e':e=b:=by omega
   rw [← e']; exact D.s3
 intro i j c1 c2 c3
 show r (F3 i) < r (F3 j)
 rw [o i c1,o j (by omega)]; exact h3 i j c1 c2 c3
theorem RotD.fin {r F F2 F3 F4:Nat→Nat} {n a m b s e mid:Nat} (D:RotD r F F2 n a m b s e mid) (p3:PmB F2 F3 a mid) (s3:SoB (fun k=>r (F3 k)) a mid) (p4:PmB F3 F4 mid b) (s4:SoB (fun k=>r (F4 k)) mid b) :
  SoB (fun k=>r (F4 k)) a b∧PmB F F4 a b:=by
 have h1:=D.q1
 have h2:=D.q2
 have h3:=D.q3
 have h4:=D.q4
 refine ⟨SoB.join (G:=fun k=>r (F4 k)) (SoB.out s3 p4 (.inl nr_)) s4 (join_parts2 (join_parts D.x p3) p4),(D.pm.trans (p3.wide nr_ (by omega))).trans (p4.wide (by omega) nr_)⟩
def gB (x y z:Nat):Bool:=decide (x < y) && decide (y < z)
theorem gB_yes {x y z:Nat} (h:gB x y z=true):x < y∧y < z:=by
 unfold gB at h
 simpa using h
theorem gB_no {x y z:Nat} (h:gB x y z=false):¬ (x < y∧y < z):=by
 unfold gB at h
 simpa using h
theorem gB_1 {x y z:Nat} (h:¬ x < y):gB x y z=false:=by unfold gB; rw [decide_eq_false h,Bool.false_and]
theorem gB_2 {x y z:Nat} (h1:x < y) (h2:¬ y < z):gB x y z=false:=by unfold gB; rw [decide_eq_true h1,decide_eq_false h2]; rfl
theorem gB_3 {x y z:Nat} (h1:x < y) (h2:y < z):gB x y z=true:=by unfold gB; rw [decide_eq_true h1,decide_eq_true h2]; rfl
def loS (a m b mid:Nat):Nat:=if mid < m then mid + m - b else a
def hiS (m mid:Nat):Nat:=if mid < m then mid else m
theorem symM_gen (w:World) (B g n cap a m b:Nat) (f:FuncId) (lb:Array Value) (eg:∀ args w,(callFunc f args).run Tryz.prog w = .ok (.enter f args) w) (c:Nat→Nat→Int) (r:Nat→Nat) (hc:CmpR c r n) (hB:B≤g) (hn:n≤1000) (hbn:b≤n) (F:Nat→Nat) (hM:MrgB r F n a m b) (hne1:m≠a + 1) (hne2:b≠m + 1)
  (ih:∀ (W:World) (a1 m1 b1:Nat) (F1:Nat→Nat),a≤a1→b1≤b→b1 - a1 < b - a→MrgB r F1 n a1 m1 b1→RowF W g n F1→Below B w W→Calls Tryz.prog 183 #[.slice (some ⟨g,0,none⟩) n cap,.int .i64 a1,.int .i64 m1,.int .i64 b1,.func (.func f) #[] lb] W fun e w'=>e = .returned (.tuple #[])∧MrgD W w' B g n a1 b1 r F1) (hrow:RowF w g n F)
  (hcmp:∀ W,Below B w W→∀ i j:Nat,i < n→j < n→Gives Tryz.prog f (#[.int .i64 i,.int .i64 j] ++ lb) W (.int .i64 (c i j))) :
  Calls Tryz.prog 183 #[.slice (some ⟨g,0,none⟩) n cap,.int .i64 a,.int .i64 m,.int .i64 b,.func (.func f) #[] lb] w fun e w'=>e = .returned (.tuple #[])∧MrgD w w' B g n a b r F:=by
 have Hc:=hd_ hc
 have Hcmp:=hd_ hcmp
 have Hrow:=hd_ hrow
 have HM:=hd_ hM
 have ham:=hM.am
 have hmb:=hM.mb
 have e1:((m:Int) - a == 1)=false:=by rw [beq_eq_false_iff_ne]; omega
 have e2:((b:Int) - m == 1)=false:=by rw [beq_eq_false_iff_ne]; omega
 have HI:=hd_ ih
 have hs0:B≤w.heap.size:=Nat.le_trans hB (Nat.le_of_lt hrow.lt)
 have HS0:=hd_ hs0
 clear hc hcmp hrow hM ih hs0
 have hmid:((a:Int) + b) / 2=((a + b) / 2:Nat):=by omega
 have hm2:2 * ((a + b) / 2)≤a + b∧a + b≤2 * ((a + b) / 2) + 1:=by omega
 generalize (a + b) / 2=mid at *
 obtain ⟨n2,hn2⟩:∃ n2,mid + m=n2:=⟨_,rfl⟩
 obtain ⟨p,hp⟩:∃ p,mid + m - 1=p:=⟨_,rfl⟩
 have hn2':(mid:Int) + m=(n2:Int):=by omega
 have hp2:(n2:Int) - 1=(p:Int):=by omega
 have hcut1:loS a m b mid≤hiS m mid∧hiS m mid≤m∧a≤loS a m b mid∧hiS m mid≤mid∧mid + m≤loS a m b mid + b:=by unfold loS hiS; split <;> omega
 have hlo2:mid < m→(((n2:Int) - b=(loS a m b mid:Nat))∧hiS m mid=mid):=fun h=>by unfold loS hiS; rw [if_pos h,if_pos h]; omega
 have hlo3:¬ mid < m→loS a m b mid=a∧hiS m mid=m:=fun h=>by unfold loS hiS; rw [if_neg h,if_neg h]; exact ⟨rfl,rfl⟩
 have Hlo:Hid (loS a m b mid=if mid < m then mid + m - b else a):=rfl
 have Hhi:Hid (hiS m mid=if mid < m then mid else m):=rfl
 generalize loS a m b mid=lo at *
 generalize hiS m mid=hi at *
 have Hp3:Hid (∀ x,x < hi→lo≤x→∃ X:Nat,m≤X∧X < b∧(p:Int) - x=X∧mid + m - 1 - x=X):=fun x h1 h2=>⟨mid + m - 1 - x,by omega,by omega,by omega,rfl⟩
 have Hcr:Hid (∀ s,CutAt (fun k=>r (F k)) lo hi (mid + m - 1) s→∃ e:Nat,(n2:Int) - s=e∧e≤2000∧RotD r F (rotF F s (m - s) (e - m)) n a m b s e mid∧s≤m∧m≤e):=fun s C=>by
  obtain ⟨q1,q2,q3,q4,q5,x1,x2⟩:=CutAt.cross HM.out.s1 HM.out.s2 hm2 Hlo.out Hhi.out C
  exact ⟨mid + m - s,by omega,by omega,RotD.of HM.out q1 q2 q3 q4 (by omega) x1 x2,q2,q3⟩
 have Hup:Hid (∀ c,lo≤c→c < hi→r (F c) < r (F (mid + m - 1 - c))→∀ d,lo≤d→d < c + 1→r (F d) < r (F (mid + m - 1 - d))):=fun c h1 h2 h3=>cut_up (G:=fun k=>r (F k)) HM.out.s1 HM.out.s2 ham hmb hm2 Hlo.out Hhi.out c h1 h2 h3
 have Hdn:Hid (∀ c,lo≤c→c < hi→r (F (mid + m - 1 - c)) < r (F c)→∀ d,c≤d→d < hi→r (F (mid + m - 1 - d)) < r (F d)):=fun c h1 h2 h3=>cut_dn (G:=fun k=>r (F k)) HM.out.s1 HM.out.s2 ham hmb hm2 Hlo.out Hhi.out c h1 h2 h3
 have Hlo2:=hd_ hlo2
 have Hlo3:=hd_ hlo3
 have hpq:p≤2000:=by omega
 have hnq:n2≤2001:=by omega
 have hmq:mid≤1000:=by omega
 have hp0:1≤n2:=by omega
 clear hlo2 hlo3 hm2 Hlo Hhi hn2 hp
 go_enter Tryz.func183,Tryz.ntmps183
 go_upto_if 140 with fail
 go_cut [20,21] from 138 (fun y z wx=>y = .int .i64 lo∧z = .int .i64 hi∧w=wx)
 case first =>
  by_cases hc:mid < m
  ·obtain ⟨k1,k2⟩:=Hlo2.out hc
   have K2:=hd_ k2
   clear k2
   have hc':(mid:Int) < m:=by omega
   go_wp2_with fail
   go_meet
   exact ⟨rfl,by rw [K2.out],rfl⟩
  ·obtain ⟨k1,k2⟩:=Hlo3.out hc
   have K1:=hd_ k1
   have K2:=hd_ k2
   clear k1 k2
   have hc':¬ (mid:Int) < m:=by omega
   go_wp2_with fail
   go_meet
   exact ⟨by rw [K1.out],by rw [K2.out],rfl⟩
 case rest =>
  obtain ⟨rfl,rfl,rfl⟩:=hcut
  go_wp2_with fail
  go_loopw [20,21] (fun y z wr=>∃ i j:Nat,lo≤i∧i≤j∧j≤hi∧y = .int .i64 i∧z = .int .i64 j∧Hid (∀ d,lo≤d→d < i→r (F d) < r (F (mid + m - 1 - d)))∧Hid (∀ d,j≤d→d < hi→r (F (mid + m - 1 - d)) < r (F d))∧Hid (RowF wr g n F)∧Hid (Below B w wr)) (fun y z _=>(intOf z).toNat - (intOf y).toNat)
  case atStart=>exact ⟨lo,hi,Nat.le_refl _,hcut1.1,Nat.le_refl _,rfl,rfl,fun k h1 h2=>by omega,fun k h1 h2=>by omega,Hrow.out,Below.refl _ _⟩
  case round =>
   clear Hrow
   obtain ⟨i,j,hi1,hij,hj,rfl,rfl,HL,HG,HR,HB⟩:=hrel
   by_cases hlt:i < j
   ·have hlt':(i:Int) < j:=by omega
    obtain ⟨h1,h2⟩:=half_lt hlt
    have hh':((i:Int) + j) / 2=((i + j) / 2:Nat):=by omega
    generalize (i + j) / 2=h at *
    obtain ⟨X,x1,x2,hX,hXe⟩:=Hp3.out h (by omega) (by omega)
    have hu_:=Hup.out h (by omega) (by omega)
    have hdx_:=Hdn.out h (by omega) (by omega)
    rw [hXe] at hu_ hdx_
    have Hu:=hd_ hu_
    have Hd:=hd_ hdx_
    clear hu_ hdx_ hXe
    have Fh:=HM.out.bd h (by omega) (by omega)
    have Fx:=HM.out.bd X (by omega) (by omega)
    have Flt:=HM.out.lt h X (by omega) (by omega) (by omega) (by omega)
    have k1:=HR.out.cell (X) (by omega)
    have k0:=HR.out.cell (h) (by omega)
    have Hcall:=hd_ fun W hW=>Hcmp.out W hW (F (X)) (F (h)) (Fx) (Fh)
    have hcb:=Hc.out.bd (F (X)) (F (h))
    have q1:=BW.cell k1
    have q0:=BW.cell k0
    have hnon:Nonempty (BW wr):=⟨⟨wr,Below.refl _ _⟩⟩
    have I:Hid (Below wr.heap.size wr wr.drew):=(Below.refl _ _).drew
    have hBs:B≤wr.heap.size:=Nat.le_trans hB (Nat.le_of_lt HR.out.lt)
    go_wp2_with fail
    clear k0 k1
    refine RY.wp_region_readers 11 [(1,0),(1,1),(1,2),(1,3),(1,4),(1,5),(1,6),(1,7),(1,8),(1,9),(1,10),(0,11),(2,12),(0,13)] (fun w'=>∃ p:BW wr,w'=p.w) (by kernel_rfl) (by kernel_rfl) ?_ ?_
    ·exact ⟨⟨_,I.out⟩,rfl⟩
    iterate 11 (refine RY.walkR_read ?_; simp only [dsc_,dz_,tsc_,tz_]; go_big_quiet_step (fail); refine wpQuiet_nil ?_)
    clear hnon q0 q1
    refine RY.walkR_move ?_
    simp only [dsc_,dz_,tsc_,tz_]
    go_wp2_with fail
    refine cm_ (Hcall.out _ (HB.out.trans (I.out.mono hBs))) ?_
    rintro e_ w2 ⟨rfl,hb_⟩
    have D:Hid (Below wr.heap.size wr w2):=I.out.trans (hb_.mono I.out.size)
    have HR2:=hd_ (HR.out.below D.out nr_)
    have HB2:=hd_ (HB.out.trans (D.out.mono hBs))
    clear hb_ I D Hcall HR HB
    by_cases hneg:c (F X) (F h) < 0
    ·have HG2:=hd_ (Hd.out (Hc.out.yes Fh Fx Flt hneg))
     clear HG Fx Fh Flt Hu Hd
     generalize F (X)=x at hneg hcb ⊢
     generalize F (h)=y at hneg hcb ⊢
     generalize c x y=z at hneg hcb ⊢
     go_wp2_with fail
     refine RY.walkR_any ?_
     simp only [dsc_,dz_,tsc_,tz_]
     go_big_quiet_step (fail)
     refine wpQuiet_nil ?_
     refine RY.walkR_move ?_
     simp only [dsc_,dz_,tsc_,tz_]
     go_wp2_with fail
     simp only [RY.walkR]
     go_wp2
     go_roundw
     case rel=>exact ⟨i,h,hi1,h1,by omega,rfl,rfl,HL.out,HG2.out,HR2.out,HB2.out⟩
     case measure=>simp [intOf]; omega
    ·have HL2:=hd_ (Hu.out (Hc.out.no Fh Fx Flt hneg))
     clear HL Fx Fh Flt Hu Hd
     generalize F (X)=x at hneg hcb ⊢
     generalize F (h)=y at hneg hcb ⊢
     generalize c x y=z at hneg hcb ⊢
     go_wp2_with fail
     refine RY.walkR_any ?_
     simp only [dsc_,dz_,tsc_,tz_]
     go_big_quiet_step (fail)
     refine wpQuiet_nil ?_
     refine RY.walkR_move ?_
     simp only [dsc_,dz_,tsc_,tz_]
     go_wp2_with fail
     simp only [RY.walkR]
     go_wp2
     any_goals (exfalso; rename_i hh; rw [decide_eq_false (show ¬ z < 0 by omega)] at hh; cases hh; done)
     go_roundw
     case rel=>exact ⟨h + 1,j,by omega,by omega,hj,by go_num,rfl,HL2.out,HG.out,HR2.out,HB2.out⟩
     case measure=>simp [intOf]; omega
   ·have hlt':¬ (i:Int) < j:=by omega
    obtain rfl:i=j:=by omega
    obtain ⟨e,hE,hse,dd,hsm,hme⟩:=Hcr.out i ⟨hi1,hj,HL.out,HG.out⟩
    have D:=hd_ dd
    clear HL HG dd Hup Hdn Hcr Hp3
    go_upto_region 39 with fail
    go_cut [185] from 178 (fun y wx=>y = .bool (gB i m e)∧wr=wx)
    case first =>
     by_cases y1:i < m
     ·have y1':(i:Int) < m:=by omega
      by_cases y2:m < e
      ·have y2':(m:Int) < e:=by omega
       have G:=hd_ (gB_3 y1 y2)
       go_wp2_with fail
       go_meet
       exact ⟨by rw [G.out],rfl⟩
      ·have y2':decide ((m:Int) < e)=false:=decide_eq_false (by omega)
       have G:=hd_ (gB_2 y1 y2)
       go_wp2_with fail
       go_meet
       exact ⟨by rw [G.out],rfl⟩
     ·have y1':decide ((i:Int) < m)=false:=decide_eq_false (by omega)
      have G:=hd_ (gB_1 (z:=e) y1)
      go_wp2_with fail
      go_meet
      exact ⟨by rw [G.out],rfl⟩
    case rest =>
     obtain ⟨rfl,rfl⟩:=hcut
     have hen:=D.out.q4
     have hB1:B≤wr.heap.size:=Nat.le_trans hB (Nat.le_of_lt HR.out.lt)
     go_upto_if 185 with fail
     go_cut [24] from 178 (fun y wx=>y = .int .i64 e∧Hid (RowF wx g n (rotF F i (m - i) (e - m)))∧Hid (Below B w wx))
     case first =>
      cases hg:gB i m e
      ·have hno:=gB_no hg
       have HF:Hid (rotF F i (m - i) (e - m)=F):=by
        show _=_
        by_cases h1:i=m
        ·rw [h1,Nat.sub_self]; exact rotF_z2 F m (e - m)
        ·rw [show e=m by omega,Nat.sub_self]; exact rotF_z1 F i (m - i)
       clear hg hno
       go_wp2_with fail
       go_meet
       exact ⟨rfl,by rw [HF.out]; exact HR.out,HB.out⟩
      ·obtain ⟨y1,y2⟩:=gB_yes hg
       have Hrot:=hd_ (rotate_gen wr B g n cap i m e (.func (.func f) #[] lb) hB hn y1 y2 (by omega) F HR.out hB1)
       clear hg y1 y2
       go_wp2_with fail
       refine cm_ Hrot.out ?_
       rintro e_ w2 ⟨rfl,hr_,hb_⟩
       have HR2:=hd_ hr_
       have HB2:=hd_ (HB.out.trans hb_)
       clear hr_ hb_ Hrot HR HB
       go_wp2_with fail
       go_meet
       exact ⟨rfl,HR2.out,HB2.out⟩
     case rest =>
      obtain ⟨rfl,HR2,HB2⟩:=hcut
      clear HR HB
      generalize rotF F i (m - i) (e - m)=F2 at *
      go_upto_region 41 with fail
      go_cut [199] from 192 (fun y wx=>y = .bool (gB a i mid)∧wc=wx)
      case first =>
       by_cases y1:a < i
       ·have y1':(a:Int) < i:=by omega
        by_cases y2:i < mid
        ·have y2':(i:Int) < mid:=by omega
         have G:=hd_ (gB_3 y1 y2)
         go_wp2_with fail
         go_meet
         exact ⟨by rw [G.out],rfl⟩
        ·have y2':decide ((i:Int) < mid)=false:=decide_eq_false (by omega)
         have G:=hd_ (gB_2 y1 y2)
         go_wp2_with fail
         go_meet
         exact ⟨by rw [G.out],rfl⟩
       ·have y1':decide ((a:Int) < i)=false:=decide_eq_false (by omega)
        have G:=hd_ (gB_1 (z:=mid) y1)
        go_wp2_with fail
        go_meet
        exact ⟨by rw [G.out],rfl⟩
      case rest =>
       obtain ⟨rfl,rfl⟩:=hcut
       go_upto_if 199 with fail
       go_cut [24] from 192 (fun y wx=>y = .int .i64 e∧Hid (∃ F3,PmB F2 F3 a mid∧SoB (fun k=>r (F3 k)) a mid∧RowF wx g n F3)∧Hid (Below B w wx))
       case first =>
        cases hg:gB a i mid
        ·have HF:=hd_ (D.out.none1 (gB_no hg))
         clear hg
         go_wp2_with fail
         go_meet
         exact ⟨rfl,⟨F2,PmB.refl _ _ _,HF.out,HR2.out⟩,HB2.out⟩
        ·obtain ⟨y1,y2⟩:=gB_yes hg
         have Hih:=hd_ (HI.out wc a i mid F2 nr_ (by omega) (by omega) (D.out.sub1 y1 y2) HR2.out HB2.out)
         clear hg y1 y2
         go_wp2_with fail
         refine cm_ Hih.out ?_
         rintro e_ w2 ⟨rfl,dd⟩
         obtain ⟨F3,z1,z2,z3⟩:=dd.ex
         have HX:Hid (∃ F3,PmB F2 F3 a mid∧SoB (fun k=>r (F3 k)) a mid∧RowF w2 g n F3):=⟨F3,z2,z1,z3⟩
         have HB3:=hd_ (HB2.out.trans dd.bel)
         clear dd z1 z2 z3 F3 Hih HR2 HB2
         go_wp2_with fail
         go_meet
         exact ⟨rfl,HX,HB3.out⟩
       case rest =>
        obtain ⟨rfl,HX,HB3⟩:=hcut
        obtain ⟨F3,z1,z2,z3⟩:=HX.out
        have P3:=hd_ z1
        have S3:=hd_ z2
        have HR3:=hd_ z3
        clear HX z1 z2 z3 HR2 HB2
        go_upto_region 43 with fail
        go_cut [213] from 206 (fun y wx=>y = .bool (gB mid e b)∧wc=wx)
        case first =>
         by_cases y1:mid < e
         ·have y1':(mid:Int) < e:=by omega
          by_cases y2:e < b
          ·have y2':(e:Int) < b:=by omega
           have G:=hd_ (gB_3 y1 y2)
           go_wp2_with fail
           go_meet
           exact ⟨by rw [G.out],rfl⟩
          ·have y2':decide ((e:Int) < b)=false:=decide_eq_false (by omega)
           have G:=hd_ (gB_2 y1 y2)
           go_wp2_with fail
           go_meet
           exact ⟨by rw [G.out],rfl⟩
         ·have y1':decide ((mid:Int) < e)=false:=decide_eq_false (by omega)
          have G:=hd_ (gB_1 (z:=b) y1)
          go_wp2_with fail
          go_meet
          exact ⟨by rw [G.out],rfl⟩
        case rest =>
         obtain ⟨rfl,rfl⟩:=hcut
         cases hg:gB mid e b
         ·have HF:=hd_ (D.out.fin P3.out S3.out (PmB.refl _ _ _) (D.out.none2 P3.out (gB_no hg)))
          clear hg
          go_wp2
          go_end0
          exact ⟨rfl,⟨F3,HF.out.1,HF.out.2,HR3.out⟩,HB3.out⟩
         ·obtain ⟨y1,y2⟩:=gB_yes hg
          have Hih:=hd_ (HI.out wc mid e b F3 (by omega) nr_ (by omega) (D.out.sub2 P3.out y1 y2) HR3.out HB3.out)
          clear hg y1 y2
          go_wp2_with fail
          refine cm_ Hih.out ?_
          rintro e_ w2 ⟨rfl,dd⟩
          obtain ⟨F4,z1,z2,z3⟩:=dd.ex
          have HF:=hd_ (D.out.fin P3.out S3.out z2 z1)
          have HR4:=hd_ z3
          have HB4:=hd_ (HB3.out.trans dd.bel)
          clear dd z1 z2 z3 Hih HR3 HB3
          go_wp2
          go_end0
          exact ⟨rfl,⟨F4,HF.out.1,HF.out.2,HR4.out⟩,HB4.out⟩
end Go.Proofs.YtkoicfghplmghaaGreatDoor
