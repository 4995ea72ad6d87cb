/- Lemmas for the laws of this seat, part 2. -/
import Derived.Lib.ItoaMem
import Derived.Lib.ParseIntBCases
import Derived.Lib.AtoiErrMem
import Derived.Maps.AppendAt
import Derived.StillTail
import Derived.Lib.QuietBelow
import Derived.Test.YtbielfplgbammaaGreatDoorRows
import Derived.Stop.LaidErr
import Derived.Lib.LaidTab
import Derived.ProofKit
import Derived.LaidMore
import Derived.OpenShut
import Derived.Stop.Joined
import Derived.MakeChecks
import Derived.BigQuiet
import Derived.Test.YtbielfplgbammaaGreatDoorWl1
set_option maxRecDepth 100000
set_option maxHeartbeats 16000000
namespace Go.Proofs.YtbielfplgbammaaGreatDoor
open Go.RowKit
theorem Qo(n:Nat):(dec n).size=(Lib.decDigits n).length:=by
 unfold dec bs;simp[ByteArray.size]
theorem Za7(n:Nat):lb (dec n)=Lib.decDigits n:=by unfold dec;simp
instance (l:List UInt8):Decidable (Zcm l):=by
 unfold Zcm Zdc;infer_instance
theorem Zq7(l:List UInt8)(hd:Zdc l):decide (Zcm l)=(decide (l.length=1)||(decide (1<l.length)&&decide ((l.getD 0 0).toNat≠48))):=by
 unfold Zcm;cases l with
 | nil=>simp
 | cons x l =>
  have hx:x=48↔x.toNat=48:=⟨fun h=>by rw[h];rfl,fun h=>UInt8.toNat_inj.1 h⟩
  cases l with
  | nil=>simp[hd]
  | cons y l =>
   simp[hd,hx]
theorem Zy9(w:World)(s:ByteArray)(h:0<s.size):
  (Instr.index 38 (.string s) (.int .i64 0)).run Tryz.prog w = .ok (.int .u8 ((lb s).getD 0 0).toNat) w:=by
 rw[run_index_string _ _ _ _ _ Tryz.underlying38];have h2:(0:Int)≤0∧(0:Int)<s.size:=by omega
 rw[dif_pos h2];have e:(lb s).getD 0 0=s[(0:Int).toNat]'(by omega):=by
  unfold lb;rw[List.getD_eq_getElem?_getD,List.getElem?_eq_getElem (show 0<s.data.toList.length by rw[Array.length_toList];exact h)]
  rfl
 rw[e]
theorem Zkg(w:World)(s:ByteArray)(hl:s.size≤10000000):
  Kc Tryz.prog 300 #[.string s] w (.bool (decide (Zcm (lb s)))):=by
 unfold Kc;have Hlb:=hd_ (Kr s);have hcv:=Lib.run_convert_string_bytes (P:=Tryz.prog) w 38 81 5 s Tryz.underlying38 Tryz.underlying81 Tryz.underlying5;have Hb:=hd_ (Yr w 5 s);have Hcells:Hid (∀ t,t<s.size→(Lib.bytesWorld w 5 s).cell? ⟨w.heap.size,t,none⟩=some (.int .u8 ((lb s).getD t 0).toNat)):=fun t ht=>Lib.bytesWorld_cell w _ s t ht
 have Hix:Hid (0<s.size→∀ W,(Instr.index 38 (.string s) (.int .i64 0)).run Tryz.prog W = .ok (.int .u8 ((lb s).getD 0 0).toNat) W):=fun h W=>Zy9 W s h
 go_enter Tryz.func300,Tryz.ntmps300
 go_wp2_with fail
 generalize Lib.bytesWorld w 5 s=w2 at *
 generalize grownCap w s.size 0 5=cap at *
 go_loop [8] (fun i=>∃ t:Nat,t≤s.size∧i = .int .i64 t∧Hid (Zdc ((lb s).take t))) (fun i=>s.size-(intOf i).toNat)
 case atStart=>exact⟨0,Nat.zero_le _,rfl,fun c hc=>by simp at hc⟩
 case round =>
  obtain⟨t,ht,rfl,HD⟩:=hrel
  by_cases hlt:t<s.size
  ·have cx:=Hcells.out t hlt;have htl:t<(lb s).length:=by rw[Hlb.out];exact hlt
   have Hgt:Hid ((lb s).getD t 0=(lb s)[t]):=by
    show _=_
    rw[List.getD_eq_getElem?_getD,List.getElem?_eq_getElem htl];rfl
   have Hu:Hid ((lb s).getD t 0∈lb s):=by
    show _∈_
    rw[Hgt.out];exact List.getElem_mem _
   have Hnext:Hid ((lb s).take (t+1)=(lb s).take t++[(lb s).getD t 0]):=by
    show _=_
    rw[List.take_succ_eq_append_getElem htl,Hgt.out]
   generalize (lb s).getD t 0=u at *
   have hu8:u.toNat<256:=u.toNat_lt
   by_cases hg:48≤u.toNat∧u.toNat≤57
   ·obtain⟨hg1,hg2⟩:=hg;have HD2:Hid (Zdc ((lb s).take (t+1))):=by
     show Zdc _
     rw[Hnext.out];intro c hc;rcases List.mem_append.1 hc with h|h
     ·exact HD.out c h
     ·obtain rfl:=List.mem_singleton.1 h;exact⟨hg1,hg2⟩
    clear Hnext Hgt Hu;generalize u.toNat=c at *
    go_wp2
    go_round
    case rel=>exact⟨t+1,by omega,by go_num,HD2⟩
    case measure=>simp[intOf];omega
   ·have Hno:Hid (decide (Zcm (lb s))=false):=by
     show _=_
     rw[decide_eq_false_iff_not];intro hc;exact hg (hc.1 u Hu.out)
    clear Hnext Hgt Hu;generalize u.toNat=c at *
    by_cases hlo:c<48
    ·go_wp2;go_ret;exact⟨by rw[Hno.out];rfl,Hb.out⟩
    ·have h57:57<c:=by omega
     go_wp2;go_ret;exact⟨by rw[Hno.out];rfl,Hb.out⟩
  ·obtain rfl:t=s.size:=by omega
   have Hcan:=Zq7 (lb s) (by have:=HD.out;rw[← Hlb.out,List.take_length] at this;exact this)
   rw[Hlb.out] at Hcan;have Hc:=hd_ Hcan;clear Hcan HD Hcells Hlb;have hix:0<s.size→∀ W,(Instr.index 38 (.string s) (.int .i64 0)).run Tryz.prog W = .ok (.int .u8 ((lb s).getD 0 0).toNat) W:=Hix.out;clear Hix
   by_cases h1:1<s.size
   ·have hix2:=hix (by omega)
    clear hix;generalize ((lb s).getD 0 0).toNat=c at *
    by_cases hc:c=48
    ·have hc':¬ s.size=1:=by omega
     have Hv:Hid (decide (Zcm (lb s))=false):=by
      show _=_
      rw[Hc.out];simp[hc,hc']
     subst hc;have hne:((s.size:Int)==1)=false:=by rw[beq_eq_false_iff_ne];omega
     clear Hc;go_wp2;go_ret;exact⟨by rw[Hv.out];rfl,Hb.out⟩
    ·have Hv:Hid (decide (Zcm (lb s))=true):=by
      show _=_
      rw[Hc.out];simp[hc,h1]
     have hne:((s.size:Int)==1)=false:=by rw[beq_eq_false_iff_ne];omega
     have hne2:((c:Int) != 48)=true:=by simp only[bne_iff_ne,ne_eq];omega
     clear Hc;go_wp2;go_ret;exact⟨by rw[Hv.out];rfl,Hb.out⟩
   ·by_cases h2:s.size=1
    ·have Hv:Hid (decide (Zcm (lb s))=true):=by
      show _=_
      rw[Hc.out];simp[h2]
     have hs1:(s.size:Int)=1:=by omega
     clear Hc hix;go_wp2;go_ret;exact⟨by rw[Hv.out];rfl,Hb.out⟩
    ·have Hv:Hid (decide (Zcm (lb s))=false):=by
      show _=_
      rw[Hc.out];simp[h2,h1]
     have hs1:(s.size:Int)=0:=by omega
     clear Hc hix;go_wp2;go_ret;exact⟨by rw[Hv.out];rfl,Hb.out⟩
theorem Zma(w:World)(s:ByteArray)(hl:s.size≤10000000):
  Kc Tryz.prog 270 #[.string s] w (.int .i64 (if Zcm (lb s)∧s.size≤400 then 0 else 2)):=by
 unfold Kc;have Hc:=hd_ (Zkg w s hl)
 by_cases hc:Zcm (lb s)
 ·rw[decide_eq_true hc] at Hc
  by_cases h4:s.size≤400
  ·rw[if_pos ⟨hc,h4⟩];clear hc;go_enter Tryz.func270,Tryz.ntmps270
   go_wp2_with fail
   refine cm_ Hc.out ?_;rintro e w1 ⟨rfl,hb⟩;have Hb:=hd_ hb;clear hb;go_wp2;go_ret;exact⟨rfl,Hb.out⟩
  ·rw[if_neg (fun h=>h4 h.2)]
   clear hc;go_enter Tryz.func270,Tryz.ntmps270
   go_wp2_with fail
   refine cm_ Hc.out ?_;rintro e w1 ⟨rfl,hb⟩;have Hb:=hd_ hb;clear hb;go_wp2;go_ret;exact⟨rfl,Hb.out⟩
 ·rw[decide_eq_false hc] at Hc;rw[if_neg (fun h=>hc h.1)]
  clear hc;go_enter Tryz.func270,Tryz.ntmps270
  go_wp2_with fail
  refine cm_ Hc.out ?_;rintro e w1 ⟨rfl,hb⟩;have Hb:=hd_ hb;clear hb;go_wp2;go_ret;exact⟨rfl,Hb.out⟩
theorem Yh(s:ByteArray):s.toList=lb s:=by
 exact ByteArray.toList_eq s
theorem Zvk(a b:Nat)(h:(Lib.decDigits a).length=(Lib.decDigits b).length):Op.bytesLess (dec a).toList (dec b).toList=decide (a<b):=by
 rw[Yh,Yh,Za7,Za7];have:=Zl0 _ _ (Za9 a) (Za9 b) h
 rw[Za8,Za8] at this
 by_cases hlt:a<b
 ·rw[decide_eq_true hlt];exact this.2 hlt
 ·rw[decide_eq_false hlt];cases hx:Op.bytesLess (Lib.decDigits a) (Lib.decDigits b) with
  | false=>rfl
  | true=>exact absurd (this.1 hx) hlt
theorem Zjo(a b:Nat):((dec a).toList==(dec b).toList)=decide (a=b):=by
 rw[Yh,Yh,Za7,Za7]
 by_cases h:a=b
 ·subst h;simp
 ·rw[decide_eq_false h,beq_eq_false_iff_ne];exact fun e=>h (Zts e)
theorem Zba(w:World)(a b:Nat)(ha:(dec a).size≤10000000)(hb:(dec b).size≤10000000):
  Kc Tryz.prog 60 #[.string (dec a),.string (dec b)] w (.int .i64 (Zay a b)):=by
 unfold Kc
 by_cases hlen:(dec a).size=(dec b).size
 ·have hl2:(Lib.decDigits a).length=(Lib.decDigits b).length:=by rw[← Qo,← Qo];exact hlen
  have h1:=Zvk a b hl2;have h2:=Zjo a b;have hlen2:(((dec a).size:Int) != (dec b).size)=false:=by simp[hlen]
  rcases Nat.lt_trichotomy a b with hlt|heq|hgt
  ·have Hv:Hid (Zay a b = -1):=by show _=_;unfold Zay;rw[if_pos hlt]
   rw[decide_eq_true hlt] at h1;clear h2 hl2 hlen hlt;generalize dec a=s at *
   generalize dec b=t at *
   go_enter Tryz.func60,Tryz.ntmps60;go_wp2;go_ret;exact⟨by rw[Hv.out];rfl,Below.refl _ _⟩
  ·have Hv:Hid (Zay a b=0):=by show _=_;unfold Zay;rw[if_neg (by omega),if_pos heq]
   rw[decide_eq_false (show ¬ a<b by omega)] at h1
   rw[decide_eq_true heq] at h2;clear hl2 hlen heq;generalize dec a=s at *
   generalize dec b=t at *
   go_enter Tryz.func60,Tryz.ntmps60;go_wp2;go_ret;exact⟨by rw[Hv.out];rfl,Below.refl _ _⟩
  ·have Hv:Hid (Zay a b=1):=by show _=_;unfold Zay;rw[if_neg (by omega),if_neg (by omega)]
   rw[decide_eq_false (show ¬ a<b by omega)] at h1
   rw[decide_eq_false (show ¬ a=b by omega)] at h2
   clear hl2 hlen hgt;generalize dec a=s at *
   generalize dec b=t at *
   go_enter Tryz.func60,Tryz.ntmps60;go_wp2;go_ret;exact⟨by rw[Hv.out];rfl,Below.refl _ _⟩
 ·rcases Nat.lt_or_gt_of_ne hlen with h | h
  ·have Hv:Hid (Zay a b = -1):=by
    show _=_
    have:=Zfk (a:=a) (b:=b) (by rw[← Qo,← Qo];exact h)
    unfold Zay;rw[if_pos this]
   clear hlen;generalize dec a=s at *
   generalize dec b=t at *
   have hnn:((s.size:Int) != t.size)=true:=by rw[bne_iff_ne];omega
   have hnn2:((s.size:Int)==t.size)=false:=by rw[beq_eq_false_iff_ne];omega
   go_enter Tryz.func60,Tryz.ntmps60;go_wp2
   all_goals
    go_ret;exact⟨by rw[Hv.out];first | rfl | exact Zjt (by omega),Below.refl _ _⟩
  ·have Hv:Hid (Zay a b=1):=by
    show _=_
    have:=Zfk (a:=b) (b:=a) (by rw[← Qo,← Qo];exact h)
    unfold Zay;rw[if_neg (by omega),if_neg (by omega)]
   clear hlen;generalize dec a=s at *
   generalize dec b=t at *
   have hnn:((s.size:Int) != t.size)=true:=by rw[bne_iff_ne];omega
   have hnn2:((s.size:Int)==t.size)=false:=by rw[beq_eq_false_iff_ne];omega
   go_enter Tryz.func60,Tryz.ntmps60;go_wp2
   all_goals
    go_ret;exact⟨by rw[Hv.out];first | rfl | exact Zjt (by omega),Below.refl _ _⟩
/-! The library's variables. -/
def Zui (w:World) (g:Nat):Prop:=∃ ev,w.cell? ⟨g,0,none⟩=some ev∧(ev = .nilIface∨∃ te pe,ev = .iface te pe)
theorem Zui.below{w w':World}{g:Nat}(h:Zui w g)(b:Below w.heap.size w w'):Zui w' g:=by
 obtain⟨ev,h1,h2⟩:=h;exact⟨ev,by rw[b.cell (Lib.lt_of_cell h1)];exact h1,h2⟩
structure Qx (w:World):Prop where
 tab : Lib.TabIs Tryz.prog w "internal/strconv.uint64pow10" .u64 Lib.pow10Tab
 range:Zui w 1
 syn:Zui w 0
theorem Zfc : Tryz.prog.globalNamed "internal/strconv.uint64pow10" = some 2 := by kernel_rfl
theorem Qx.below{w w':World}(h:Qx w)(b:Below w.heap.size w w'):Qx w':=by
 refine⟨?_,h.range.below b,h.syn.below b⟩;have hc:=Lib.TabIs.cell h.tab Zfc 0 (by decide)
 exact var?_below b Zfc (Lib.lt_of_cell hc) h.tab
theorem Qbg:Tryz.prog.arrayLen 330=24:=by simp[Program.arrayLen,Tryz.underlying330]
theorem Zqt(w:World)(n:Nat)(hn:n<18446744073709551616)(L:Qx w):
  Kc Tryz.prog 269 #[.int .u64 n,.int .i64 10] w (.string (dec n)):=by
 unfold Kc
 by_cases hs:n<100
 ·have Hs:=hd_ (fun w'=>Tryz.internal_strconv_small n hs w')
  have Hd:Hid (dec n=⟨(Lib.decDigits n).toArray⟩):=rfl;go_enter Tryz.func269,Tryz.ntmps269
  go_wp2_with fail
  refine cm_ (Hs.out _) ?_;rintro e w1 ⟨rfl,rfl⟩;go_wp2;go_ret;exact⟨by rw[Hd.out];rfl,Below.refl _ _⟩
 ·have hu1:1≤n:=by omega
  have hnd20:Lib.nDigits n≤20:=by have:=Lib.numDigits_eq n hu1 hn;split at this<;>omega
  have htab:=Lib.tabIs_alloc L.tab (.cells Lib.zeros24 330);have Hnd:=hd_ (Tryz.internal_strconv_numDigits n hu1 hn _ htab);have hsl:∀ W,(Instr.sliceAt 330 (.pointer (some ⟨w.heap.size,0,none⟩)) none (some (.int .i64 (Lib.nDigits n:Int))) none).run Tryz.prog W = .ok (.slice (some ⟨w.heap.size,0,none⟩) (Lib.nDigits n) 24) W:=fun W=>by
   rw[run_sliceAt_array_h W 330 ⟨w.heap.size,0,none⟩ (by simp[Program.arrayLen,Program.elem,Tryz.underlying330]) .i64 (Lib.nDigits n:Int) (by omega) (by rw[Qbg];omega)]
   go_simp
  have hH0:Go.Sort.Holds (fun (b:UInt8)=>Value.int .u8 (b.toNat:Int)) (w.alloc (.cells Lib.zeros24 330)) w.heap.size 0 (Array.replicate (Lib.nDigits n) (0:UInt8)):=fun j hj=>by
   have hj':j<Lib.nDigits n:=by simpa using hj
   refine⟨?_,World.frozen?_alloc_new _ _ _ _⟩;rw[World.cell?_alloc_new,Lib.zeros24_at _ (by omega),getElem!_pos _ j hj]
   simp
  have hfmt:=Tryz.internal_strconv_formatBase10 w.heap.size 0 24 n (Array.replicate (Lib.nDigits n) 0) (w.alloc (.cells Lib.zeros24 330)) hH0 (by rw[Array.size_replicate];exact Lib.lt_pow_nDigits n) hn (by rw[Array.size_replicate];omega)
  rw[Array.size_replicate] at hfmt;have Hfmt:=hd_ hfmt;have HH0:=hd_ hH0;have Hd:Hid (dec n=⟨(Lib.decDigits n).toArray⟩):=rfl;have hn100:¬ (n:Int)<100:=by omega
  clear hH0 hfmt htab;go_enter Tryz.func269,Tryz.ntmps269
  go_wp2_with fail
  refine cm_ Hnd.out ?_;rintro e w1 ⟨rfl,rfl⟩
  go_wp2_with fail
  refine cm_ Hfmt.out ?_;rintro e w1 ⟨rfl,k,v',dk,rfl,hF⟩;have hcv:(convert 81 9 (.slice (some ⟨w.heap.size,0,none⟩) (Lib.nDigits n) 24)).run Tryz.prog ((Go.Sort.putRow (fun (b:UInt8)=>Value.int .u8 (b.toNat:Int)) (w.alloc (.cells Lib.zeros24 330)) w.heap.size 0 dk).drewN k) = .ok (.string ⟨(Lib.decDigits n).toArray⟩) ((Go.Sort.putRow (fun (b:UInt8)=>Value.int .u8 (b.toNat:Int)) (w.alloc (.cells Lib.zeros24 330)) w.heap.size 0 dk).drewN k):=by
   have h:=run_convert_bytes_back (P:=Tryz.prog) ((Go.Sort.putRow (fun (b:UInt8)=>Value.int .u8 (b.toNat:Int)) (w.alloc (.cells Lib.zeros24 330)) w.heap.size 0 dk).drewN k) 81 9 5 ⟨w.heap.size,0,none⟩ 24 (Lib.decDigits n) Tryz.underlying81 Tryz.underlying5 Tryz.underlying9 (fun j hj=>by
    rw[Lib.row_is_numeral hF j hj,Lib.add_plain,World.cell?_drewN];exact Go.Sort.cell?_putRow (fun (b:UInt8)=>Value.int .u8 (b.toNat:Int)) _ w.heap.size 0 _ dk HH0.out (by rw[hF.size,Array.size_replicate]) j (by rw[hF.size];rw[Lib.decDigits_length] at hj;exact hj))
   rw[Lib.decDigits_length] at h;exact h
  have hbel:Below w.heap.size w ((Go.Sort.putRow (fun (b:UInt8)=>Value.int .u8 (b.toNat:Int)) (w.alloc (.cells Lib.zeros24 330)) w.heap.size 0 dk).drewN k) :=
   Lib.below_putRow (q:=k) ((Below.refl _ _).alloc nr_ _) nr_
  have Hbel:=hd_ hbel;clear hbel HH0 hF;generalize (Go.Sort.putRow (fun (b:UInt8)=>Value.int .u8 (b.toNat:Int)) (w.alloc (.cells Lib.zeros24 330)) w.heap.size 0 dk).drewN k=w2 at *
  go_wp2;go_ret;exact⟨by rw[Hd.out];rfl,Hbel.out⟩
theorem Zng(w:World)(n:Nat)(hn:n<18446744073709551616)(L:Qx w):
  Kc Tryz.prog 216 #[.int .u64 n,.int .i64 10] w (.string (dec n)):=by
 unfold Kc;have Hc:=hd_ (Zqt w n hn L);go_enter Tryz.func216,Tryz.ntmps216
 go_wp2_with fail
 refine cm_ Hc.out ?_;rintro e w1 ⟨rfl,hb⟩;have Hb:=hd_ hb;clear hb;go_wp2;go_ret;exact⟨rfl,Hb.out⟩
theorem Zlg(w:World)(n:Nat)(hn:n<18446744073709551616)(L:Qx w):
  Kc Tryz.prog 133 #[.int .u64 n] w (.string (dec n)):=by
 unfold Kc;have Hc:=hd_ (Zng w n hn L);go_enter Tryz.func133,Tryz.ntmps133
 go_wp2_with fail
 refine cm_ Hc.out ?_;rintro e w1 ⟨rfl,hb⟩;have Hb:=hd_ hb;clear hb;go_wp2;go_ret;exact⟨rfl,Hb.out⟩
/-! From text to a number. -/
theorem Zip:∀ (l:List UInt8) (acc:Nat),Zdc l→acc<18446744073709551616 →
  Lib.parseUint10 acc l=if acc*10^l.length+Vt l<18446744073709551616 then .ok (acc*10^l.length+Vt l) else .range
 | [],acc,_,ha=>by simp[Lib.parseUint10,Vt,ha]
 | c::r,acc,hd,ha=>by
  have hc:=hd c List.mem_cons_self;have hr:Zdc r:=fun x hx=>hd x (List.mem_cons_of_mem _ hx)
  have hp:0<10^r.length:=Nat.pow_pos (by decide)
  have hv:acc*10^(c::r).length+Vt (c::r)=(acc*10+(c.toNat-48))*10^r.length+Vt r:=by
   rw[Zav,List.length_cons,Nat.pow_succ,Nat.add_mul];rw[Nat.mul_assoc,Nat.mul_comm 10 (10^r.length)];omega
  rw[hv];have hge:acc*10+(c.toNat-48)≤(acc*10+(c.toNat-48))*10^r.length:=Nat.le_mul_of_pos_right _ hp;simp only[Lib.parseUint10];rw[if_pos hc]
  by_cases h1:1844674407370955162≤acc
  ·rw[if_pos h1,if_neg (by omega)]
  ·rw[if_neg h1]
   by_cases h2:18446744073709551616≤acc*10+(c.toNat-48)
   ·rw[if_pos h2,if_neg (by omega)]
   ·rw[if_neg h2,Zip r _ hr (by omega)]
theorem Zlc(n:Nat):Lib.parseUintB 64 (dec n).data.toList=if n<18446744073709551616 then .ok n else .range:=by
 show Lib.parseUintB 64 (lb (dec n))=_
 rw[Za7,Lib.parseUintB_64];unfold Lib.parseMag;have h:=Zaf n;rw[if_neg (by intro e;rw[e] at h;simp at h),Zip _ 0 (Za9 n) (by decide),Za8]
 simp
theorem Ze6(w:World)(n:Nat)(hs:(dec n).size≤10000000)(L:Qx w):
  Kc Tryz.prog 211 #[.string (dec n)] w (if n<18446744073709551616 then .tuple #[.int .u64 n,.bool true] else .tuple #[.int .u64 0,.bool false]):=by
 unfold Kc;have hp:=Zlc n
 by_cases hn:n<18446744073709551616
 ·rw[if_pos hn] at hp ⊢;have Hc:=hd_ (Tryz.strconv_ParseUint_10_at64_ok (dec n) (by omega) n hp w)
  have Hb0:=hd_ (Yr w 5 (dec n));clear hp;generalize dec n=s at *
  go_enter Tryz.func211,Tryz.ntmps211
  go_wp2_with fail
  refine cm_ Hc.out ?_;rintro e w1 ⟨rfl,hw⟩;have Hb:Hid (Below w.heap.size w w1):=by
   show Below _ _ _
   rcases hw with rfl|rfl
   ·exact Below.refl _ _
   ·exact Hb0.out
  clear hw;go_wp2
  go_ret2
  exact⟨rfl,Hb.out⟩
 ·rw[if_neg hn] at hp ⊢;obtain⟨ev,hv,hev⟩:=L.range;have Hc:=hd_ (Tryz.strconv_ParseUint_10_at64_range (dec n) (by omega) hp ev w hv hev)
  clear hp hv hev;generalize dec n=s at *
  go_enter Tryz.func211,Tryz.ntmps211
  go_wp2_with fail
  refine cm_ Hc.out ?_;rintro e w1 ⟨N,rfl,-,-,hb⟩;have Hb:=hd_ hb;clear hb;go_wp2
  go_ret2
  exact⟨rfl,Hb.out⟩
theorem Vj(n:Nat):(dec n).size≤18↔n<1000000000000000000:=by
 rw[Qo,Qh n 18 (by decide)]
theorem Zf6(w:World)(a b:Nat)(ha:(dec a).size≤10000000)(hb:(dec b).size≤10000000)(L:Qx w):
  Kc Tryz.prog 132 #[.string (dec a),.string (dec b)] w (if a<1000000000000000000∧b<1000000000000000000 then .tuple #[.int .u64 a,.int .u64 b,.bool true] else .tuple #[.int .u64 0,.int .u64 0,.bool false]):=by
 unfold Kc
 by_cases h1:a<1000000000000000000
 ·by_cases h2:b<1000000000000000000
  ·rw[if_pos ⟨h1,h2⟩];have s1:=(Vj a).2 h1;have s2:=(Vj b).2 h2;have Hc1:=hd_ (Ze6 w a ha L);rw[if_pos (by omega)] at Hc1
   have Hc2:Hid (∀ w',Below w.heap.size w w'→Calls Tryz.prog 211 #[.string (dec b)] w' fun e w''=>e = .returned (.tuple #[.int .u64 b,.bool true])∧Below w'.heap.size w' w''):=fun w' hb'=>by
    have:=Ze6 w' b hb (L.below hb')
    rw[if_pos (by omega)] at this
    exact this
   clear L;generalize dec a=s at *
   generalize dec b=t at *
   go_enter Tryz.func132,Tryz.ntmps132
   go_wp2_with fail
   refine cm_ Hc1.out ?_;rintro e w1 ⟨rfl,hb1⟩;have Hb1:=hd_ hb1;clear hb1
   go_wp2_with fail
   refine cm_ (Hc2.out w1 Hb1.out) ?_;rintro e w2 ⟨rfl,hb2⟩;have Hb2:=hd_ (Hb1.out.trans (hb2.mono Hb1.out.size));clear hb2 Hb1;go_wp2
   go_ret3
   exact⟨rfl,Hb2.out⟩
  ·rw[if_neg (fun h=>h2 h.2)]
   have s1:=(Vj a).2 h1;have s2:¬ (dec b).size≤18:=fun h=>h2 ((Vj b).1 h)
   clear L;generalize dec a=s at *
   generalize dec b=t at *
   go_enter Tryz.func132,Tryz.ntmps132;go_wp2
   go_ret3
   exact⟨rfl,Below.refl _ _⟩
 ·rw[if_neg (fun h=>h1 h.1)]
  have s1:¬ (dec a).size≤18:=fun h=>h1 ((Vj a).1 h)
  clear L;generalize dec a=s at *
  generalize dec b=t at *
  go_enter Tryz.func132,Tryz.ntmps132;go_wp2
  go_ret3
  exact⟨rfl,Below.refl _ _⟩
def Num (n:Nat):Prop:=(dec n).size≤1000000
theorem Vh(n k:Nat)(hk:0<k)(h:(dec n).size≤k):(Kf n).length≤k:=by
 rw[Qo,Qh n k hk] at h;rw[Kn];exact Nat.lt_of_lt_of_le h (Nat.pow_le_pow_left (by decide) k)
theorem Zv7{a b:Nat}(h:a≤b):(dec a).size≤(dec b).size:=by
 rw[Qo,Qo];rcases Nat.lt_or_ge (Lib.decDigits b).length (Lib.decDigits a).length with h2|h2
 ·have:=Zfk h2;omega
 ·exact h2
theorem Num.le{a b:Nat}(hb:Num b)(h:a≤b):Num a:=Nat.le_trans (Zv7 h) hb
theorem Zln(a b:Nat):(Kf (a*b)).length≤(Kf a).length+(Kf b).length:=by
 rw[Kn,Nat.pow_add];exact Nat.mul_lt_mul'' ((Kn a _).1 nr_) ((Kn b _).1 nr_)
theorem Zc6:dec 0=⟨#[48]⟩:=by
 unfold dec;rw[Yi (by omega)];rfl
theorem Zcf:dec 1=⟨#[49]⟩:=by
 unfold dec;rw[Yi (by omega)];rfl
theorem Zv8(w:World)(n:Nat)(h:Num n):Zex 128 #[.string (dec n)] w n:=by
 have:=Zym (dec n) w (by rw[Za7];exact Za9 n) (Nat.le_trans h (by decide))
 rw[Za7,Za8] at this;exact this
theorem Zsw(w:World)(a b:Nat)(ha:Num a)(hb:Num b)(L:Qx w):
  Kc Tryz.prog 55 #[.string (dec a),.string (dec b)] w (.string (dec (a*b))):=by
 unfold Kc;have ha':(dec a).size≤1000000:=ha;have hb':(dec b).size≤1000000:=hb
 by_cases hs:(dec a).size+(dec b).size≤18
 ·have h1:=(Vj a).1 (by omega)
  have h2:=(Vj b).1 (by omega)
  have hab:a*b<1000000000000000000:=by
   have e1:=(Qh a (Lib.decDigits a).length (Zaf a)).1 nr_;have e2:=(Qh b (Lib.decDigits b).length (Zaf b)).1 nr_;rw[← Qo] at e1 e2;have e3:a*b<10^((dec a).size+(dec b).size):=by
    rw[Nat.pow_add];exact Nat.mul_lt_mul'' e1 e2
   have e4:10^((dec a).size+(dec b).size)≤10^18:=Nat.pow_le_pow_right (by decide) hs
   exact Nat.lt_of_lt_of_le e3 e4
  have Hc1:=hd_ (Zf6 w a b (by omega) (by omega) L)
  rw[if_pos ⟨h1,h2⟩] at Hc1;have Hc2:Hid (∀ w',Below w.heap.size w w'→Kc Tryz.prog 133 #[.int .u64 (a*b:Nat)] w' (.string (dec (a*b)))):=fun w' hb'=>Zlg w' (a*b) (by omega) (L.below hb')
  have hwr:IntKind.u64.wrap ((a:Int)*(b:Int))=((a*b:Nat):Int):=by rw[← Int.natCast_mul];exact Zco _ (by omega)
  have hs':((dec a).size:Int)+(dec b).size≤18:=by omega
  clear L;generalize dec (a*b)=r at *
  generalize dec a=s at *
  generalize dec b=t at *
  generalize a*b=m at *
  go_enter Tryz.func55,Tryz.ntmps55
  go_wp2_with fail
  refine cm_ Hc1.out ?_;rintro e w1 ⟨rfl,hb1⟩;have Hb1:=hd_ hb1;clear hb1
  go_wp2_with fail
  refine cm_ (Hc2.out w1 Hb1.out) ?_;rintro e w2 ⟨rfl,hb2⟩;have Hb2:=hd_ (Hb1.out.trans (hb2.mono Hb1.out.size));clear hb2 Hb1;go_wp2;go_ret;exact⟨rfl,Hb2.out⟩
 ·have hs':¬ ((dec a).size:Int)+(dec b).size≤18:=by omega
  have la:=Vh a 1000000 (by decide) ha
  have lb:=Vh b 1000000 (by decide) hb
  have Hc1:=hd_ (fun w'=>Zv8 w' a ha)
  have Hc2:=hd_ (fun w'=>Zv8 w' b hb)
  have Hlm:Hid ((Kf (a*b)).length≤10000000):=by
   show _≤_
   have:=Zln a b
   omega
  generalize dec a=s at *
  generalize dec b=t at *
  go_enter Tryz.func55,Tryz.ntmps55
  go_wp2_with fail
  refine cm_ (Hc1.out _) ?_;rintro e w1 ⟨a1,c1,rfl,ho1,hb1⟩;have Hb1:=hd_ hb1;have Ho1:=hd_ ho1;clear hb1 ho1
  go_wp2_with fail
  refine cm_ (Hc2.out _) ?_;rintro e w2 ⟨a2,c2,rfl,ho2,hb2⟩;have Hb2:=hd_ (Hb1.out.trans (hb2.mono Hb1.out.size));have Htm:=hd_ (Zgj w2 a1 a2 c1 c2 (Kf a) (Kf b) (Ho1.out.below hb2 nr_).reads ho2.reads (Kv a) (Kv b) (by omega) (by omega))
  rw[Kw,Kw] at Htm;clear hb2 ho2 Ho1 Hb1 Hc1 Hc2
  go_wp2_with fail
  refine cm_ Htm.out ?_;rintro e w3 ⟨a3,c3,rfl,ho3,hb3⟩;have Hb3:=hd_ (Hb2.out.trans (hb3.mono Hb2.out.size));have Htx:=hd_ (Za0 w3 a3 c3 (a*b) ho3.reads Hlm.out);clear hb3 ho3 Hb2 Htm
  go_wp2_with fail
  refine cm_ Htx.out ?_;rintro e w4 ⟨rfl,hb4⟩;have Hb4:=hd_ (Hb3.out.trans (hb4.mono Hb3.out.size));clear hb4 Hb3;go_wp2;go_ret;exact⟨rfl,Hb4.out⟩
theorem Zqd(w:World)(n:Nat)(hn:n<18446744073709551616)(L:Qx w):
  ∀ d os,Calls Tryz.prog 133 #[.int .u64 n] (Go.Sort.grow (redrawn w d) os) fun e w''=>e = .returned (.string (dec n))∧∃ p:Regrown,w''=Go.Sort.grow (redrawn w p.d) p.os:=fun d os =>
 Calls.regrown_of (Zlg _ n hn (L.below (below_regrown w d os)))
theorem Yo(b:Nat):((dec b).toList==[48])=decide (b=0):=by
 have h:=Zjo b 0;rw[Zc6,Yh ⟨#[48]⟩] at h;exact h
theorem Zlp(b:Nat):((dec b).toList==[49])=decide (b=1):=by
 have h:=Zjo b 1;rw[Zcf,Yh ⟨#[49]⟩] at h;exact h
theorem Zs6(b:Nat)(h:(Kf b).length=1):(Kf b).getD 0 0=b∧b<1000000000∧0<b:=by
 have h1:=(Kn b 1).1 (by omega)
 rw[Nat.pow_one] at h1;have h0:0<b:=by
  rcases Nat.eq_zero_or_pos b with h2|h2
  ·subst h2;rw[Qy] at h;simp at h
  ·exact h2
 refine⟨?_,h1,h0⟩;rw[Vy h0];simp;exact h1
theorem Zr{a b:Nat}(h:a≤b):(Kf a).length≤(Kf b).length:=by
 rw[Kn];exact Nat.lt_of_le_of_lt h ((Kn b _).1 nr_)
theorem Zfh(w:World)(a b:Nat)(ha:Num a)(hb:Num b)(L:Qx w):
  Kc Tryz.prog 227 #[.string (dec a),.string (dec b)] w
   (if b=0 then .tuple #[.string ⟨#[]⟩,.string ⟨#[]⟩,.int .i64 17] else .tuple #[.string (dec (a/b)),.string (dec (a%b)),.int .i64 0]):=by
 unfold Kc;have ha':(dec a).size≤1000000:=ha;have hb':(dec b).size≤1000000:=hb;have hz:=Yo b
 by_cases h0:b=0
 ·rw[if_pos h0];rw[decide_eq_true h0] at hz;clear L;generalize dec a=s at *
  generalize dec b=t at *
  go_enter Tryz.func227,Tryz.ntmps227;go_wp2
  go_ret3
  exact⟨rfl,Below.refl _ _⟩
 ·rw[if_neg h0];rw[decide_eq_false h0] at hz;have Hbo:=hd_ (Zf6 w a b (by omega) (by omega) L)
  by_cases hs:a<1000000000000000000∧b<1000000000000000000
  ·rw[if_pos hs] at Hbo;obtain⟨hs1,hs2⟩:=hs;have Hof:Hid (∀ w',Below w.heap.size w w'→∀ n:Nat,n<18446744073709551616→∀ d os,Calls Tryz.prog 133 #[.int .u64 n] (Go.Sort.grow (redrawn w' d) os) fun e w''=>e = .returned (.string (dec n))∧∃ p:Regrown,w''=Go.Sort.grow (redrawn w' p.d) p.os):=fun w' hb' n hn=>Zqd w' n hn (L.below hb')
   have hd1:a/b<18446744073709551616:=Nat.lt_of_le_of_lt (Nat.div_le_self _ _) (by omega)
   have hm1:a%b<18446744073709551616:=Nat.lt_of_le_of_lt (Nat.mod_le _ _) (by omega)
   have hbz:((b:Int)==0)=false:=by rw[beq_eq_false_iff_ne];omega
   have htd:Int.tdiv (a:Int) (b:Int)=((a/b:Nat):Int):=by rw[← Int.ofNat_tdiv]
   have htm:Int.tmod (a:Int) (b:Int)=((a%b:Nat):Int):=by rw[← Int.ofNat_tmod]
   have hw1:=Zco (a/b) hd1;have hw2:=Zco (a%b) hm1;clear L;generalize dec a=s at *
   generalize dec b=t at *
   generalize a/b=q at *
   generalize a%b=r at *
   go_enter Tryz.func227,Tryz.ntmps227
   go_wp2_with fail
   refine cm_ Hbo.out ?_;rintro e w1 ⟨rfl,hb1⟩;have Hb1:=hd_ hb1;have hM1:=Hof.out w1 hb1 q hd1;have hM2:=Hof.out w1 hb1 r hm1;clear hb1 Hof Hbo
   go_wp2_with fail
   refine wp_region_quiet_below (by kernel_rfl) (by kernel_rfl) ?_
   repeat (first | go_big_quiet_step (first | with_reducible exact hM1 _ _ | with_reducible exact hM2 _ _) | quiet_step (first | with_reducible exact hM1 _ _ | with_reducible exact hM2 _ _))
   refine wpQuiet_nil ?_;intro w2 hw2;obtain⟨⟨dq,osq⟩,rfl⟩:=hw2;have Hb2:=hd_ (Hb1.out.trans ((below_regrown w1 dq osq).mono Hb1.out.size));generalize Go.Sort.grow (redrawn w1 dq) osq=w2 at *
   clear hM1 hM2 Hb1;go_wp2
   go_ret3
   exact⟨rfl,Hb2.out⟩
  ·rw[if_neg hs] at Hbo;have la:=Vh a 1000000 (by decide) ha
   have lb:=Vh b 1000000 (by decide) hb
   have HL:=hd_ L;have Hc1:=hd_ (fun w'=>Zv8 w' a ha)
   have Hc2:=hd_ (fun w'=>Zv8 w' b hb)
   have Hda:=hd_ (show dec a=dec a from rfl)
   have hlq:=Zr (Nat.div_le_self a b);have hlr:=Zr (Nat.mod_le a b);clear L hs;generalize hs:dec a=s at *
   have Hs:=hd_ hs;clear hs;generalize dec b=t at *
   go_enter Tryz.func227,Tryz.ntmps227
   go_wp2_with fail
   refine cm_ Hbo.out ?_;rintro e w0 ⟨rfl,hb0⟩;have Hb0:=hd_ hb0;clear hb0 Hbo
   go_wp2_with fail
   refine cm_ (Hc1.out _) ?_;rintro e w1 ⟨a1,c1,rfl,ho1,hb1⟩;have Hb1:=hd_ (Hb0.out.trans (hb1.mono Hb0.out.size));have Ho1:=hd_ ho1;clear hb1 ho1
   go_wp2_with fail
   refine cm_ (Hc2.out _) ?_;rintro e w2 ⟨a2,c2,rfl,ho2,hb2⟩;have Hb2:=hd_ (Hb1.out.trans (hb2.mono Hb1.out.size));have Hr1:=hd_ (Ho1.out.below hb2 nr_).reads;have Hr2:=hd_ ho2.reads;have Hcm:=hd_ (Znu w2 a1 a2 c1 c2 a b Hr1.out Hr2.out (by omega) (by omega))
   clear hb2 ho2 Ho1 Hb1 Hc1 Hc2 Hb0
   by_cases hlt:a<b
   ·have e1:a/b=0:=Nat.div_eq_of_lt hlt;have e2:a%b=a:=Nat.mod_eq_of_lt hlt;have Hq:Hid (dec (a/b)=⟨#[48]⟩):=by show _=_;rw[e1];exact Zc6
    have Hrr:Hid (dec (a%b)=s):=by show _=_;rw[e2];exact Hs.out
    have Hcv:Hid (Zay a b = -1):=by show _=_;unfold Zay;rw[if_pos hlt]
    rw[Hcv.out] at Hcm;clear e1 e2 Hr1 Hr2
    go_wp2_with fail
    refine cm_ Hcm.out ?_;rintro e w3 ⟨rfl,hb3⟩;have Hb3:=hd_ (Hb2.out.trans (hb3.mono Hb2.out.size));clear hb3 Hb2 Hcm;go_wp2
    go_ret3
    exact⟨by rw[Hq.out,Hrr.out];rfl,Hb3.out⟩
   ·have hcn:¬ Zay a b<0:=by unfold Zay;rw[if_neg hlt];split<;>omega
    have hbp:0<b:=by omega
    have hlab:=Zr (show b≤a by omega)
    clear Hs;generalize Zay a b=cn at *
    by_cases hl1:(Kf b).length=1
    ·obtain⟨g1,g2,g3⟩:=Zs6 b hl1;obtain⟨b2,o2,rfl,hb2,hc2⟩:=Hr2.out.open (by omega)
     have cx:=hc2 0 (by omega)
     rw[g1] at cx;have Hcx:=hd_ cx;have Hl1:=hd_ hl1;have hle1:(Kf b).length≤1:=by omega
     clear hc2 cx g1 hl1
     go_wp2_with fail
     refine cm_ Hcm.out ?_;rintro e w3 ⟨rfl,hb3⟩;have Hb3:=hd_ (Hb2.out.trans (hb3.mono Hb2.out.size));have cx:=Hcx.out;rw[← hb3.cell (p:=⟨b2,o2+0,none⟩) hb2] at cx;have Hsm:=hd_ (Zk0 w3 a1 c1 (Kf a) b (Hr1.out.below hb3 nr_) (Kv a) (by omega) g3 g2)
     rw[Kw] at Hsm;rw[Nat.add_zero] at cx;clear hb3 Hb2 Hcm Hcx Hr1 Hr2 hz;rw[Hl1.out]
     go_wp2_with fail
     refine cm_ Hsm.out ?_;rintro e w4 ⟨a4,c4,rfl,ho4,hb4⟩;have Hb4:=hd_ (Hb3.out.trans (hb4.mono Hb3.out.size));have Htx:=hd_ (Za0 w4 a4 c4 (a/b) ho4.reads (by omega))
     clear hb4 ho4 Hb3 Hsm
     go_wp2_with fail
     refine cm_ Htx.out ?_;rintro e w5 ⟨rfl,hb5⟩;have Hb5:=hd_ (Hb4.out.trans (hb5.mono Hb4.out.size));have Hof:=hd_ (Zlg w5 (a%b) (Nat.lt_trans (Nat.mod_lt _ g3) (by omega)) (HL.out.below Hb5.out))
     clear hb5 Hb4 Htx
     go_wp2_with fail
     refine cm_ Hof.out ?_;rintro e w6 ⟨rfl,hb6⟩;have Hb6:=hd_ (Hb5.out.trans (hb6.mono Hb5.out.size));clear hb6 Hb5 Hof;go_wp2
     go_ret3
     exact⟨rfl,Hb6.out⟩
    ·have hl2:2≤(Kf b).length:=by
      have:0<(Kf b).length:=by rw[Vy hbp];simp
      omega
     have hl1':(((Kf b).length:Int)==1)=false:=by rw[beq_eq_false_iff_ne];omega
     go_wp2_with fail
     refine cm_ Hcm.out ?_;rintro e w3 ⟨rfl,hb3⟩;have Hb3:=hd_ (Hb2.out.trans (hb3.mono Hb2.out.size));have Hdv:=hd_ (Zqx w3 a1 a2 c1 c2 a b (Hr1.out.below hb3 nr_) (Hr2.out.below hb3 nr_) (by omega) hl2 hlab)
     clear hb3 Hb2 Hcm Hr1 Hr2
     go_wp2_with fail
     refine cm_ Hdv.out ?_;rintro e w4 ⟨a4,c4,a5,c5,rfl,ho4,ho5,hb4⟩;have Hb4:=hd_ (Hb3.out.trans (hb4.mono Hb3.out.size));have Ho5:=hd_ ho5;have Htx:=hd_ (Za0 w4 a4 c4 (a/b) ho4.reads (by omega))
     clear hb4 ho4 ho5 Hb3 Hdv
     go_wp2_with fail
     refine cm_ Htx.out ?_;rintro e w5 ⟨rfl,hb5⟩;have Hb5:=hd_ (Hb4.out.trans (hb5.mono Hb4.out.size));have Htx2:=hd_ (Za0 w5 a5 c5 (a%b) (Ho5.out.below hb5 nr_).reads (by omega))
     clear hb5 Hb4 Htx Ho5
     go_wp2_with fail
     refine cm_ Htx2.out ?_;rintro e w6 ⟨rfl,hb6⟩;have Hb6:=hd_ (Hb5.out.trans (hb6.mono Hb5.out.size));clear hb6 Hb5 Htx2;go_wp2
     go_ret3
     exact⟨rfl,Hb6.out⟩
def Zu8:Value→Nat
 | .string s=>Vt (lb s)
 | _=>0
theorem Zlh(n:Nat):Zu8 (.string (dec n))=n:=by
 show Vt (lb (dec n))=n
 rw[Za7,Za8]
theorem Zj8(x y:Nat):Nat.gcd y (x%y)=Nat.gcd x y:=by
 rw[Nat.gcd_comm y,← Nat.gcd_rec,Nat.gcd_comm]
theorem Ztf(w:World)(a b:Nat)(ha:Num a)(hb:Num b)(L:Qx w):
  Kc Tryz.prog 272 #[.string (dec a),.string (dec b)] w (.string (dec (Nat.gcd a b))):=by
 unfold Kc;have HL:=hd_ L;clear L;go_enter Tryz.func272,Tryz.ntmps272
 go_wp2_with fail
 go_loopw [0,1] (fun p q wr=>∃ x y:Nat,Hid (Num x)∧Hid (Num y)∧p = .string (dec x)∧q = .string (dec y)∧Hid (Nat.gcd x y=Nat.gcd a b)∧Hid (Below w.heap.size w wr)) (fun _ q _=>Zu8 q)
 case atStart=>exact⟨a,b,ha,hb,rfl,rfl,rfl,Below.refl _ _⟩
 case round =>
  obtain⟨x,y,Hx,Hy,rfl,rfl,Hg,Hb⟩:=hrel;have hz:=Yo y
  by_cases h0:y=0
  ·rw[decide_eq_true h0] at hz;have Hv:Hid (x=Nat.gcd a b):=by
    show _=_
    rw[← Hg.out,h0,Nat.gcd_zero_right]
   clear h0;go_wp2;go_ret;exact⟨by rw[← Hv.out];rfl,Hb.out⟩
  ·rw[decide_eq_false h0] at hz;have Hdm:=hd_ (Zfh wr x y Hx.out Hy.out (HL.out.below Hb.out));rw[if_neg h0] at Hdm;have Hlt:Hid (x%y<y):=Nat.mod_lt _ (by omega)
   have Hg2:Hid (Nat.gcd y (x%y)=Nat.gcd a b):=(Zj8 x y).trans Hg.out;clear h0
   go_wp2_with fail
   refine cm_ Hdm.out ?_;rintro e w1 ⟨rfl,hb1⟩;have Hb1:=hd_ (Hb.out.trans (hb1.mono Hb.out.size));clear hb1 Hb Hdm;go_wp2
   go_roundw
   case rel=>exact⟨y,x%y,Hy,Hy.out.le (Nat.le_of_lt Hlt.out),rfl,rfl,Hg2,Hb1⟩
   case measure =>
    show Zu8 (.string (dec (x%y)))<Zu8 (.string (dec y))
    rw[Zlh,Zlh];exact Hlt.out
theorem Zvp(a b:Nat)(ha:a≠0):a/Nat.gcd a b*b=Nat.lcm a b:=by
 have hg:0<Nat.gcd a b:=Nat.gcd_pos_of_pos_left _ (by omega)
 obtain⟨k,hk⟩:=Nat.gcd_dvd_left a b;unfold Nat.lcm;generalize Nat.gcd a b=g at *
 subst hk;rw[Nat.mul_div_cancel_left _ hg,Nat.mul_assoc,Nat.mul_div_cancel_left _ hg]
theorem Zx5(w:World)(a b:Nat)(ha:Num a)(hb:Num b)(L:Qx w):
  Kc Tryz.prog 226 #[.string (dec a),.string (dec b)] w (.string (dec (Nat.lcm a b))):=by
 unfold Kc;have hz1:=Yo a;have hz2:=Yo b
 by_cases h1:a=0
 ·rw[decide_eq_true h1] at hz1;have Hv:Hid (dec (Nat.lcm a b)=⟨#[48]⟩):=by
   show _=_
   rw[h1,Nat.lcm_zero_left];exact Zc6
  clear h1 hz2;go_enter Tryz.func226,Tryz.ntmps226;go_wp2;go_ret;exact⟨by rw[Hv.out];rfl,Below.refl _ _⟩
 ·rw[decide_eq_false h1] at hz1
  by_cases h2:b=0
  ·rw[decide_eq_true h2] at hz2;have Hv:Hid (dec (Nat.lcm a b)=⟨#[48]⟩):=by
    show _=_
    rw[h2,Nat.lcm_zero_right];exact Zc6
   clear h1 h2;go_enter Tryz.func226,Tryz.ntmps226;go_wp2;go_ret;exact⟨by rw[Hv.out];rfl,Below.refl _ _⟩
  ·rw[decide_eq_false h2] at hz2;have HL:=hd_ L;have Hgc:=hd_ (Ztf w a b ha hb L);have hgp:0<Nat.gcd a b:=Nat.gcd_pos_of_pos_left _ (by omega)
   have hgl:Num (Nat.gcd a b):=ha.le (Nat.gcd_le_left _ (by omega))
   have Hdm:Hid (∀ w',Below w.heap.size w w'→Kc Tryz.prog 227 #[.string (dec a),.string (dec (Nat.gcd a b))] w' (.tuple #[.string (dec (a/Nat.gcd a b)),.string (dec (a%Nat.gcd a b)),.int .i64 0])):=fun w' hb'=>by
    have:=Zfh w' a (Nat.gcd a b) ha hgl (HL.out.below hb')
    rw[if_neg (by omega)] at this
    exact this
   have Hml:Hid (∀ w',Below w.heap.size w w'→Kc Tryz.prog 55 #[.string (dec (a/Nat.gcd a b)),.string (dec b)] w' (.string (dec (Nat.lcm a b)))):=fun w' hb'=>by
    have:=Zsw w' (a/Nat.gcd a b) b (ha.le (Nat.div_le_self _ _)) hb (HL.out.below hb')
    rw[Zvp a b h1] at this;exact this
   clear h1 h2 L;go_enter Tryz.func226,Tryz.ntmps226
   go_wp2_with fail
   refine cm_ Hgc.out ?_;rintro e w1 ⟨rfl,hb1⟩;have Hb1:=hd_ hb1;clear hb1 Hgc
   go_wp2_with fail
   refine cm_ (Hdm.out w1 Hb1.out) ?_;rintro e w2 ⟨rfl,hb2⟩;have Hb2:=hd_ (Hb1.out.trans (hb2.mono Hb1.out.size));clear hb2 Hb1 Hdm
   go_wp2_with fail
   refine cm_ (Hml.out w2 Hb2.out) ?_;rintro e w3 ⟨rfl,hb3⟩;have Hb3:=hd_ (Hb2.out.trans (hb3.mono Hb2.out.size));clear hb3 Hb2 Hml;go_wp2;go_ret;exact⟨rfl,Hb3.out⟩
theorem Zbw(x:Value)(m:Nat):Builtin.zeroCells #[x] m=(List.replicate m x).toArray:=by
 unfold Builtin.zeroCells;apply Array.ext
 ·simp
 ·intro i h1 h2;simp[Nat.mod_one]
theorem Zjq{P:Program}(w:World){t ti ty e:TypeId}{z:Value}{bytes:Nat}(E:Zac P t e z 1 bytes)(hc:z.cells = #[z])(hone:z.oneCell'=true)(hti:P.underlying ti=some (.int .i64))
  {base n:Nat} {v:Value} {xs:List Value} (m:Nat) (hown:w.ownsRow base e 1 v n xs) (h63:n+m≤4611686018427387904) (hbytes:(n+m)*bytes≤140737488355328) (hbase:base≤w.heap.size) :
  ∃ v' w',(Builtin.append_ #[t,ti] ty #[v,.int .i64 m]).run P w = .ok v' w'∧w'.ownsRow base e 1 v' (n+m) (xs++List.replicate m z)∧w.grownBy w' v.ownBlock∧(v'.ownBlock=v.ownBlock∨v'.ownBlock=some w.heap.size):=by
 obtain⟨i,hi,hz,hsize,hby⟩:=E.info;have ht:=E.ht;have hsm:m*bytes≤140737488355328:=Nat.le_trans (Nat.mul_le_mul_right _ (by omega)) hbytes
 have hwr:IntKind.i64.wrap (m:Int)=m:=iw_ _ (by omega)
 have hn0:¬ ((m:Int)<0):=by omega
 have hbig:¬ (281474976710656<(m:Int)*(bytes:Int)):=by
  have:((m*bytes:Nat):Int)≤140737488355328:=Int.ofNat_le.2 hsm
  rw[Int.natCast_mul] at this;omega
 have hlen:(xs++List.replicate m z).length=(n+m)*1:=by rw[List.length_append,hown.1,List.length_replicate];omega
 by_cases hm:m=0
 ·subst hm;have hw0:IntKind.i64.wrap 0=0:=iw_ _ (by omega)
  refine⟨v,w,?_,by simpa using hown,⟨rfl,rfl,rfl,Nat.le_refl _,fun _ _ _=>rfl⟩,.inl rfl⟩
  rcases hown.2 with⟨rfl,rfl⟩|⟨g,cap,cur,rfl,hbg,hg,hnc,hcm,hcs,htake⟩
  ·simp[Builtin.append_,run_underlying ht,run_underlying hti,sizeOf,typeInfo,hi,asInt,asIntOf,hw0,Builtin.firstCells]
  ·simp[Builtin.append_,run_underlying ht,run_underlying hti,sizeOf,typeInfo,hi,asInt,asIntOf,hw0,hnc,storeCells,Addr.add]
 ·have hm1:m≠0:=hm;have grown:∀ (old:Nat),old<n+m→∀ (row:Option Nat),
    (w.drew.alloc (.cells (xs.toArray++(List.replicate m z).toArray++Builtin.zeroCells z.cells (grownCap w (n+m) old e-(n+m))) e)).ownsRow base e 1
     (.slice (some ⟨w.heap.size,0,none⟩) (n+m) (grownCap w (n+m) old e)) (n+m) (xs++List.replicate m z) ∧
    w.grownBy (w.drew.alloc (.cells (xs.toArray++(List.replicate m z).toArray++Builtin.zeroCells z.cells (grownCap w (n+m) old e-(n+m))) e)) row:=by
   intro old ho row;have hge:=grownCap_ge w (n+m) old e;have hcm:grownCap w (n+m) old e≤maxLen:=grownCap_le_maxLen w (n+m) old e (by unfold maxLen;omega)
   refine⟨⟨hlen,.inr ⟨w.heap.size,_,_,rfl,hbase,Go.heap_alloc_new w.drew _,hge,hcm,?_,?_⟩⟩,⟨rfl,rfl,rfl,by simp,fun k hk _=>Go.heap_alloc_old w.drew _ hk⟩⟩
   ·simp only[Array.size_append,List.size_toArray,size_zeroCells,E.hzs,hown.1,List.length_replicate];omega
   ·simp only[Array.toList_append,List.append_assoc];rw[← List.append_assoc,← hlen];exact List.take_left
  rcases hown.2 with⟨rfl,rfl⟩|⟨g,cap,cur,rfl,hbg,hg,hnc,hcm,hcs,htake⟩
  ·have hx:xs=[]:=List.eq_nil_of_length_eq_zero (by simpa using hown.1)
   subst hx;have hgr:=grown 0 (by omega) (Value.ownBlock (.slice none 0 0))
   have h48':¬ (281474976710656<Builtin.nextslicecap m 0*bytes):=by rw[nextslicecap_zero (by omega)];omega
   have h63':¬ (9223372036854775807<(m:Int)):=by omega
   refine⟨_,_,?_,hgr.1,hgr.2,.inr rfl⟩;simp[Builtin.append_,run_underlying ht,run_underlying hti,sizeOf,typeInfo,hi,asInt,asIntOf,hwr,hn0,hbig,hby,hsize,hm1,zeroValue,hz,hc,Zbw,Question.forced,run_firstCells_none,newRow,grownCap,h63',h48']
  ·by_cases hroom:n+m≤cap
   ·have hst:=run_storeCells_at P g (n*1) e (List.replicate m z) 0 cur w hg (by simp;omega) (fun u hu=>by rw[List.eq_of_mem_replicate hu];exact hone)
    refine⟨.slice (some ⟨g,0,none⟩) (n+m) cap,w.setRow g (cur.toList.take (n*1)++List.replicate m z++cur.toList.drop (n*1+(List.replicate m z).length)).toArray,?_,⟨hlen,.inr ⟨g,cap,_,rfl,hbg,setRow_heap w g cur _ e _ hg,hroom,hcm,?_,?_⟩⟩,⟨rfl,rfl,rfl,by simp,fun k _ hk=>setRow_other w g k _ (fun e=>hk (by simp[Value.ownBlock,e]))⟩,.inl rfl⟩
    ·simp only[Nat.add_zero] at hst;simp[Builtin.append_,run_underlying ht,run_underlying hti,sizeOf,typeInfo,hi,asInt,asIntOf,hwr,hn0,hbig,hby,hsize,hm1,zeroValue,hz,hc,Zbw,hroom,Addr.add_lit];simp only[Nat.mul_one,List.length_replicate] at hst;rw[hst];simp
    ·simp only[List.size_toArray,List.length_append,List.length_take,List.length_drop,Array.length_toList,List.length_replicate];omega
    ·rw[htake,← hlen];exact List.take_left
   ·have holds:∀ j u,xs[j]?=some u→w.cell? ((⟨g,0,none⟩:Addr).add j)=some u:=hown.cells (g:=g) rfl;have hgr:=grown cap (by omega) (Value.ownBlock (.slice (some ⟨g,0,none⟩) n cap))
    have h48':¬ (281474976710656<Builtin.nextslicecap (n+m) cap*bytes):=by have:=growslice_fits (need:=n+m) (old:=cap) (by omega) hbytes;omega
    have h63':¬ (9223372036854775807<((n:Int)+(m:Int))):=by omega
    have hfo:=run_firstCells_some (P:=P) w.drew 1 n ⟨g,0,none⟩ n cap xs hown.1 (by simpa using holds)
    refine⟨_,_,?_,hgr.1,hgr.2,.inr rfl⟩;simp[Builtin.append_,run_underlying ht,run_underlying hti,sizeOf,typeInfo,hi,asInt,asIntOf,hwr,hn0,hbig,hby,hsize,hm1,zeroValue,hz,hc,Zbw,Question.forced,newRow,grownCap,hroom,hfo,h63',h48']
theorem Ym{P:Program}{w:World}{ops:Array Oper}{rest:List Oper}{o:Oper}{a:Act}{Q:Exit→Act→World→Prop}(hgd:o.guard=none)(s x:Operand)(t ti:TypeId)
  (ho:o.op = .call { callee := .builtin .append,args := #[s,x],argTypes := #[t,ti] })
  {e:TypeId} {z:Value} {bytes:Nat} (E:Zac P t e z 1 bytes) (hc:z.cells = #[z]) (hone:z.oneCell'=true) (hti:P.underlying ti=some (.int .i64))
  (v:Value) (m:Nat) (hs:a.eval s=v) (hx:a.eval x = .int .i64 m)
  {base n:Nat} {xs:List Value} (hown:w.ownsRow base e 1 v n xs) (hbase:base≤w.heap.size) (h63:n+m≤4611686018427387904) (hbytes:(n+m)*bytes≤140737488355328)
  (h:∀ v' w',w'.ownsRow base e 1 v' (n+m) (xs++List.replicate m z)→w.grownBy w' v.ownBlock→(v'.ownBlock=v.ownBlock∨v'.ownBlock=some w.heap.size)→wpList P ops Q rest (a.put o.dst v') w') :
  wpList P ops Q (o::rest) a w:=by
 refine wpList_plain hgd fun K hK=>?_
 obtain⟨v',w',hr,h2,h3,h4⟩:=Zjq (P:=P) w (ty:=o.type) E hc hone hti m hown h63 hbytes hbase;unfold Oper.wp execOp;simp only[ho,resolve,invoke,builtin,Sem.run_bind,Sem.run_pure,Result.andThen_ok,List.map_toArray,List.map_cons,List.map_nil,hs,hx,hr];exact hK _ _ (h v' w' h2 h3 h4)
theorem Zg{P:Program}{W:World}{ops:Array Oper}{rest:List Oper}{o:Oper}{a:Act}{Q:Exit→Act→World→Prop}(hgd:o.guard=none)(s x:Operand)(t:TypeId)
  (ho:o.op = .call { callee := .builtin .append,args := #[s,x],argTypes := #[t,t] })
  {e:TypeId} {z:Value} {bytes:Nat} (E:Zac P t e z 1 bytes)
  (v u:Value) (hs:a.eval s=v) (hx:a.eval x = .slice (some ⟨W.heap.size,0,none⟩) 1 1)
  {base n:Nat} {xs:List Value} (hown:W.ownsRow base e 1 v n xs) (hbase:base≤W.heap.size)
  (h1:u.oneCell'=true) (h63:n+1≤4611686018427387904) (hbytes:(n+1)*bytes≤140737488355328)
  (h:∀ v' w',w'.ownsRow base e 1 v' (n+1) (xs++[u])→(W.alloc (.cells #[u] e)).grownBy w' v.ownBlock→(v'.ownBlock=v.ownBlock∨v'.ownBlock=some (W.alloc (.cells #[u] e)).heap.size)→wpList P ops Q rest (a.put o.dst v') w') :
  wpList P ops Q (o::rest) a (W.alloc (.cells #[u] e)):=by
 obtain⟨i,hi,hz,hsize,hby⟩:=E.info;exact wpList_append_own_at _ hgd s x t ho base e i z 1 bytes E.ht hi hz hsize hby E.hzs E.pos v n xs hs (hown.alloc _) ⟨W.heap.size,0,none⟩ 1 1 [u] hx rfl (cell_one_new W u e) (fun y hy=>by obtain rfl:=List.mem_singleton.1 hy;exact h1) (by unfold maxLen;omega) hbytes (by simp;omega) fun v' w' h2 h3 _ h5=>h v' w' h2 h3 h5
structure Two (B:Nat) (a1:Option Addr) (c1:Nat) (L1:List Nat) (a2:Option Addr) (c2:Nat) (L2:List Nat) (w wr:World):Prop where
 o1:Yd wr B a1 c1 L1
 o2:Yd wr B a2 c2 L2
 ap:∀ k,(Value.slice a1 L1.length c1).ownBlock=some k→(Value.slice a2 L2.length c2).ownBlock≠some k
 bel:Below B w wr
 siz:B≤wr.heap.size
theorem Two.swap{B:Nat}{a1:Option Addr}{c1:Nat}{L1:List Nat}{a2:Option Addr}{c2:Nat}{L2:List Nat}{w wr:World}(h:Two B a1 c1 L1 a2 c2 L2 w wr):Two B a2 c2 L2 a1 c1 L1 w wr :=
 ⟨h.o2,h.o1,fun k h1 h2=>h.ap k h2 h1,h.bel,h.siz⟩
theorem Two.next{B:Nat}{a1:Option Addr}{c1:Nat}{L1:List Nat}{a2:Option Addr}{c2:Nat}{L2:List Nat}{w wr w':World}(h:Two B a1 c1 L1 a2 c2 L2 w wr)(hb:Below wr.heap.size wr w'):Two B a1 c1 L1 a2 c2 L2 w w' :=
 ⟨h.o1.below hb nr_,h.o2.below hb nr_,h.ap,h.bel.trans (hb.mono h.siz),Nat.le_trans h.siz hb.size⟩
theorem Two.grow{B:Nat}{a1:Option Addr}{c1:Nat}{L1:List Nat}{a2:Option Addr}{c2:Nat}{L2:List Nat}{w wr w':World}(h:Two B a1 c1 L1 a2 c2 L2 w wr)
  {v':Value} {n:Nat} {L':List Nat} (hn:L'.length=n) (own':w'.ownsRow B 204 1 v' n (Zbk L')) (hg:wr.grownBy w' (Value.slice a1 L1.length c1).ownBlock)
  (hat:v'.ownBlock=(Value.slice a1 L1.length c1).ownBlock∨v'.ownBlock=some wr.heap.size) :
  ∃ a' c',v' = .slice a' n c'∧Two B a' c' L' a2 c2 L2 w w':=by
 obtain⟨a',c',rfl⟩:=Ky own';refine⟨a',c',rfl,?_,?_,?_,?_,?_⟩
 ·unfold Yd;rw[hn];exact own'
 ·refine World.ownsRow.kept h.o2 hg ?_;cases hv:(Value.slice a1 L1.length c1).ownBlock with
  | none=>cases hv2:(Value.slice a2 L2.length c2).ownBlock<;>simp
  | some k=>exact .inr (h.ap k hv)
 ·intro k hk;rw[hn] at hk;rcases hat with e|e
  ·exact h.ap k (by rw[← e];exact hk)
  ·intro h2;have h3:=(World.ownsRow.lt h.o2 k h2).2;rw[e] at hk;injection hk with hk
   omega
 ·exact h.bel.grown hg h.siz (fun k hk=>(World.ownsRow.lt h.o1 k hk).1)
 ·exact Nat.le_trans h.siz hg.size
theorem Yd.mono{w:World}{B B':Nat}{a:Option Addr}{c:Nat}{l:List Nat}(h:Yd w B a c l)(hB:B'≤B):Yd w B' a c l :=
 ⟨h.1,h.2.imp id fun ⟨g,cap,cur,h1,h2,h3⟩=>⟨g,cap,cur,h1,Nat.le_trans hB h2,h3⟩⟩
theorem Zuq{w0 w w1 w2:World}{a1:Option Addr}{c1:Nat}{L1:List Nat}{a2:Option Addr}{c2:Nat}{L2:List Nat}(hb0:Below w0.heap.size w0 w)(h1:Yd w1 w.heap.size a1 c1 L1)(hb1:Below w.heap.size w w1)(h2:Yd w2 w1.heap.size a2 c2 L2)(hb2:Below w1.heap.size w1 w2):
  Two w0.heap.size a1 c1 L1 a2 c2 L2 w0 w2:=by
 have s1:=hb0.size;have s2:=hb1.size;have s3:=hb2.size;refine⟨(h1.below hb2 nr_).mono s1,h2.mono (Nat.le_trans s1 s2),?_,hb0.trans ((hb1.mono s1).trans (hb2.mono (Nat.le_trans s1 s2))),by omega⟩
 intro k hk hk2;have e1:=(World.ownsRow.lt h1 k hk).2;have e2:=(World.ownsRow.lt h2 k hk2).1;omega
theorem Ze4(k:Nat):Zbk (List.replicate k 0)=List.replicate k (.int .u64 0):=by
 unfold Zbk;rw[List.map_replicate];rfl
theorem Zmp(l:List Nat)(k:Nat):val (l++List.replicate k 0)=val l:=by
 rw[Zc0,Zgb,Nat.mul_zero,Nat.add_zero]
theorem Zpj{x y l:Nat}(hx:x<1000000000^l)(hy:y<1000000000^l):x+y<1000000000^(l+1):=by
 rw[Nat.pow_succ];omega
theorem Zgg(w:World)(B a c n:Nat)(M:List Nat)(ho:Yd w B (some ⟨a,0,none⟩) c M)(hp:Pcs M)(hv:val M=n)(hl:M.length≤10000000):
  Kc Tryz.prog 213 #[.slice (some ⟨a,0,none⟩) M.length c] w (.slice (some ⟨a,0,none⟩) (Kf n).length c) ∧
  Yd w B (some ⟨a,0,none⟩) c (Kf n)∧(Kf n).length≤10000000:=by
 subst hv;have hle:=Vz M hp;have hpre:=Vn M hp;refine⟨Zbz w (some ⟨a,0,none⟩) c M ho.reads hp (by omega) ho.cap,?_,by omega⟩
 have:=ho.cut (Kf (val M)).length hle
 rw[hpre] at this;exact this
theorem Zza:Zac Tryz.prog 206 204 (.int .u64 0) 1 8:=elU
theorem Zn1(w:World)(a b:Nat)(ha:Num a)(hb:Num b)(L:Qx w):
  Kc Tryz.prog 228 #[.string (dec a),.string (dec b)] w (.string (dec (a+b))):=by
 unfold Kc;have ha':(dec a).size≤1000000:=ha;have hb':(dec b).size≤1000000:=hb;have Hbo:=hd_ (Zf6 w a b (by omega) (by omega) L)
 by_cases hs:a<1000000000000000000∧b<1000000000000000000
 ·rw[if_pos hs] at Hbo;obtain⟨hs1,hs2⟩:=hs;have hsum:a+b<18446744073709551616:=by omega
  have Hof:Hid (∀ w',Below w.heap.size w w'→Kc Tryz.prog 133 #[.int .u64 (a+b:Nat)] w' (.string (dec (a+b)))):=fun w' hb'=>Zlg w' (a+b) hsum (L.below hb')
  have hw1:=Zco (a+b) hsum;rw[Int.natCast_add] at hw1 Hof;clear L;generalize dec a=s at *
  generalize dec b=t at *
  go_enter Tryz.func228,Tryz.ntmps228
  go_wp2_with fail
  refine cm_ Hbo.out ?_;rintro e w1 ⟨rfl,hb1⟩;have Hb1:=hd_ hb1;clear hb1 Hbo
  go_wp2_with fail
  refine cm_ (Hof.out w1 Hb1.out) ?_;rintro e w2 ⟨rfl,hb2⟩;have Hb2:=hd_ (Hb1.out.trans (hb2.mono Hb1.out.size));clear hb2 Hb1 Hof;go_wp2;go_ret;exact⟨rfl,Hb2.out⟩
 ·rw[if_neg hs] at Hbo;have la:=Vh a 1000000 (by decide) ha
  have lb:=Vh b 1000000 (by decide) hb
  have Hc1:=hd_ (fun w'=>Zv8 w' a ha)
  have Hc2:=hd_ (fun w'=>Zv8 w' b hb)
  clear L hs;generalize dec a=s at *
  generalize dec b=t at *
  go_enter Tryz.func228,Tryz.ntmps228
  go_wp2_with fail
  refine cm_ Hbo.out ?_;rintro e w0 ⟨rfl,hb0⟩;have Hb0:=hd_ hb0;clear hb0 Hbo
  go_wp2_with fail
  refine cm_ (Hc1.out _) ?_;rintro e w1 ⟨a1,c1,rfl,ho1,hb1⟩;have Ho1:=hd_ ho1;have Hb1:=hd_ hb1;clear hb1 ho1
  go_wp2_with fail
  refine cm_ (Hc2.out _) ?_;rintro e w2 ⟨a2,c2,rfl,ho2,hb2⟩;have HT:=hd_ (Zuq Hb0.out Ho1.out Hb1.out ho2 hb2);clear ho2 hb2 Ho1 Hb1 Hc1 Hc2 Hb0;obtain⟨l1,hl1⟩:∃ l,(Kf a).length=l:=⟨_,rfl⟩;obtain⟨l2,hl2⟩:∃ l,(Kf b).length=l:=⟨_,rfl⟩;rw[hl1] at la ⊢;rw[hl2] at lb ⊢;have Hl1:=hd_ hl1;have Hl2:=hd_ hl2;clear hl1 hl2
  by_cases hlen:l1<l2
  ·have hlen':(l1:Int)<(l2:Int):=by omega
   obtain⟨k,hk⟩:∃ k,l2-l1=k:=⟨_,rfl⟩;have hk1:l1+k≤l2:=by omega
   have hk2:l2≤l1+k:=by omega
   have hki:(l2:Int)+1-1-l1=(k:Int):=by omega
   have Hki:=hd_ hki;clear hk hki;replace HT:=hd_ HT.out.swap;have HX:Hid (a+b=b+a):=Nat.add_comm _ _;have Hrow:Hid (w2.ownsRow w.heap.size 204 1 (.slice a2 l2 c2) l2 (Zbk (Kf b))):=by
    have:=HT.out.o1
    unfold Yd at this;rw[Hl2.out] at this;exact this
   go_wp2_with (at_builtin;refine Zg rfl (.tmp 33) (.tmp 34) 206 rfl Zza _ (.int .u64 0) rfl rfl Hrow.out HT.out.siz rfl (by omega) (by omega) ?_)
   intro v' w3 hown3 hg3 hat3;have HT2:=hd_ (HT.out.next ((Below.refl _ _).alloc nr_ (.cells #[.int .u64 0] 204)));have hlp1:(Kf b++[0]).length=l2+1:=by rw[List.length_append,Hl2.out];rfl
   obtain⟨a3,c3,rfl,hT3⟩:=HT2.out.grow (v':=v') (L':=Kf b++[0]) hlp1 (by rw[Vp];exact hown3) (by rw[Hl2.out];exact hg3) (by rw[Hl2.out,show (w2.alloc (.cells #[.int .u64 0] 204)).heap.size=w2.heap.size+1 by simp];exact hat3)
   have HT3:=hd_ hT3.swap;have Hlp1:=hd_ hlp1;clear hown3 hg3 hat3 HT2 HT Hrow hT3 hlp1;have Hrow2:Hid (w3.ownsRow w.heap.size 204 1 (.slice a1 l1 c1) l1 (Zbk (Kf a))):=by
    have:=HT3.out.o1
    unfold Yd at this;rw[Hl1.out] at this;exact this
   go_wp2_with (at_builtin;(try rw[Hki.out]);refine Ym rfl (.tmp 37) (.tmp 43) 206 3 rfl Zza rfl rfl Tryz.underlying3 _ k rfl (by first | rfl | (show Value.int _ _=_;congr 1;omega)) Hrow2.out HT3.out.siz (by omega) (by omega) ?_)
   intro v' w4 hown4 hg4 hat4;have hlq1:(Kf a++List.replicate k 0).length=l2:=by rw[List.length_append,Hl1.out,List.length_replicate];omega
   obtain⟨a4,c4,rfl,hT4⟩:=HT3.out.grow (v':=v') (n:=l1+k) (L':=Kf a++List.replicate k 0) (by rw[List.length_append,Hl1.out,List.length_replicate]) (by rw[Vp,Ze4];exact hown4) (by rw[Hl1.out];exact hg4) (by rw[Hl1.out];exact hat4)
   have HT4:=hd_ hT4.swap;have Hlq1:=hd_ hlq1;clear hown4 hg4 hat4 HT3 Hrow2 hT4 hlq1;obtain⟨g3,hg3,hg31,hg32,-,-,-⟩:=HT4.out.o1.open (by rw[Hlp1.out];omega)
   subst hg3;have hbk:=Zf7 w4 w.heap.size g3 c3 (Kf b++[0]) a4 c4 (Kf a++List.replicate k 0) 0 HT4.out.o1 ((Kv _).append (Pcs.zeros 1)) HT4.out.o2.reads ((Kv _).append (Pcs.zeros k)) (fun b' off' e h0=>by
    subst e;intro e2;exact HT4.out.ap g3 rfl (by simp[Value.ownBlock,e2])) (by rw[Hlp1.out,Hlq1.out];omega) (by rw[Hlp1.out];omega)
   rw[Hlp1.out,Hlq1.out] at hbk;have Hbk:=hd_ hbk;rw[show l1+k=l2 by omega]
   clear hbk
   go_wp2_with fail
   refine cm_ Hbk.out ?_;rintro e w5 ⟨cc,M,hcc,rfl,hM,-,hpM,hvM,hoM,hgM⟩;rw[Hlp1.out] at hM;rw[Hlq1.out,Zbx,Kw,Zmp,Kw,Nat.mul_zero,Nat.add_zero,Nat.pow_zero,Nat.one_mul,Nat.zero_add] at hvM;have hval:val M=a+b:=by
    have e1:=(Kn b l2).1 (by rw[Hl2.out];exact Nat.le_refl _)
    have e2:=(Kn a l2).1 (by rw[Hl1.out];omega)
    have e3:=Zpj e1 e2;rw[HX.out];rcases(show cc=0∨cc=1 by omega) with h|h
    ·rw[h,Nat.mul_zero,Nat.add_zero] at hvM;exact hvM
    ·rw[h,Nat.mul_one] at hvM;omega
   obtain⟨htr,hol,hll⟩:=Zgg w5 w.heap.size g3 c3 (a+b) M hoM hpM hval (by omega)
   rw[hM] at htr;have Htr:=hd_ htr;have Hol:=hd_ hol;have Hb5:=hd_ (HT4.out.bel.grown (row:=some g3) hgM HT4.out.siz (fun j hj=>by injection hj with hj;omega))
   clear HT4 Hbk hcc hM hpM hvM hoM hgM hval htr hol
   go_wp2_with fail
   refine cm_ Htr.out ?_;rintro e w6 ⟨rfl,hb6⟩;have Hb6:=hd_ (Hb5.out.trans (hb6.mono Hb5.out.size));have Htx:=hd_ (Za0 w6 (some ⟨g3,0,none⟩) c3 (a+b) (Hol.out.below hb6 nr_).reads hll);clear hb6 Hb5 Htr Hol
   go_wp2_with fail
   refine cm_ Htx.out ?_;rintro e w7 ⟨rfl,hb7⟩;have Hb7:=hd_ (Hb6.out.trans (hb7.mono Hb6.out.size));clear hb7 Hb6 Htx;go_wp2;go_ret;exact⟨rfl,Hb7.out⟩
  ·have hlen':¬ (l1:Int)<(l2:Int):=by omega
   obtain⟨k,hk⟩:∃ k,l1-l2=k:=⟨_,rfl⟩;have hk1:l2+k≤l1:=by omega
   have hk2:l1≤l2+k:=by omega
   have hki:(l1:Int)+1-1-l2=(k:Int):=by omega
   have Hki:=hd_ hki;clear hk hki;have Hrow:Hid (w2.ownsRow w.heap.size 204 1 (.slice a1 l1 c1) l1 (Zbk (Kf a))):=by
    have:=HT.out.o1
    unfold Yd at this;rw[Hl1.out] at this;exact this
   go_wp2_with (at_builtin;refine Zg rfl (.tmp 33) (.tmp 34) 206 rfl Zza _ (.int .u64 0) rfl rfl Hrow.out HT.out.siz rfl (by omega) (by omega) ?_)
   intro v' w3 hown3 hg3 hat3;have HT2:=hd_ (HT.out.next ((Below.refl _ _).alloc nr_ (.cells #[.int .u64 0] 204)));have hlp1:(Kf a++[0]).length=l1+1:=by rw[List.length_append,Hl1.out];rfl
   obtain⟨a3,c3,rfl,hT3⟩:=HT2.out.grow (v':=v') (L':=Kf a++[0]) hlp1 (by rw[Vp];exact hown3) (by rw[Hl1.out];exact hg3) (by rw[Hl1.out,show (w2.alloc (.cells #[.int .u64 0] 204)).heap.size=w2.heap.size+1 by simp];exact hat3)
   have HT3:=hd_ hT3.swap;have Hlp1:=hd_ hlp1;clear hown3 hg3 hat3 HT2 HT Hrow hT3 hlp1;have Hrow2:Hid (w3.ownsRow w.heap.size 204 1 (.slice a2 l2 c2) l2 (Zbk (Kf b))):=by
    have:=HT3.out.o1
    unfold Yd at this;rw[Hl2.out] at this;exact this
   go_wp2_with (at_builtin;(try rw[Hki.out]);refine Ym rfl (.tmp 37) (.tmp 43) 206 3 rfl Zza rfl rfl Tryz.underlying3 _ k rfl (by first | rfl | (show Value.int _ _=_;congr 1;omega)) Hrow2.out HT3.out.siz (by omega) (by omega) ?_)
   intro v' w4 hown4 hg4 hat4;have hlq1:(Kf b++List.replicate k 0).length=l1:=by rw[List.length_append,Hl2.out,List.length_replicate];omega
   obtain⟨a4,c4,rfl,hT4⟩:=HT3.out.grow (v':=v') (n:=l2+k) (L':=Kf b++List.replicate k 0) (by rw[List.length_append,Hl2.out,List.length_replicate]) (by rw[Vp,Ze4];exact hown4) (by rw[Hl2.out];exact hg4) (by rw[Hl2.out];exact hat4)
   have HT4:=hd_ hT4.swap;have Hlq1:=hd_ hlq1;clear hown4 hg4 hat4 HT3 Hrow2 hT4 hlq1;obtain⟨g3,hg3,hg31,hg32,-,-,-⟩:=HT4.out.o1.open (by rw[Hlp1.out];omega)
   subst hg3;have hbk:=Zf7 w4 w.heap.size g3 c3 (Kf a++[0]) a4 c4 (Kf b++List.replicate k 0) 0 HT4.out.o1 ((Kv _).append (Pcs.zeros 1)) HT4.out.o2.reads ((Kv _).append (Pcs.zeros k)) (fun b' off' e h0=>by
    subst e;intro e2;exact HT4.out.ap g3 rfl (by simp[Value.ownBlock,e2])) (by rw[Hlp1.out,Hlq1.out];omega) (by rw[Hlp1.out];omega)
   rw[Hlp1.out,Hlq1.out] at hbk;have Hbk:=hd_ hbk;rw[show l2+k=l1 by omega]
   clear hbk
   go_wp2_with fail
   refine cm_ Hbk.out ?_;rintro e w5 ⟨cc,M,hcc,rfl,hM,-,hpM,hvM,hoM,hgM⟩;rw[Hlp1.out] at hM;rw[Hlq1.out,Zbx,Kw,Zmp,Kw,Nat.mul_zero,Nat.add_zero,Nat.pow_zero,Nat.one_mul,Nat.zero_add] at hvM;have hval:val M=a+b:=by
    have e1:=(Kn a l1).1 (by rw[Hl1.out];exact Nat.le_refl _)
    have e2:=(Kn b l1).1 (by rw[Hl2.out];omega)
    have e3:=Zpj e1 e2;rcases(show cc=0∨cc=1 by omega) with h|h
    ·rw[h,Nat.mul_zero,Nat.add_zero] at hvM;exact hvM
    ·rw[h,Nat.mul_one] at hvM;omega
   obtain⟨htr,hol,hll⟩:=Zgg w5 w.heap.size g3 c3 (a+b) M hoM hpM hval (by omega)
   rw[hM] at htr;have Htr:=hd_ htr;have Hol:=hd_ hol;have Hb5:=hd_ (HT4.out.bel.grown (row:=some g3) hgM HT4.out.siz (fun j hj=>by injection hj with hj;omega))
   clear HT4 Hbk hcc hM hpM hvM hoM hgM hval htr hol
   go_wp2_with fail
   refine cm_ Htr.out ?_;rintro e w6 ⟨rfl,hb6⟩;have Hb6:=hd_ (Hb5.out.trans (hb6.mono Hb5.out.size));have Htx:=hd_ (Za0 w6 (some ⟨g3,0,none⟩) c3 (a+b) (Hol.out.below hb6 nr_).reads hll);clear hb6 Hb5 Htr Hol
   go_wp2_with fail
   refine cm_ Htx.out ?_;rintro e w7 ⟨rfl,hb7⟩;have Hb7:=hd_ (Hb6.out.trans (hb7.mono Hb6.out.size));clear hb7 Hb6 Htx;go_wp2;go_ret;exact⟨rfl,Hb7.out⟩
theorem Zzg{B:Nat}{w w3 w4:World}{a1:Option Addr}{c1:Nat}{L1:List Nat}{a2:Option Addr}{c2:Nat}{L2:List Nat}(h1:Yd w3 B a1 c1 L1)(hb:Below B w w3)(hs:B≤w3.heap.size)
  (h2:Yd w4 w3.heap.size a2 c2 L2) (hb2:Below w3.heap.size w3 w4):Two B a1 c1 L1 a2 c2 L2 w w4:=by
 have s3:=hb2.size;refine⟨h1.below hb2 nr_,h2.mono hs,?_,hb.trans (hb2.mono hs),by omega⟩
 intro k hk hk2;have e1:=(World.ownsRow.lt h1 k hk).2;have e2:=(World.ownsRow.lt h2 k hk2).1;omega
theorem Zjl(w:World)(a b:Nat)(ha:Num a)(hb:Num b)(L:Qx w):
  Kc Tryz.prog 229 #[.string (dec a),.string (dec b)] w (if a<b then .tuple #[.string ⟨#[]⟩,.int .i64 3] else .tuple #[.string (dec (a-b)),.int .i64 0]):=by
 unfold Kc;have ha':(dec a).size≤1000000:=ha;have hb':(dec b).size≤1000000:=hb;have Hcm:=hd_ (Zba w a b (by omega) (by omega))
 by_cases hlt:a<b
 ·rw[if_pos hlt];have hcv:Zay a b = -1:=by unfold Zay;rw[if_pos hlt]
  rw[hcv] at Hcm;clear hcv L;generalize dec a=s at *
  generalize dec b=t at *
  go_enter Tryz.func229,Tryz.ntmps229
  go_wp2_with fail
  refine cm_ Hcm.out ?_;rintro e w1 ⟨rfl,hb1⟩;have Hb1:=hd_ hb1;clear hb1 Hcm;go_wp2
  go_ret2
  exact⟨rfl,Hb1.out⟩
 ·rw[if_neg hlt];have hcn:¬ Zay a b<0:=by unfold Zay;rw[if_neg hlt];split<;>omega
  have Hbo:Hid (∀ w',Below w.heap.size w w'→Kc Tryz.prog 132 #[.string (dec a),.string (dec b)] w' (if a<1000000000000000000∧b<1000000000000000000 then .tuple #[.int .u64 a,.int .u64 b,.bool true] else .tuple #[.int .u64 0,.int .u64 0,.bool false])):=fun w' hb''=>Zf6 w' a b (by omega) (by omega) (L.below hb'')
  generalize Zay a b=cn at *
  by_cases hs:a<1000000000000000000∧b<1000000000000000000
  ·rw[if_pos hs] at Hbo;obtain⟨hs1,hs2⟩:=hs;have hsum:a-b<18446744073709551616:=by omega
   have Hof:Hid (∀ w',Below w.heap.size w w'→Kc Tryz.prog 133 #[.int .u64 (a-b:Nat)] w' (.string (dec (a-b)))):=fun w' hb'=>Zlg w' (a-b) hsum (L.below hb')
   have hw1:IntKind.u64.wrap ((a:Int)-(b:Int))=((a-b:Nat):Int):=by rw[show (a:Int)-(b:Int)=((a-b:Nat):Int) by omega];exact Zco _ hsum
   clear L;generalize dec a=s at *
   generalize dec b=t at *
   go_enter Tryz.func229,Tryz.ntmps229
   go_wp2_with fail
   refine cm_ Hcm.out ?_;rintro e w0 ⟨rfl,hb0⟩;have Hb0:=hd_ hb0;clear hb0 Hcm
   go_wp2_with fail
   refine cm_ (Hbo.out w0 Hb0.out) ?_;rintro e w1 ⟨rfl,hb1⟩;have Hb1:=hd_ (Hb0.out.trans (hb1.mono Hb0.out.size));clear hb1 Hbo Hb0
   go_wp2_with fail
   refine cm_ (Hof.out w1 Hb1.out) ?_;rintro e w2 ⟨rfl,hb2⟩;have Hb2:=hd_ (Hb1.out.trans (hb2.mono Hb1.out.size));clear hb2 Hb1 Hof;go_wp2
   go_ret2
   exact⟨rfl,Hb2.out⟩
  ·rw[if_neg hs] at Hbo;have la:=Vh a 1000000 (by decide) ha
   have lb:=Vh b 1000000 (by decide) hb
   have hlab:=Zr (show b≤a by omega)
   have Hc1:=hd_ (fun w'=>Zv8 w' a ha)
   have Hc2:=hd_ (fun w'=>Zv8 w' b hb)
   clear L hs;generalize dec a=s at *
   generalize dec b=t at *
   go_enter Tryz.func229,Tryz.ntmps229
   go_wp2_with fail
   refine cm_ Hcm.out ?_;rintro e w0 ⟨rfl,hb0⟩;have Hb0:=hd_ hb0;clear hb0 Hcm
   go_wp2_with fail
   refine cm_ (Hbo.out w0 Hb0.out) ?_;rintro e w1 ⟨rfl,hb1⟩;have Hb1:=hd_ (Hb0.out.trans (hb1.mono Hb0.out.size));clear hb1 Hbo Hb0
   go_wp2_with fail
   refine cm_ (Hc1.out _) ?_;rintro e w2 ⟨a1,c1,rfl,ho1,hb1⟩;have Hb2:=hd_ (Hb1.out.trans (hb1.mono Hb1.out.size));have Ho1:=hd_ (ho1.mono Hb1.out.size);obtain⟨l1,hl1⟩:∃ l,(Kf a).length=l:=⟨_,rfl⟩;obtain⟨l2,hl2⟩:∃ l,(Kf b).length=l:=⟨_,rfl⟩;rw[hl1] at la hlab ⊢;rw[hl2] at lb hlab;have Hl1:=hd_ hl1;have Hl2:=hd_ hl2;clear hl1 hl2 ho1 hb1 Hc1 Hb1;have Hrow:Hid (w2.ownsRow w.heap.size 204 1 (.slice a1 l1 c1) l1 (Zbk (Kf a))):=by
    have:=Ho1.out
    unfold Yd at this;rw[Hl1.out] at this;exact this
   have hsz2:=Hb2.out.size
   go_wp2_with (at_builtin;refine Zg rfl (.tmp 27) (.tmp 28) 206 rfl Zza _ (.int .u64 0) rfl rfl Hrow.out hsz2 rfl (by omega) (by omega) ?_)
   intro v' w3 hown3 hg3 hat3;have hlp1:(Kf a++[0]).length=l1+1:=by rw[List.length_append,Hl1.out];rfl
   have Hb3:Hid (Below w.heap.size w w3):=(Hb2.out.alloc hsz2 _).grown hg3 (by simp;omega) (fun k hk=>(Hrow.out.lt k hk).1)
   obtain⟨a3,c3,rfl⟩:=Ky hown3;have Ho3:Hid (Yd w3 w.heap.size a3 c3 (Kf a++[0])):=by
    show Yd ..
    unfold Yd;rw[hlp1,Vp];exact hown3
   have Hlp1:=hd_ hlp1;clear hown3 hg3 hat3 Hrow hlp1 Ho1 Hb2 hsz2
   go_wp2_with fail
   refine cm_ (Hc2.out _) ?_;rintro e w4 ⟨a2,c2,rfl,ho2,hb2⟩;have HT:=hd_ (Zzg Ho3.out Hb3.out Hb3.out.size ho2 hb2);clear ho2 hb2 Ho3 Hb3
   go_wp2_with fail
   refine cm_ (Hc2.out _) ?_;rintro e w5 ⟨a9,c9,rfl,-,hb5⟩;have HT3:=hd_ (HT.out.next hb5).swap;clear hb5 HT Hc2;rw[Hl2.out];obtain⟨k,hk⟩:∃ k,l1-l2=k:=⟨_,rfl⟩;have hk1:l2+k≤l1:=by omega
   have hk2:l1≤l2+k:=by omega
   have Hki:Hid ((l1:Int)+1-1-l2=(k:Int)):=by show _=_;omega
   clear hk;have Hrow2:Hid (w5.ownsRow w.heap.size 204 1 (.slice a2 l2 c2) l2 (Zbk (Kf b))):=by
    have:=HT3.out.o1
    unfold Yd at this;rw[Hl2.out] at this;exact this
   go_wp2_with (at_builtin;(try rw[Hki.out]);refine Ym rfl (.tmp 32) (.tmp 39) 206 3 rfl Zza rfl rfl Tryz.underlying3 _ k rfl (by first | rfl | (show Value.int _ _=_;congr 1;omega)) Hrow2.out HT3.out.siz (by omega) (by omega) ?_)
   intro v' w6 hown4 hg4 hat4;have hlq1:(Kf b++List.replicate k 0).length=l1:=by rw[List.length_append,Hl2.out,List.length_replicate];omega
   obtain⟨a4,c4,rfl,hT4⟩:=HT3.out.grow (v':=v') (n:=l2+k) (L':=Kf b++List.replicate k 0) (by rw[List.length_append,Hl2.out,List.length_replicate]) (by rw[Vp,Ze4];exact hown4) (by rw[Hl2.out];exact hg4) (by rw[Hl2.out];exact hat4)
   have HT4:=hd_ hT4.swap;have Hlq1:=hd_ hlq1;clear hown4 hg4 hat4 HT3 Hrow2 hT4 hlq1;obtain⟨g3,hg3,hg31,hg32,-,-,-⟩:=HT4.out.o1.open (by rw[Hlp1.out];omega)
   subst hg3;have hbk:=Zjj w6 w.heap.size g3 c3 (Kf a++[0]) a4 c4 (Kf b++List.replicate k 0) 1 0 HT4.out.o1 ((Kv _).append (Pcs.zeros 1)) HT4.out.o2.reads ((Kv _).append (Pcs.zeros k)) (fun b' off' e h0=>by
    subst e;intro e2;exact HT4.out.ap g3 rfl (by simp[Value.ownBlock,e2])) (by decide) (by rw[Hlp1.out,Hlq1.out];omega) (by rw[Hlp1.out];omega)
   rw[Hlp1.out,Hlq1.out] at hbk;have Hbk:=hd_ hbk;rw[show l2+k=l1 by omega]
   clear hbk
   go_wp2_with fail
   refine cm_ Hbk.out ?_;rintro e w7 ⟨cc,M,hcc,rfl,hM,-,hpM,hvM,hoM,hgM⟩;rw[Hlp1.out] at hM;rw[Hlq1.out,Zbx,Kw,Zmp,Kw,Nat.mul_zero,Nat.add_zero,Nat.pow_zero,Nat.one_mul,Nat.one_mul,Nat.zero_add] at hvM;have hval:val M=a-b:=by
    have e1:=Zrn hpM;rw[hM] at e1;rcases(show cc=0∨cc=1 by omega) with h|h
    ·rw[h,Nat.mul_zero,Nat.add_zero] at hvM;omega
    ·rw[h,Nat.mul_one] at hvM;omega
   obtain⟨htr,hol,hll⟩:=Zgg w7 w.heap.size g3 c3 (a-b) M hoM hpM hval (by omega)
   rw[hM] at htr;have Htr:=hd_ htr;have Hol:=hd_ hol;have Hb5:=hd_ (HT4.out.bel.grown (row:=some g3) hgM HT4.out.siz (fun j hj=>by injection hj with hj;omega))
   clear HT4 Hbk hM hpM hvM hoM hgM hval htr hol;generalize decide (cc=1)=bo at *
   clear hcc
   go_wp2_with fail
   refine cm_ Htr.out ?_;rintro e w8 ⟨rfl,hb6⟩;have Hb6:=hd_ (Hb5.out.trans (hb6.mono Hb5.out.size));have Htx:=hd_ (Za0 w8 (some ⟨g3,0,none⟩) c3 (a-b) (Hol.out.below hb6 nr_).reads hll);clear hb6 Hb5 Htr Hol
   go_wp2_with fail
   refine cm_ Htx.out ?_;rintro e w9 ⟨rfl,hb7⟩;have Hb7:=hd_ (Hb6.out.trans (hb7.mono Hb6.out.size));clear hb7 Hb6 Htx;go_wp2
   go_ret2
   exact⟨rfl,Hb7.out⟩
def itx (z:Int):ByteArray:=bs (Lib.itoa z)
def Zdf (z:Int):Prop:=Num z.natAbs
theorem Ki(n:Nat):itx (n:Int)=dec n:=by unfold itx dec;rw[Lib.itoa_nonneg]
theorem Zg9(n:Nat)(h:1≤n):itx (-(n:Int))=bs (45::Lib.decDigits n):=by unfold itx;rw[Lib.itoa_neg n h]
theorem Zqk(n:Nat)(h:1≤n):itx (-(n:Int))=⟨#[45]⟩++dec n:=by
 rw[Zg9 n h];unfold dec bs;apply ByteArray.ext;rw[ByteArray.data_append];simp
theorem Yu(n:Nat)(h:1≤n):(itx (-(n:Int))).size=(dec n).size+1:=by
 rw[Zg9 n h];unfold dec bs;simp[ByteArray.size]
theorem Zb9(z:Int):(itx z).size≤(dec z.natAbs).size+1:=by
 rcases Int.eq_nat_or_neg z with⟨n,rfl|rfl⟩
 ·rw[Ki];simp
 ·rcases Nat.eq_zero_or_pos n with h | h
  ·subst h;show (itx 0).size≤(dec 0).size+1;have:=Ki 0;rw[show ((0:Nat):Int)=0 from rfl] at this;rw[this];omega
  ·rw[Yu n h];simp
theorem Znd(z:Int):(dec z.natAbs).size≤(itx z).size:=by
 rcases Int.eq_nat_or_neg z with⟨n,rfl|rfl⟩
 ·rw[Ki];simp
 ·rcases Nat.eq_zero_or_pos n with h | h
  ·subst h;show (dec 0).size≤(itx 0).size;have:=Ki 0;rw[show ((0:Nat):Int)=0 from rfl] at this;rw[this];omega
  ·rw[Yu n h];simp
theorem Zeo(n:Nat):48≤((lb (dec n)).getD 0 0).toNat∧((lb (dec n)).getD 0 0).toNat≤57:=by
 rw[Za7];have hp:=Zaf n;have:=Za9 n ((Lib.decDigits n).getD 0 0) (by rw[List.getD_eq_getElem?_getD,List.getElem?_eq_getElem hp];exact List.getElem_mem _)
 exact this
theorem Zdw(n:Nat):0<(dec n).size:=by rw[Qo];exact Zaf n
theorem Zou(n:Nat)(h:1≤n):(itx (-(n:Int))).extract 1 (itx (-(n:Int))).size=dec n:=by
 apply ByteArray.ext;have hl:=Yu n h;rw[ByteArray.data_extract,hl,Zg9 n h];apply Array.ext';rw[Array.toList_extract];unfold dec bs;simp[ByteArray.size]
theorem Zao(n:Nat)(h:1≤n):lb (itx (-(n:Int)))=45::Lib.decDigits n:=by rw[Zg9 n h];simp
theorem Vv(w:World)(z:Int):
  Kc Tryz.prog 50 #[.string (itx z)] w (.tuple #[.bool (decide (z<0)),.string (dec z.natAbs)]):=by
 unfold Kc
 by_cases hz:z<0
 ·obtain⟨n,rfl⟩:∃ n:Nat,z = -(n:Int):=⟨z.natAbs,by omega⟩
  have hn:1≤n:=by omega
  have hsz:=Yu n hn;have hix:∀ W,(Instr.index 38 (.string (itx (-(n:Int)))) (.int .i64 0)).run Tryz.prog W = .ok (.int .u8 45) W:=fun W=>by
   rw[Zy9 W _ (by omega),Zao n hn];rfl
  have hpos:(0:Int)<(itx (-(n:Int))).size:=by omega
  have hone:(1:Int)≤(itx (-(n:Int))).size:=by omega
  have Hr:=hd_ (Zou n hn);have Hv:Hid (decide (-(n:Int)<0)=true):=by show _=_;rw[decide_eq_true_eq];exact hz
  have Ha:Hid ((-(n:Int)).natAbs=n):=by show _=_;omega
  clear hz hsz;generalize itx (-(n:Int))=s at *
  go_enter Tryz.func50,Tryz.ntmps50
  go_wp2_with fail
  go_quiet (fail)
  go_wp2
  go_ret2
  exact⟨by rw[Hv.out,Ha.out,← Hr.out];first | rfl | simp,by first | exact Below.refl _ _ | exact Zn _ _⟩
 ·obtain⟨n,rfl⟩:∃ n:Nat,z=(n:Int):=⟨z.natAbs,by omega⟩
  have hix:∀ W,(Instr.index 38 (.string (dec n)) (.int .i64 0)).run Tryz.prog W = .ok (.int .u8 ((lb (dec n)).getD 0 0).toNat) W:=fun W=>Zy9 W _ (Zdw n)
  have hf:=Zeo n;have hpos:(0:Int)<(dec n).size:=by have:=Zdw n;omega
  have Hv:Hid (decide ((n:Int)<0)=false):=by show _=_;rw[decide_eq_false_iff_not];exact hz
  have Ha:Hid ((n:Int).natAbs=n):=rfl;rw[Ki];clear hz;generalize ((lb (dec n)).getD 0 0).toNat=c at *
  have hc:((c:Int)==45)=false:=by rw[beq_eq_false_iff_ne];omega
  go_enter Tryz.func50,Tryz.ntmps50;go_wp2
  go_ret2
  exact⟨by rw[Hv.out];rfl,Below.refl _ _⟩
def jz (neg:Bool) (m:Nat):Int:=if neg then -(m:Int) else m
theorem Vi(w:World)(neg:Bool)(m:Nat)(hm:Num m):
  Kc Tryz.prog 52 #[.bool neg,.string (dec m)] w (.string (itx (jz neg m))):=by
 unfold Kc;have hz:=Yo m;cases neg with
 | false =>
  have Hv:Hid (itx (jz false m)=dec m):=Ki m;clear hz;generalize dec m=s at *
  go_enter Tryz.func52,Tryz.ntmps52;go_wp2;go_ret;exact⟨by rw[Hv.out];rfl,Below.refl _ _⟩
 | true =>
  by_cases h0:m=0
  ·rw[decide_eq_true h0] at hz;have Hv:Hid (itx (jz true m)=dec m):=by
    show _=_
    rw[h0];exact Ki 0
   clear h0;generalize dec m=s at *
   go_enter Tryz.func52,Tryz.ntmps52;go_wp2;go_ret;exact⟨by rw[Hv.out];rfl,Below.refl _ _⟩
  ·rw[decide_eq_false h0] at hz;have Hv:Hid (itx (jz true m)=⟨#[45]⟩++dec m):=by
    exact Zqk m (by omega)
   have hadd:∀ W,(Op.stringOp .add ⟨#[45]⟩ (dec m)).run Tryz.prog W = .ok (.string (⟨#[45]⟩++dec m)) W:=fun W=>run_string_add W _ _ (by decide) (by have:(dec m).size≤1000000:=hm;omega)
   clear h0;generalize dec m=s at *
   go_enter Tryz.func52,Tryz.ntmps52;go_wp2;go_ret;exact⟨by rw[Hv.out];rfl,Below.refl _ _⟩
theorem Zhw(w:World)(z:Int):
  Kc Tryz.prog 110 #[.string (itx z)] w (.string (dec z.natAbs)):=by
 unfold Kc;have Hs:=hd_ (Vv w z);generalize itx z=s at *
 generalize dec z.natAbs=t at *
 generalize decide (z<0)=bo at *
 go_enter Tryz.func110,Tryz.ntmps110
 go_wp2_with fail
 refine cm_ Hs.out ?_;rintro e w1 ⟨rfl,hb1⟩;have Hb1:=hd_ hb1;clear hb1 Hs;go_wp2;go_ret;exact⟨rfl,Hb1.out⟩
theorem Ztd(z:Int):((itx z).toList==[48])=decide (z=0):=by
 rcases Int.eq_nat_or_neg z with⟨n,rfl|rfl⟩
 ·rw[Ki,Yo]
  by_cases h:n=0
  ·subst h;rfl
  ·rw[decide_eq_false h,decide_eq_false (by omega)]
 ·rcases Nat.eq_zero_or_pos n with h | h
  ·subst h;have:=Ki 0
   show ((itx 0).toList==[48])=_
   rw[show ((0:Nat):Int)=0 from rfl] at this
   rw[this,Yo];rfl
  ·rw[Yh,Zao n h,decide_eq_false (by omega),beq_eq_false_iff_ne]
   intro e;injection e with e1 e2
   exact absurd e1 (by decide)
theorem Zah(w:World)(z:Int):
  Kc Tryz.prog 59 #[.string (itx z)] w (.int .i64 z.sign):=by
 unfold Kc;have hq:=Ztd z;rcases Int.lt_trichotomy z 0 with hz|hz|hz
 ·rw[decide_eq_false (by omega)] at hq
  have Hv:Hid (z.sign = -1):=Int.sign_eq_neg_one_of_neg hz;obtain⟨n,rfl⟩:∃ n:Nat,z = -(n:Int):=⟨z.natAbs,by omega⟩
  have hn:1≤n:=by omega
  have hsz:=Yu n hn;have hix:∀ W,(Instr.index 38 (.string (itx (-(n:Int)))) (.int .i64 0)).run Tryz.prog W = .ok (.int .u8 45) W:=fun W=>by
   rw[Zy9 W _ (by omega),Zao n hn];rfl
  clear hsz hz;generalize itx (-(n:Int))=s at *
  go_enter Tryz.func59,Tryz.ntmps59;go_wp2;go_ret;exact⟨by rw[Hv.out];rfl,Below.refl _ _⟩
 ·subst hz;rw[decide_eq_true rfl] at hq;generalize itx 0=s at *
  go_enter Tryz.func59,Tryz.ntmps59;go_wp2;go_ret;exact⟨rfl,Below.refl _ _⟩
 ·rw[decide_eq_false (by omega)] at hq
  have Hv:Hid (z.sign=1):=Int.sign_eq_one_of_pos hz;obtain⟨n,rfl⟩:∃ n:Nat,z=(n:Int):=⟨z.natAbs,by omega⟩
  rw[Ki] at hq ⊢;have hix:∀ W,(Instr.index 38 (.string (dec n)) (.int .i64 0)).run Tryz.prog W = .ok (.int .u8 ((lb (dec n)).getD 0 0).toNat) W:=fun W=>Zy9 W _ (Zdw n)
  have hf:=Zeo n;clear hz;generalize ((lb (dec n)).getD 0 0).toNat=c at *
  have hc:((c:Int)==45)=false:=by rw[beq_eq_false_iff_ne];omega
  generalize dec n=s at *
  go_enter Tryz.func59,Tryz.ntmps59;go_wp2;go_ret;exact⟨by rw[Hv.out];rfl,Below.refl _ _⟩
theorem Zes{w w':World}(h:∃ k os,w'=Go.Sort.grow (w.drewN k) os):Below w.heap.size w w':=by
 obtain⟨k,os,rfl⟩:=h;exact below_regrown w (w.drewN k).drawn os
theorem Zb6(w:World)(z:Int)(h0 : -9223372036854775808≤z)(h1:z≤9223372036854775807)(L:Qx w):
  Kc Tryz.prog 13 #[.int .i64 z] w (.string (itx z)):=by
 unfold Kc;have Hc:=hd_ (Tryz.strconv_Itoa z h0 h1 w L.tab);have Hv:Hid (itx z=⟨(Lib.itoa z).toArray⟩):=rfl;go_enter Tryz.func13,Tryz.ntmps13
 go_wp2_with fail
 refine cm_ Hc.out ?_;rintro e w1 ⟨rfl,hw⟩;have Hb:=hd_ (Zes hw);clear hw;go_wp2;go_ret;exact⟨by rw[Hv.out];rfl,Hb.out⟩
theorem Zee(n:Nat):Lib.parseMag (Lib.decDigits n)=if n<18446744073709551616 then .ok n else .range:=by
 have:=Zlc n
 rw[show (dec n).data.toList=Lib.decDigits n from Za7 n,Lib.parseUintB_64] at this
 exact this
theorem Zo5(n:Nat):∃ c r,Lib.decDigits n=c::r∧48≤c.toNat∧c.toNat≤57:=by
 have h:=Zaf n;have hd:=Za9 n;cases e:Lib.decDigits n with
 | nil=>rw[e] at h;simp at h
 | cons c r=>exact⟨c,r,rfl,hd c (by rw[e];exact List.mem_cons_self)⟩
theorem Zpf(z:Int)(h:z.natAbs<9223372036854775808):Lib.atoiAll (itx z).data.toList = .ok z:=by
 by_cases hz:z<0
 ·obtain⟨n,rfl⟩:∃ n:Nat,z = -(n:Int):=⟨z.natAbs,by omega⟩
  have hn:1≤n:=by omega
  have e:(itx (-(n:Int))).data.toList=45::Lib.decDigits n:=Zao n hn;rw[e];have hp:=Zee n;rw[if_pos (by omega)] at hp
  have h45:(45:UInt8).toNat=45:=rfl;simp only[Lib.atoiAll,h45,or_true,if_true,hp,not_true_eq_false,false_and,if_false,true_and];rw[if_neg (by omega)]
 ·obtain⟨n,rfl⟩:∃ n:Nat,z=(n:Int):=⟨z.natAbs,by omega⟩
  have e:(itx (n:Int)).data.toList=Lib.decDigits n:=by rw[Ki];exact Za7 n
  rw[e];have hp:=Zee n;rw[if_pos (by omega)] at hp
  obtain⟨c,r,hc,h1,h2⟩:=Zo5 n;rw[hc] at hp ⊢;have q1:¬ c.toNat=43:=by omega
  have q2:¬ c.toNat=45:=by omega
  simp only[Lib.atoiAll,q1,q2,or_self,if_false,hp,not_false_eq_true,true_and,false_and];rw[if_neg (by omega)]
theorem Zld(z:Int):Lib.parseIntB 64 (itx z).data.toList=if -9223372036854775808≤z∧z≤9223372036854775807 then .ok z else .range:=by
 have hpow:(2:Nat)^(64-1)=9223372036854775808:=by decide
 by_cases hz:z<0
 ·obtain⟨n,rfl⟩:∃ n:Nat,z = -(n:Int):=⟨z.natAbs,by omega⟩
  have hn:1≤n:=by omega
  have e:(itx (-(n:Int))).data.toList=45::Lib.decDigits n:=Zao n hn;rw[e];have hp:=Zee n;have h45:(45:UInt8).toNat=45:=rfl
  by_cases hb:n<18446744073709551616
  ·rw[if_pos hb] at hp;simp only[Lib.parseIntB,Lib.parseUintB_64,h45,or_true,if_true,hp,not_true_eq_false,false_and,if_false,true_and,hpow]
   by_cases h3:9223372036854775808<n
   ·rw[if_pos h3,if_neg (by omega)]
   ·rw[if_neg h3,if_pos (by omega)]
  ·rw[if_neg hb] at hp;simp only[Lib.parseIntB,Lib.parseUintB_64,h45,or_true,if_true,hp];rw[if_neg (by omega)]
 ·obtain⟨n,rfl⟩:∃ n:Nat,z=(n:Int):=⟨z.natAbs,by omega⟩
  have e:(itx (n:Int)).data.toList=Lib.decDigits n:=by rw[Ki];exact Za7 n
  rw[e];have hp:=Zee n;obtain⟨c,r,hc,h1,h2⟩:=Zo5 n;rw[hc] at hp ⊢;have q1:¬ c.toNat=43:=by omega
  have q2:¬ c.toNat=45:=by omega
  by_cases hb:n<18446744073709551616
  ·rw[if_pos hb] at hp;simp only[Lib.parseIntB,Lib.parseUintB_64,q1,q2,or_self,if_false,hp,not_false_eq_true,true_and,false_and,hpow]
   by_cases h3:9223372036854775808≤n
   ·rw[if_pos h3,if_neg (by omega)]
   ·rw[if_neg h3,if_pos (by omega)]
  ·rw[if_neg hb] at hp;simp only[Lib.parseIntB,Lib.parseUintB_64,q1,q2,or_self,if_false,hp];rw[if_neg (by omega)]
theorem Zk(z:Int)(k:Nat)(hk:0<k)(h:(itx z).size≤k):z.natAbs<10^k:=by
 have:=Znd z
 rw[← Qh z.natAbs k hk,← Qo];omega
theorem Zi(w:World)(z:Int)(hz:Zdf z)(most:Nat)(hm:most≤18):
  Kc Tryz.prog 54 #[.string (itx z),.int .i64 most] w (if (itx z).size≤most then .tuple #[.int .i64 z,.bool true] else .tuple #[.int .i64 0,.bool false]):=by
 unfold Kc;have hz1:(dec z.natAbs).size≤1000000:=hz;have hz2:=Zb9 z
 by_cases h:(itx z).size≤most
 ·rw[if_pos h];have hlt:=Zk z 18 (by decide) (by omega)
  have Hc:=hd_ (Tryz.strconv_Atoi_ok (itx z) (by omega) z (Zpf z (by omega)) w)
  have Hbb:=hd_ (fun t=>Yr w 5 t)
  have h':((itx z).size:Int)≤most:=by omega
  clear hlt hz1 hz2;generalize itx z=s at *
  go_enter Tryz.func54,Tryz.ntmps54
  go_wp2_with fail
  refine cm_ Hc.out ?_;rintro e w1 ⟨rfl,hw⟩;have Hb:Hid (Below w.heap.size w w1):=by
   show Below _ _ _
   rcases hw with rfl|⟨t,rfl⟩
   ·exact Below.refl _ _
   ·exact Hbb.out t
  clear hw
  go_wp2_with fail
  go_quiet (fail)
  go_wp2
  go_ret2
  exact⟨rfl,Vc Hb.out _⟩
 ·rw[if_neg h];have h':¬ ((itx z).size:Int)≤most:=by omega
  generalize itx z=s at *
  go_enter Tryz.func54,Tryz.ntmps54;go_wp2
  go_ret2
  exact⟨rfl,Below.refl _ _⟩
theorem Zpx(w:World)(z:Int)(hz:Zdf z)(L:Qx w):
  Kc Tryz.prog 179 #[.string (itx z)] w (if -9223372036854775808≤z∧z≤9223372036854775807 then .tuple #[.int .i64 z,.bool true] else .tuple #[.int .i64 0,.bool false]):=by
 unfold Kc;have hz1:(dec z.natAbs).size≤1000000:=hz;have hz2:=Zb9 z;have hp:=Zld z
 by_cases h : -9223372036854775808≤z∧z≤9223372036854775807
 ·rw[if_pos h] at hp ⊢;have Hc:=hd_ (Tryz.strconv_ParseInt_10_at64_ok (itx z) (by omega) z hp w)
  have Hbb:=hd_ (fun t=>Yr w 5 t)
  clear hz1 hz2 hp;generalize itx z=s at *
  have hwr:IntKind.i64.wrap z=z:=iw_ _ h;go_enter Tryz.func179,Tryz.ntmps179
  go_wp2_with fail
  refine cm_ Hc.out ?_;rintro e w1 ⟨rfl,hw⟩;have Hb:Hid (Below w.heap.size w w1):=by
   show Below _ _ _
   rcases hw with rfl|⟨t,rfl⟩
   ·exact Below.refl _ _
   ·exact Hbb.out t
  clear hw;go_wp2
  go_ret2
  exact⟨rfl,Hb.out⟩
 ·rw[if_neg h] at hp ⊢;obtain⟨ev,hv,hev⟩:=L.range;have Hc:=hd_ (Tryz.strconv_ParseInt_10_at64_range (itx z) (by omega) hp ev w hv hev)
  clear hp hv hev hz1 hz2;generalize Lib.intSat 64 (itx z).data.toList=sat at *
  generalize itx z=s at *
  go_enter Tryz.func179,Tryz.ntmps179
  go_wp2_with fail
  refine cm_ Hc.out ?_;rintro e w1 ⟨N,rfl,-,-,hb⟩;have Hb:=hd_ hb;clear hb;go_wp2
  go_ret2
  exact⟨rfl,Hb.out⟩
theorem Zz5(a b:Int):jz (decide (a<0) != decide (b<0)) (a.natAbs*b.natAbs)=a*b:=by
 unfold jz;rw[Int.natCast_mul]
 by_cases h1:a<0
 ·have ea:(a.natAbs:Int) = -a:=by omega
  rw[decide_eq_true h1,ea]
  by_cases h2:b<0
  ·have eb:(b.natAbs:Int) = -b:=by omega
   rw[decide_eq_true h2,eb,if_neg (by decide),Int.neg_mul_neg]
  ·have eb:(b.natAbs:Int)=b:=by omega
   rw[decide_eq_false h2,eb,if_pos (by decide),Int.neg_mul,Int.neg_neg]
 ·have ea:(a.natAbs:Int)=a:=by omega
  rw[decide_eq_false h1,ea]
  by_cases h2:b<0
  ·have eb:(b.natAbs:Int) = -b:=by omega
   rw[decide_eq_true h2,eb,if_pos (by decide),Int.mul_neg,Int.neg_neg]
  ·have eb:(b.natAbs:Int)=b:=by omega
   rw[decide_eq_false h2,eb,if_neg (by decide)]
theorem Za4(w:World)(a b:Int)(ha:Zdf a)(hb:Zdf b)(hab:Zdf (a*b))(L:Qx w):
  Kc Tryz.prog 14 #[.string (itx a),.string (itx b)] w (.string (itx (a*b))):=by
 unfold Kc;have Hl1:=hd_ (fun W=>Zi W a ha 9 (by decide))
 have Hl2:=hd_ (fun W=>Zi W b hb 9 (by decide))
 have Hsa:=hd_ (fun W=>Vv W a)
 have Hsb:=hd_ (fun W=>Vv W b)
 have Hmu:Hid (∀ W,Below w.heap.size w W→Kc Tryz.prog 55 #[.string (dec a.natAbs),.string (dec b.natAbs)] W (.string (dec (a.natAbs*b.natAbs)))):=fun W hW=>Zsw W a.natAbs b.natAbs ha hb (L.below hW)
 have Hj:Hid (∀ W,Kc Tryz.prog 52 #[.bool (decide (a<0) != decide (b<0)),.string (dec (a.natAbs*b.natAbs))] W (.string (itx (a*b)))):=fun W=>by
  have hnm:Num (a.natAbs*b.natAbs):=by have:=hab;unfold Zdf at this;rw[Int.natAbs_mul] at this;exact this
  have:=Vi W (decide (a<0) != decide (b<0)) (a.natAbs*b.natAbs) hnm
  rw[Zz5] at this;exact this
 by_cases h1:(itx a).size≤9
 ·rw[if_pos h1] at Hl1
  by_cases h2:(itx b).size≤9
  ·rw[if_pos h2] at Hl2;have q1:=Zk a 9 (by decide) h1
   have q2:=Zk b 9 (by decide) h2
   have q3:(a*b).natAbs≤1000000000*1000000000:=by rw[Int.natAbs_mul];exact Nat.mul_le_mul (by omega) (by omega)
   have q4 : -9223372036854775808≤a*b∧a*b≤9223372036854775807:=by omega
   have hwr:IntKind.i64.wrap (a*b)=a*b:=iw_ _ q4;have Hof:Hid (∀ W,Below w.heap.size w W→Kc Tryz.prog 13 #[.int .i64 (a*b)] W (.string (itx (a*b)))):=fun W hW=>Zb6 W (a*b) q4.1 q4.2 (L.below hW)
   clear L q1 q2 q3 Hj Hmu Hsa Hsb;generalize itx a=s at *
   generalize itx b=t at *
   go_enter Tryz.func14,Tryz.ntmps14
   go_wp2_with fail
   refine cm_ (Hl1.out w) ?_;rintro e w1 ⟨rfl,hb1⟩;have Hb1:=hd_ hb1;clear hb1 Hl1
   go_wp2_with fail
   refine cm_ (Hl2.out w1) ?_;rintro e w2 ⟨rfl,hb2⟩;have Hb2:=hd_ (Hb1.out.trans (hb2.mono Hb1.out.size));clear hb2 Hb1 Hl2
   go_wp2_with fail
   refine cm_ (Hof.out w2 Hb2.out) ?_;rintro e w3 ⟨rfl,hb3⟩;have Hb3:=hd_ (Hb2.out.trans (hb3.mono Hb2.out.size));clear hb3 Hb2 Hof;go_wp2;go_ret;exact⟨rfl,Hb3.out⟩
  ·rw[if_neg h2] at Hl2;clear L;generalize itx a=s at *
   generalize itx b=t at *
   generalize dec (a.natAbs*b.natAbs)=p at *
   generalize dec a.natAbs=sm at *
   generalize dec b.natAbs=tm at *
   generalize decide (a<0)=na at *
   generalize decide (b<0)=nb at *
   go_enter Tryz.func14,Tryz.ntmps14
   go_wp2_with fail
   refine cm_ (Hl1.out w) ?_;rintro e w1 ⟨rfl,hb1⟩;have Hb1:=hd_ hb1;clear hb1 Hl1
   go_wp2_with fail
   refine cm_ (Hl2.out w1) ?_;rintro e w2 ⟨rfl,hb2⟩;have Hb2:=hd_ (Hb1.out.trans (hb2.mono Hb1.out.size));clear hb2 Hb1 Hl2
   go_wp2_with fail
   refine cm_ (Hsa.out w2) ?_;rintro e w3 ⟨rfl,hb3⟩;have Hb3:=hd_ (Hb2.out.trans (hb3.mono Hb2.out.size));clear hb3 Hb2 Hsa
   go_wp2_with fail
   refine cm_ (Hsb.out w3) ?_;rintro e w4 ⟨rfl,hb4⟩;have Hb4:=hd_ (Hb3.out.trans (hb4.mono Hb3.out.size));clear hb4 Hb3 Hsb
   go_wp2_with fail
   refine cm_ (Hmu.out w4 Hb4.out) ?_;rintro e w5 ⟨rfl,hb5⟩;have Hb5:=hd_ (Hb4.out.trans (hb5.mono Hb4.out.size));clear hb5 Hb4 Hmu
   go_wp2_with fail
   refine cm_ (Hj.out w5) ?_;rintro e w6 ⟨rfl,hb6⟩;have Hb6:=hd_ (Hb5.out.trans (hb6.mono Hb5.out.size));clear hb6 Hb5 Hj;go_wp2;go_ret;exact⟨rfl,Hb6.out⟩
 ·rw[if_neg h1] at Hl1;clear L Hl2;generalize itx a=s at *
  generalize itx b=t at *
  generalize dec (a.natAbs*b.natAbs)=p at *
  generalize dec a.natAbs=sm at *
  generalize dec b.natAbs=tm at *
  generalize decide (a<0)=na at *
  generalize decide (b<0)=nb at *
  go_enter Tryz.func14,Tryz.ntmps14
  go_wp2_with fail
  refine cm_ (Hl1.out w) ?_;rintro e w2 ⟨rfl,hb2⟩;have Hb2:=hd_ hb2;clear hb2 Hl1
  go_wp2_with fail
  refine cm_ (Hsa.out w2) ?_;rintro e w3 ⟨rfl,hb3⟩;have Hb3:=hd_ (Hb2.out.trans (hb3.mono Hb2.out.size));clear hb3 Hb2 Hsa
  go_wp2_with fail
  refine cm_ (Hsb.out w3) ?_;rintro e w4 ⟨rfl,hb4⟩;have Hb4:=hd_ (Hb3.out.trans (hb4.mono Hb3.out.size));clear hb4 Hb3 Hsb
  go_wp2_with fail
  refine cm_ (Hmu.out w4 Hb4.out) ?_;rintro e w5 ⟨rfl,hb5⟩;have Hb5:=hd_ (Hb4.out.trans (hb5.mono Hb4.out.size));clear hb5 Hb4 Hmu
  go_wp2_with fail
  refine cm_ (Hj.out w5) ?_;rintro e w6 ⟨rfl,hb6⟩;have Hb6:=hd_ (Hb5.out.trans (hb6.mono Hb5.out.size));clear hb6 Hb5 Hj;go_wp2;go_ret;exact⟨rfl,Hb6.out⟩
theorem Zx7(a b:Int)(h:decide (a<0)=decide (b<0)):jz (decide (a<0)) (a.natAbs+b.natAbs)=a+b:=by
 unfold jz
 by_cases h1:a<0
 ·rw[decide_eq_true h1] at h ⊢;have h2:b<0:=by simpa using h.symm
  rw[if_pos rfl];omega
 ·rw[decide_eq_false h1] at h ⊢;have h2:¬ b<0:=by simpa using h.symm
  rw[if_neg (by decide)];omega
theorem Ztc(a b:Int)(h:¬ decide (a<0)=decide (b<0))(h2:¬ a.natAbs<b.natAbs):jz (decide (a<0)) (a.natAbs-b.natAbs)=a+b:=by
 unfold jz
 by_cases h1:a<0
 ·rw[decide_eq_true h1] at h ⊢;have h3:¬ b<0:=fun hb=>h (by rw[decide_eq_true hb])
  rw[if_pos rfl];omega
 ·rw[decide_eq_false h1] at h ⊢;have h3:b<0:=by
   rcases Int.lt_or_le b 0 with hb|hb
   ·exact hb
   ·exact absurd (by rw[decide_eq_false (by omega)]) h
  rw[if_neg (by decide)];omega
theorem Zf8(w:World)(a b:Int)(ha:Zdf a)(hb:Zdf b)(hab:Num (a.natAbs+b.natAbs))(L:Qx w):
  Kc Tryz.prog 205 #[.string (itx a),.string (itx b)] w (.string (itx (a+b))):=by
 unfold Kc;have Hl1:=hd_ (fun W=>Zi W a ha 18 (by decide))
 have Hl2:=hd_ (fun W=>Zi W b hb 18 (by decide))
 have Hsa:=hd_ (fun W=>Vv W a)
 have Hsb:=hd_ (fun W=>Vv W b)
 have Had:Hid (∀ W,Below w.heap.size w W→Kc Tryz.prog 228 #[.string (dec a.natAbs),.string (dec b.natAbs)] W (.string (dec (a.natAbs+b.natAbs)))):=fun W hW=>Zn1 W a.natAbs b.natAbs ha hb (L.below hW)
 have Hcm:=hd_ (fun W=>Zba W a.natAbs b.natAbs (Nat.le_trans ha (by decide)) (Nat.le_trans hb (by decide)))
 have Hsu:Hid (∀ W,Below w.heap.size w W→¬ a.natAbs<b.natAbs→Kc Tryz.prog 229 #[.string (dec a.natAbs),.string (dec b.natAbs)] W (.tuple #[.string (dec (a.natAbs-b.natAbs)),.int .i64 0])):=fun W hW h=>by
  have:=Zjl W a.natAbs b.natAbs ha hb (L.below hW)
  rw[if_neg h] at this;exact this
 have Hsv:Hid (∀ W,Below w.heap.size w W→¬ b.natAbs<a.natAbs→Kc Tryz.prog 229 #[.string (dec b.natAbs),.string (dec a.natAbs)] W (.tuple #[.string (dec (b.natAbs-a.natAbs)),.int .i64 0])):=fun W hW h=>by
  have:=Zjl W b.natAbs a.natAbs hb ha (L.below hW)
  rw[if_neg h] at this;exact this
 have Hj1:Hid (decide (a<0)=decide (b<0)→∀ W,Kc Tryz.prog 52 #[.bool (decide (a<0)),.string (dec (a.natAbs+b.natAbs))] W (.string (itx (a+b)))):=fun h W=>by
  have:=Vi W (decide (a<0)) (a.natAbs+b.natAbs) hab
  rw[Zx7 a b h] at this;exact this
 have Hj2:Hid (¬ decide (a<0)=decide (b<0)→¬ a.natAbs<b.natAbs→∀ W,Kc Tryz.prog 52 #[.bool (decide (a<0)),.string (dec (a.natAbs-b.natAbs))] W (.string (itx (a+b)))):=fun h h2 W=>by
  have:=Vi W (decide (a<0)) (a.natAbs-b.natAbs) (hab.le (by omega))
  rw[Ztc a b h h2] at this;exact this
 have Hj3:Hid (¬ decide (a<0)=decide (b<0)→¬ b.natAbs<a.natAbs→∀ W,Kc Tryz.prog 52 #[.bool (decide (b<0)),.string (dec (b.natAbs-a.natAbs))] W (.string (itx (a+b)))):=fun h h2 W=>by
  have:=Vi W (decide (b<0)) (b.natAbs-a.natAbs) (hab.le (by omega))
  rw[Ztc b a (fun e=>h e.symm) h2,Int.add_comm b a] at this
  exact this
 by_cases h1:(itx a).size≤18
 ·rw[if_pos h1] at Hl1
  by_cases h2:(itx b).size≤18
  ·rw[if_pos h2] at Hl2;have q1:=Zk a 18 (by decide) h1
   have q2:=Zk b 18 (by decide) h2
   have q4 : -9223372036854775808≤a+b∧a+b≤9223372036854775807:=by omega
   have hwr:IntKind.i64.wrap (a+b)=a+b:=iw_ _ q4;have Hof:Hid (∀ W,Below w.heap.size w W→Kc Tryz.prog 13 #[.int .i64 (a+b)] W (.string (itx (a+b)))):=fun W hW=>Zb6 W (a+b) q4.1 q4.2 (L.below hW)
   clear L q1 q2 Hj1 Hj2 Hj3 Had Hsu Hsv Hsa Hsb Hcm;generalize itx a=s at *
   generalize itx b=t at *
   go_enter Tryz.func205,Tryz.ntmps205
   go_wp2_with fail
   refine cm_ (Hl1.out w) ?_;rintro e w1 ⟨rfl,hb1⟩;have Hb1:=hd_ hb1;clear hb1 Hl1
   go_wp2_with fail
   refine cm_ (Hl2.out w1) ?_;rintro e w2 ⟨rfl,hb2⟩;have Hb2:=hd_ (Hb1.out.trans (hb2.mono Hb1.out.size));clear hb2 Hb1 Hl2
   go_wp2_with fail
   refine cm_ (Hof.out w2 Hb2.out) ?_;rintro e w3 ⟨rfl,hb3⟩;have Hb3:=hd_ (Hb2.out.trans (hb3.mono Hb2.out.size));clear hb3 Hb2 Hof;go_wp2;go_ret;exact⟨rfl,Hb3.out⟩
  ·rw[if_neg h2] at Hl2;clear L
   by_cases hs:decide (a<0)=decide (b<0)
   ·have Hj:=hd_ (Hj1.out hs);clear Hj1 Hj2 Hj3 Hcm Hsu Hsv;rw[← hs] at Hsb;clear hs;generalize itx a=s at *
    generalize itx b=t at *
    generalize dec (a.natAbs+b.natAbs)=pa at *
    generalize dec (a.natAbs-b.natAbs)=ps at *
    generalize dec (b.natAbs-a.natAbs)=pt at *
    generalize dec a.natAbs=sm at *
    generalize dec b.natAbs=tm at *
    generalize decide (a<0)=na at *
    go_enter Tryz.func205,Tryz.ntmps205
    go_wp2_with fail
    refine cm_ (Hl1.out w) ?_;rintro e w1 ⟨rfl,hb1⟩;have Hb1:=hd_ hb1;clear hb1 Hl1
    go_wp2_with fail
    refine cm_ (Hl2.out w1) ?_;rintro e w2 ⟨rfl,hb2⟩;have Hb2:=hd_ (Hb1.out.trans (hb2.mono Hb1.out.size));clear hb2 Hb1 Hl2
    go_wp2_with fail
    refine cm_ (Hsa.out w2) ?_;rintro e w3 ⟨rfl,hb3⟩;have Hb3:=hd_ (Hb2.out.trans (hb3.mono Hb2.out.size));clear hb3 Hb2 Hsa
    go_wp2_with fail
    refine cm_ (Hsb.out w3) ?_;rintro e w4 ⟨rfl,hb4⟩;have Hb4:=hd_ (Hb3.out.trans (hb4.mono Hb3.out.size));clear hb4 Hb3 Hsb
    go_wp2_with fail
    refine cm_ (Had.out w4 Hb4.out) ?_;rintro e w5 ⟨rfl,hb5⟩;have Hb5:=hd_ (Hb4.out.trans (hb5.mono Hb4.out.size));clear hb5 Hb4 Had
    go_wp2_with fail
    refine cm_ (Hj.out w5) ?_;rintro e w6 ⟨rfl,hb6⟩;have Hb6:=hd_ (Hb5.out.trans (hb6.mono Hb5.out.size));clear hb6 Hb5 Hj;go_wp2;go_ret;exact⟨rfl,Hb6.out⟩
   ·by_cases hc:a.natAbs<b.natAbs
    ·have Hj:=hd_ (Hj3.out hs (by omega))
     have Hss:=hd_ (fun W hW=>Hsv.out W hW (by omega))
     have hcv:Zay a.natAbs b.natAbs = -1:=by unfold Zay;rw[if_pos hc]
     rw[hcv] at Hcm;have hnb:(decide (a<0)==decide (b<0))=false:=by rw[beq_eq_false_iff_ne];exact hs
     clear Hj1 Hj2 Hj3 Had Hsu Hsv hcv hs hc;generalize itx a=s at *
     generalize itx b=t at *
     generalize dec (a.natAbs+b.natAbs)=pa at *
     generalize dec (a.natAbs-b.natAbs)=ps at *
     generalize dec (b.natAbs-a.natAbs)=pt at *
     generalize dec a.natAbs=sm at *
     generalize dec b.natAbs=tm at *
     generalize decide (a<0)=na at *
     generalize decide (b<0)=nb at *
     go_enter Tryz.func205,Tryz.ntmps205
     go_wp2_with fail
     refine cm_ (Hl1.out w) ?_;rintro e w1 ⟨rfl,hb1⟩;have Hb1:=hd_ hb1;clear hb1 Hl1
     go_wp2_with fail
     refine cm_ (Hl2.out w1) ?_;rintro e w2 ⟨rfl,hb2⟩;have Hb2:=hd_ (Hb1.out.trans (hb2.mono Hb1.out.size));clear hb2 Hb1 Hl2
     go_wp2_with fail
     refine cm_ (Hsa.out w2) ?_;rintro e w3 ⟨rfl,hb3⟩;have Hb3:=hd_ (Hb2.out.trans (hb3.mono Hb2.out.size));clear hb3 Hb2 Hsa
     go_wp2_with fail
     refine cm_ (Hsb.out w3) ?_;rintro e w4 ⟨rfl,hb4⟩;have Hb4:=hd_ (Hb3.out.trans (hb4.mono Hb3.out.size));clear hb4 Hb3 Hsb
     go_wp2_with fail
     refine cm_ (Hcm.out w4) ?_;rintro e w5 ⟨rfl,hb5⟩;have Hb5:=hd_ (Hb4.out.trans (hb5.mono Hb4.out.size));clear hb5 Hb4 Hcm
     go_wp2_with fail
     refine cm_ (Hss.out w5 Hb5.out) ?_;rintro e w6 ⟨rfl,hb6⟩;have Hb6:=hd_ (Hb5.out.trans (hb6.mono Hb5.out.size));clear hb6 Hb5 Hss
     go_wp2_with fail
     refine cm_ (Hj.out w6) ?_;rintro e w7 ⟨rfl,hb7⟩;have Hb7:=hd_ (Hb6.out.trans (hb7.mono Hb6.out.size));clear hb7 Hb6 Hj;go_wp2;go_ret;exact⟨rfl,Hb7.out⟩
    ·have Hj:=hd_ (Hj2.out hs hc);have Hss:=hd_ (fun W hW=>Hsu.out W hW hc)
     have hcn:¬ Zay a.natAbs b.natAbs<0:=by unfold Zay;rw[if_neg hc];split<;>omega
     have hnb:(decide (a<0)==decide (b<0))=false:=by rw[beq_eq_false_iff_ne];exact hs
     clear Hj1 Hj2 Hj3 Had Hsu Hsv hs hc;generalize Zay a.natAbs b.natAbs=cn at *
     generalize itx a=s at *
     generalize itx b=t at *
     generalize dec (a.natAbs+b.natAbs)=pa at *
     generalize dec (a.natAbs-b.natAbs)=ps at *
     generalize dec (b.natAbs-a.natAbs)=pt at *
     generalize dec a.natAbs=sm at *
     generalize dec b.natAbs=tm at *
     generalize decide (a<0)=na at *
     generalize decide (b<0)=nb at *
     go_enter Tryz.func205,Tryz.ntmps205
     go_wp2_with fail
     refine cm_ (Hl1.out w) ?_;rintro e w1 ⟨rfl,hb1⟩;have Hb1:=hd_ hb1;clear hb1 Hl1
     go_wp2_with fail
     refine cm_ (Hl2.out w1) ?_;rintro e w2 ⟨rfl,hb2⟩;have Hb2:=hd_ (Hb1.out.trans (hb2.mono Hb1.out.size));clear hb2 Hb1 Hl2
     go_wp2_with fail
     refine cm_ (Hsa.out w2) ?_;rintro e w3 ⟨rfl,hb3⟩;have Hb3:=hd_ (Hb2.out.trans (hb3.mono Hb2.out.size));clear hb3 Hb2 Hsa
     go_wp2_with fail
     refine cm_ (Hsb.out w3) ?_;rintro e w4 ⟨rfl,hb4⟩;have Hb4:=hd_ (Hb3.out.trans (hb4.mono Hb3.out.size));clear hb4 Hb3 Hsb
     go_wp2_with fail
     refine cm_ (Hcm.out w4) ?_;rintro e w5 ⟨rfl,hb5⟩;have Hb5:=hd_ (Hb4.out.trans (hb5.mono Hb4.out.size));clear hb5 Hb4 Hcm
     go_wp2_with fail
     refine cm_ (Hss.out w5 Hb5.out) ?_;rintro e w6 ⟨rfl,hb6⟩;have Hb6:=hd_ (Hb5.out.trans (hb6.mono Hb5.out.size));clear hb6 Hb5 Hss
     go_wp2_with fail
     refine cm_ (Hj.out w6) ?_;rintro e w7 ⟨rfl,hb7⟩;have Hb7:=hd_ (Hb6.out.trans (hb7.mono Hb6.out.size));clear hb7 Hb6 Hj;go_wp2;go_ret;exact⟨rfl,Hb7.out⟩
 ·rw[if_neg h1] at Hl1;clear L Hl2
  by_cases hs:decide (a<0)=decide (b<0)
  ·have Hj:=hd_ (Hj1.out hs);clear Hj1 Hj2 Hj3 Hcm Hsu Hsv;rw[← hs] at Hsb;clear hs;generalize itx a=s at *
   generalize itx b=t at *
   generalize dec (a.natAbs+b.natAbs)=pa at *
   generalize dec (a.natAbs-b.natAbs)=ps at *
   generalize dec (b.natAbs-a.natAbs)=pt at *
   generalize dec a.natAbs=sm at *
   generalize dec b.natAbs=tm at *
   generalize decide (a<0)=na at *
   go_enter Tryz.func205,Tryz.ntmps205
   go_wp2_with fail
   refine cm_ (Hl1.out w) ?_;rintro e w1 ⟨rfl,hb1⟩;have Hb1:=hd_ hb1;clear hb1 Hl1
   go_wp2_with fail
   refine cm_ (Hsa.out w1) ?_;rintro e w2 ⟨rfl,hb2⟩;have Hb2:=hd_ (Hb1.out.trans (hb2.mono Hb1.out.size));clear hb2 Hb1 Hsa
   go_wp2_with fail
   refine cm_ (Hsb.out w2) ?_;rintro e w3 ⟨rfl,hb3⟩;have Hb3:=hd_ (Hb2.out.trans (hb3.mono Hb2.out.size));clear hb3 Hb2 Hsb
   go_wp2_with fail
   refine cm_ (Had.out w3 Hb3.out) ?_;rintro e w4 ⟨rfl,hb4⟩;have Hb4:=hd_ (Hb3.out.trans (hb4.mono Hb3.out.size));clear hb4 Hb3 Had
   go_wp2_with fail
   refine cm_ (Hj.out w4) ?_;rintro e w5 ⟨rfl,hb5⟩;have Hb5:=hd_ (Hb4.out.trans (hb5.mono Hb4.out.size));clear hb5 Hb4 Hj;go_wp2;go_ret;exact⟨rfl,Hb5.out⟩
  ·by_cases hc:a.natAbs<b.natAbs
   ·have Hj:=hd_ (Hj3.out hs (by omega))
    have Hss:=hd_ (fun W hW=>Hsv.out W hW (by omega))
    have hcv:Zay a.natAbs b.natAbs = -1:=by unfold Zay;rw[if_pos hc]
    rw[hcv] at Hcm;have hnb:(decide (a<0)==decide (b<0))=false:=by rw[beq_eq_false_iff_ne];exact hs
    clear Hj1 Hj2 Hj3 Had Hsu Hsv hcv hs hc;generalize itx a=s at *
    generalize itx b=t at *
    generalize dec (a.natAbs+b.natAbs)=pa at *
    generalize dec (a.natAbs-b.natAbs)=ps at *
    generalize dec (b.natAbs-a.natAbs)=pt at *
    generalize dec a.natAbs=sm at *
    generalize dec b.natAbs=tm at *
    generalize decide (a<0)=na at *
    generalize decide (b<0)=nb at *
    go_enter Tryz.func205,Tryz.ntmps205
    go_wp2_with fail
    refine cm_ (Hl1.out w) ?_;rintro e w1 ⟨rfl,hb1⟩;have Hb1:=hd_ hb1;clear hb1 Hl1
    go_wp2_with fail
    refine cm_ (Hsa.out w1) ?_;rintro e w2 ⟨rfl,hb2⟩;have Hb2:=hd_ (Hb1.out.trans (hb2.mono Hb1.out.size));clear hb2 Hb1 Hsa
    go_wp2_with fail
    refine cm_ (Hsb.out w2) ?_;rintro e w3 ⟨rfl,hb3⟩;have Hb3:=hd_ (Hb2.out.trans (hb3.mono Hb2.out.size));clear hb3 Hb2 Hsb
    go_wp2_with fail
    refine cm_ (Hcm.out w3) ?_;rintro e w4 ⟨rfl,hb4⟩;have Hb4:=hd_ (Hb3.out.trans (hb4.mono Hb3.out.size));clear hb4 Hb3 Hcm
    go_wp2_with fail
    refine cm_ (Hss.out w4 Hb4.out) ?_;rintro e w5 ⟨rfl,hb5⟩;have Hb5:=hd_ (Hb4.out.trans (hb5.mono Hb4.out.size));clear hb5 Hb4 Hss
    go_wp2_with fail
    refine cm_ (Hj.out w5) ?_;rintro e w6 ⟨rfl,hb6⟩;have Hb6:=hd_ (Hb5.out.trans (hb6.mono Hb5.out.size));clear hb6 Hb5 Hj;go_wp2;go_ret;exact⟨rfl,Hb6.out⟩
   ·have Hj:=hd_ (Hj2.out hs hc);have Hss:=hd_ (fun W hW=>Hsu.out W hW hc)
    have hcn:¬ Zay a.natAbs b.natAbs<0:=by unfold Zay;rw[if_neg hc];split<;>omega
    have hnb:(decide (a<0)==decide (b<0))=false:=by rw[beq_eq_false_iff_ne];exact hs
    clear Hj1 Hj2 Hj3 Had Hsu Hsv hs hc;generalize Zay a.natAbs b.natAbs=cn at *
    generalize itx a=s at *
    generalize itx b=t at *
    generalize dec (a.natAbs+b.natAbs)=pa at *
    generalize dec (a.natAbs-b.natAbs)=ps at *
    generalize dec (b.natAbs-a.natAbs)=pt at *
    generalize dec a.natAbs=sm at *
    generalize dec b.natAbs=tm at *
    generalize decide (a<0)=na at *
    generalize decide (b<0)=nb at *
    go_enter Tryz.func205,Tryz.ntmps205
    go_wp2_with fail
    refine cm_ (Hl1.out w) ?_;rintro e w1 ⟨rfl,hb1⟩;have Hb1:=hd_ hb1;clear hb1 Hl1
    go_wp2_with fail
    refine cm_ (Hsa.out w1) ?_;rintro e w2 ⟨rfl,hb2⟩;have Hb2:=hd_ (Hb1.out.trans (hb2.mono Hb1.out.size));clear hb2 Hb1 Hsa
    go_wp2_with fail
    refine cm_ (Hsb.out w2) ?_;rintro e w3 ⟨rfl,hb3⟩;have Hb3:=hd_ (Hb2.out.trans (hb3.mono Hb2.out.size));clear hb3 Hb2 Hsb
    go_wp2_with fail
    refine cm_ (Hcm.out w3) ?_;rintro e w4 ⟨rfl,hb4⟩;have Hb4:=hd_ (Hb3.out.trans (hb4.mono Hb3.out.size));clear hb4 Hb3 Hcm
    go_wp2_with fail
    refine cm_ (Hss.out w4 Hb4.out) ?_;rintro e w5 ⟨rfl,hb5⟩;have Hb5:=hd_ (Hb4.out.trans (hb5.mono Hb4.out.size));clear hb5 Hb4 Hss
    go_wp2_with fail
    refine cm_ (Hj.out w5) ?_;rintro e w6 ⟨rfl,hb6⟩;have Hb6:=hd_ (Hb5.out.trans (hb6.mono Hb5.out.size));clear hb6 Hb5 Hj;go_wp2;go_ret;exact⟨rfl,Hb6.out⟩
theorem Zmd(n:Nat):Zcm (lb (dec n)):=by rw[Za7];exact Ztt n
theorem Zfn(w:World)(z:Int)(hz:Zdf z):
  Kc Tryz.prog 218 #[.string (itx z)] w (.int .i64 (if (dec z.natAbs).size≤400 then 0 else 2)):=by
 unfold Kc;have Hs:=hd_ (Vv w z);have Hc:=hd_ (fun W=>Zma W (dec z.natAbs) (Nat.le_trans hz (by decide)))
 have hzz:=Yo z.natAbs;have hcan:=Zmd z.natAbs
 by_cases h4:(dec z.natAbs).size≤400
 ·rw[if_pos ⟨hcan,h4⟩] at Hc;rw[if_pos h4];clear hcan h4
  by_cases hn:z<0
  ·rw[decide_eq_true hn] at Hs;rw[decide_eq_false (show ¬ z.natAbs=0 by omega)] at hzz
   clear hn;generalize itx z=s at *
   generalize dec z.natAbs=t at *
   go_enter Tryz.func218,Tryz.ntmps218
   go_wp2_with fail
   refine cm_ (Hs.out) ?_;rintro e w1 ⟨rfl,hb1⟩;have Hb1:=hd_ hb1;clear hb1 Hs
   go_wp2_with fail
   refine cm_ (Hc.out w1) ?_;rintro e w2 ⟨rfl,hb2⟩;have Hb2:=hd_ (Hb1.out.trans (hb2.mono Hb1.out.size));clear hb2 Hb1 Hc;go_wp2;go_ret;exact⟨rfl,Hb2.out⟩
  ·rw[decide_eq_false hn] at Hs;clear hn hzz;generalize itx z=s at *
   generalize dec z.natAbs=t at *
   go_enter Tryz.func218,Tryz.ntmps218
   go_wp2_with fail
   refine cm_ (Hs.out) ?_;rintro e w1 ⟨rfl,hb1⟩;have Hb1:=hd_ hb1;clear hb1 Hs
   go_wp2_with fail
   refine cm_ (Hc.out w1) ?_;rintro e w2 ⟨rfl,hb2⟩;have Hb2:=hd_ (Hb1.out.trans (hb2.mono Hb1.out.size));clear hb2 Hb1 Hc;go_wp2;go_ret;exact⟨rfl,Hb2.out⟩
 ·rw[if_neg (fun h=>h4 h.2)] at Hc
  rw[if_neg h4];clear hcan h4
  by_cases hn:z<0
  ·rw[decide_eq_true hn] at Hs;rw[decide_eq_false (show ¬ z.natAbs=0 by omega)] at hzz
   clear hn;generalize itx z=s at *
   generalize dec z.natAbs=t at *
   go_enter Tryz.func218,Tryz.ntmps218
   go_wp2_with fail
   refine cm_ (Hs.out) ?_;rintro e w1 ⟨rfl,hb1⟩;have Hb1:=hd_ hb1;clear hb1 Hs
   go_wp2_with fail
   refine cm_ (Hc.out w1) ?_;rintro e w2 ⟨rfl,hb2⟩;have Hb2:=hd_ (Hb1.out.trans (hb2.mono Hb1.out.size));clear hb2 Hb1 Hc;go_wp2;go_ret;exact⟨rfl,Hb2.out⟩
  ·rw[decide_eq_false hn] at Hs;clear hn hzz;generalize itx z=s at *
   generalize dec z.natAbs=t at *
   go_enter Tryz.func218,Tryz.ntmps218
   go_wp2_with fail
   refine cm_ (Hs.out) ?_;rintro e w1 ⟨rfl,hb1⟩;have Hb1:=hd_ hb1;clear hb1 Hs
   go_wp2_with fail
   refine cm_ (Hc.out w1) ?_;rintro e w2 ⟨rfl,hb2⟩;have Hb2:=hd_ (Hb1.out.trans (hb2.mono Hb1.out.size));clear hb2 Hb1 Hc;go_wp2;go_ret;exact⟨rfl,Hb2.out⟩
theorem Zvw(w:World)(a b:Nat)(ha:a<9223372036854775808)(hb:b<9223372036854775808):
  Kc Tryz.prog 271 #[.int .i64 a,.int .i64 b] w (.int .i64 (Nat.gcd a b:Nat)):=by
 unfold Kc;go_enter Tryz.func271,Tryz.ntmps271
 go_wp2_with fail
 go_loopw [0,1] (fun p q wr=>∃ x y:Nat,x<9223372036854775808∧y<9223372036854775808∧p = .int .i64 x∧q = .int .i64 y∧Hid (Nat.gcd x y=Nat.gcd a b)∧Hid (Below w.heap.size w wr)) (fun _ q _=>(intOf q).toNat)
 case atStart=>exact⟨a,b,ha,hb,rfl,rfl,rfl,Below.refl _ _⟩
 case round =>
  obtain⟨x,y,hx,hy,rfl,rfl,Hg,Hb⟩:=hrel
  by_cases h0:y=0
  ·have Hv:Hid (x=Nat.gcd a b):=by
    show _=_
    rw[← Hg.out,h0,Nat.gcd_zero_right]
   subst h0;go_wp2;go_ret;exact⟨by rw[← Hv.out];rfl,Hb.out⟩
  ·have hyz:((y:Int)==0)=false:=by rw[beq_eq_false_iff_ne];omega
   have htm:Int.tmod (x:Int) (y:Int)=((x%y:Nat):Int):=by rw[← Int.ofNat_tmod]
   have hlt:x%y<y:=Nat.mod_lt _ (by omega)
   have hwr:IntKind.i64.wrap ((x%y:Nat):Int)=((x%y:Nat):Int):=iw_ _ (by omega)
   have Hg2:Hid (Nat.gcd y (x%y)=Nat.gcd a b):=(Zj8 x y).trans Hg.out;have hyi:¬ (y:Int)=0:=by omega
   clear h0;generalize x%y=r at *
   go_wp2_with fail
   go_quiet (fail)
   go_wp2
   go_roundw
   case rel=>exact⟨y,r,hy,by omega,rfl,rfl,Hg2,Vc Hb.out _⟩
   case measure=>simp[intOf];omega
theorem Zdp(w:World)(n:Nat)(hn:Num n)(most:Nat)(hm:most≤18):
  Kc Tryz.prog 54 #[.string (dec n),.int .i64 most] w (if (dec n).size≤most then .tuple #[.int .i64 n,.bool true] else .tuple #[.int .i64 0,.bool false]):=by
 have:=Zi w (n:Int) (by show Num _;exact hn) most hm
 rw[Ki] at this;exact this
theorem Zox(w:World)(a b:Int)(ha:Zdf a)(hb:Zdf b)(L:Qx w):
  Kc Tryz.prog 219 #[.string (itx a),.string (itx b)] w (.string (dec (Int.gcd a b))):=by
 unfold Kc;have Ha:=hd_ (fun W=>Zhw W a)
 have Hb':=hd_ (fun W=>Zhw W b)
 have Hl1:=hd_ (fun W=>Zdp W a.natAbs ha 18 (by decide))
 have Hl2:=hd_ (fun W=>Zdp W b.natAbs hb 18 (by decide))
 have Hgd:Hid (∀ W,Below w.heap.size w W→Kc Tryz.prog 272 #[.string (dec a.natAbs),.string (dec b.natAbs)] W (.string (dec (Int.gcd a b)))):=fun W hW=>Ztf W a.natAbs b.natAbs ha hb (L.below hW)
 by_cases h1:(dec a.natAbs).size≤18
 ·rw[if_pos h1] at Hl1
  by_cases h2:(dec b.natAbs).size≤18
  ·rw[if_pos h2] at Hl2;have q1:=(Vj a.natAbs).1 h1;have q2:=(Vj b.natAbs).1 h2;have hg:Int.gcd a b<9223372036854775808:=by
    show Nat.gcd a.natAbs b.natAbs<_
    rcases Nat.eq_zero_or_pos a.natAbs with h|h
    ·rw[h,Nat.gcd_zero_left];omega
    ·have:=Nat.gcd_le_left b.natAbs h;omega
   have Hgi:Hid (∀ W,Kc Tryz.prog 271 #[.int .i64 a.natAbs,.int .i64 b.natAbs] W (.int .i64 (Int.gcd a b:Nat))):=fun W=>Zvw W a.natAbs b.natAbs (by omega) (by omega)
   have Hof:Hid (∀ W,Below w.heap.size w W→Kc Tryz.prog 13 #[.int .i64 (Int.gcd a b:Nat)] W (.string (dec (Int.gcd a b)))):=fun W hW=>by
    have:=Zb6 W (Int.gcd a b:Nat) (by omega) (by omega) (L.below hW)
    rw[Ki] at this;exact this
   clear L Hgd hg;generalize itx a=s at *
   generalize itx b=t at *
   generalize dec (Int.gcd a b)=d at *
   generalize dec a.natAbs=sm at *
   generalize dec b.natAbs=tm at *
   generalize Int.gcd a b=g at *
   generalize a.natAbs=x at *
   generalize b.natAbs=y at *
   go_enter Tryz.func219,Tryz.ntmps219
   go_wp2_with fail
   refine cm_ (Ha.out w) ?_;rintro e w1 ⟨rfl,hb1⟩;have Hb1:=hd_ hb1;clear hb1 Ha
   go_wp2_with fail
   refine cm_ (Hb'.out w1) ?_;rintro e w2 ⟨rfl,hb2⟩;have Hb2:=hd_ (Hb1.out.trans (hb2.mono Hb1.out.size));clear hb2 Hb1 Hb'
   go_wp2_with fail
   refine cm_ (Hl1.out w2) ?_;rintro e w3 ⟨rfl,hb3⟩;have Hb3:=hd_ (Hb2.out.trans (hb3.mono Hb2.out.size));clear hb3 Hb2 Hl1
   go_wp2_with fail
   refine cm_ (Hl2.out w3) ?_;rintro e w4 ⟨rfl,hb4⟩;have Hb4:=hd_ (Hb3.out.trans (hb4.mono Hb3.out.size));clear hb4 Hb3 Hl2
   go_wp2_with fail
   refine cm_ (Hgi.out w4) ?_;rintro e w5 ⟨rfl,hb5⟩;have Hb5:=hd_ (Hb4.out.trans (hb5.mono Hb4.out.size));clear hb5 Hb4 Hgi
   go_wp2_with fail
   refine cm_ (Hof.out w5 Hb5.out) ?_;rintro e w6 ⟨rfl,hb6⟩;have Hb6:=hd_ (Hb5.out.trans (hb6.mono Hb5.out.size));clear hb6 Hb5 Hof;go_wp2;go_ret;exact⟨rfl,Hb6.out⟩
  ·rw[if_neg h2] at Hl2;clear L;generalize itx a=s at *
   generalize itx b=t at *
   generalize dec (Int.gcd a b)=d at *
   generalize dec a.natAbs=sm at *
   generalize dec b.natAbs=tm at *
   go_enter Tryz.func219,Tryz.ntmps219
   go_wp2_with fail
   refine cm_ (Ha.out w) ?_;rintro e w1 ⟨rfl,hb1⟩;have Hb1:=hd_ hb1;clear hb1 Ha
   go_wp2_with fail
   refine cm_ (Hb'.out w1) ?_;rintro e w2 ⟨rfl,hb2⟩;have Hb2:=hd_ (Hb1.out.trans (hb2.mono Hb1.out.size));clear hb2 Hb1 Hb'
   go_wp2_with fail
   refine cm_ (Hl1.out w2) ?_;rintro e w3 ⟨rfl,hb3⟩;have Hb3:=hd_ (Hb2.out.trans (hb3.mono Hb2.out.size));clear hb3 Hb2 Hl1
   go_wp2_with fail
   refine cm_ (Hl2.out w3) ?_;rintro e w4 ⟨rfl,hb4⟩;have Hb4:=hd_ (Hb3.out.trans (hb4.mono Hb3.out.size));clear hb4 Hb3 Hl2
   go_wp2_with fail
   refine cm_ (Hgd.out w4 Hb4.out) ?_;rintro e w5 ⟨rfl,hb5⟩;have Hb5:=hd_ (Hb4.out.trans (hb5.mono Hb4.out.size));clear hb5 Hb4 Hgd;go_wp2;go_ret;exact⟨rfl,Hb5.out⟩
 ·rw[if_neg h1] at Hl1;clear L Hl2;generalize itx a=s at *
  generalize itx b=t at *
  generalize dec (Int.gcd a b)=d at *
  generalize dec a.natAbs=sm at *
  generalize dec b.natAbs=tm at *
  go_enter Tryz.func219,Tryz.ntmps219
  go_wp2_with fail
  refine cm_ (Ha.out w) ?_;rintro e w1 ⟨rfl,hb1⟩;have Hb1:=hd_ hb1;clear hb1 Ha
  go_wp2_with fail
  refine cm_ (Hb'.out w1) ?_;rintro e w2 ⟨rfl,hb2⟩;have Hb2:=hd_ (Hb1.out.trans (hb2.mono Hb1.out.size));clear hb2 Hb1 Hb'
  go_wp2_with fail
  refine cm_ (Hl1.out w2) ?_;rintro e w3 ⟨rfl,hb3⟩;have Hb3:=hd_ (Hb2.out.trans (hb3.mono Hb2.out.size));clear hb3 Hb2 Hl1
  go_wp2_with fail
  refine cm_ (Hgd.out w3 Hb3.out) ?_;rintro e w4 ⟨rfl,hb4⟩;have Hb4:=hd_ (Hb3.out.trans (hb4.mono Hb3.out.size));clear hb4 Hb3 Hgd;go_wp2;go_ret;exact⟨rfl,Hb4.out⟩
theorem Zvo(w:World)(a b:Int)(ha:Zdf a)(hb:Zdf b)(L:Qx w):
  Kc Tryz.prog 162 #[.string (itx a),.string (itx b)] w (.string (dec (Int.lcm a b))):=by
 unfold Kc;have Ha:=hd_ (fun W=>Zhw W a)
 have Hb':=hd_ (fun W=>Zhw W b)
 have Hlc:Hid (∀ W,Below w.heap.size w W→Kc Tryz.prog 226 #[.string (dec a.natAbs),.string (dec b.natAbs)] W (.string (dec (Int.lcm a b)))):=fun W hW=>Zx5 W a.natAbs b.natAbs ha hb (L.below hW)
 clear L;generalize itx a=s at *
 generalize itx b=t at *
 generalize dec (Int.lcm a b)=d at *
 generalize dec a.natAbs=sm at *
 generalize dec b.natAbs=tm at *
 go_enter Tryz.func162,Tryz.ntmps162
 go_wp2_with fail
 refine cm_ (Ha.out w) ?_;rintro e w1 ⟨rfl,hb1⟩;have Hb1:=hd_ hb1;clear hb1 Ha
 go_wp2_with fail
 refine cm_ (Hb'.out w1) ?_;rintro e w2 ⟨rfl,hb2⟩;have Hb2:=hd_ (Hb1.out.trans (hb2.mono Hb1.out.size));clear hb2 Hb1 Hb'
 go_wp2_with fail
 refine cm_ (Hlc.out w2 Hb2.out) ?_;rintro e w3 ⟨rfl,hb3⟩;have Hb3:=hd_ (Hb2.out.trans (hb3.mono Hb2.out.size));clear hb3 Hb2 Hlc;go_wp2;go_ret;exact⟨rfl,Hb3.out⟩
def Zo7 (a b:Int):Int:=if a<b then -1 else if a=b then 0 else 1
theorem Zyp(a b:Int)(ha:a<0)(hb:b<0):Zay b.natAbs a.natAbs=Zo7 a b:=by
 unfold Zay Zo7
 by_cases h1:a<b
 ·rw[if_pos h1,if_pos (by omega)]
 ·rw[if_neg h1,if_neg (by omega)]
  by_cases h2:a=b
  ·rw[if_pos h2,if_pos (by omega)]
  ·rw[if_neg h2,if_neg (by omega)]
theorem Zyo(a b:Int)(ha:0≤a)(hb:0≤b):Zay a.natAbs b.natAbs=Zo7 a b:=by
 unfold Zay Zo7
 by_cases h1:a<b
 ·rw[if_pos h1,if_pos (by omega)]
 ·rw[if_neg h1,if_neg (by omega)]
  by_cases h2:a=b
  ·rw[if_pos h2,if_pos (by omega)]
  ·rw[if_neg h2,if_neg (by omega)]
theorem Zal(a:Int):(a<0∧a.sign = -1)∨(a=0∧a.sign=0)∨(0<a∧a.sign=1):=by
 rcases Int.lt_trichotomy a 0 with h|h|h
 ·exact .inl ⟨h,Int.sign_eq_neg_one_of_neg h⟩
 ·subst h;exact .inr (.inl ⟨rfl,rfl⟩)
 ·exact .inr (.inr ⟨h,Int.sign_eq_one_of_pos h⟩)
theorem Zk1(a b:Int)(h:a.sign<b.sign):a<b:=by
 rcases Zal a with⟨h1,e1⟩|⟨h1,e1⟩|⟨h1,e1⟩<;>rcases Zal b with⟨h2,e2⟩|⟨h2,e2⟩|⟨h2,e2⟩<;>omega
theorem Zr4(a b:Int)(h:a.sign=b.sign):(a<0∧b<0)∨(0≤a∧0≤b):=by
 rcases Zal a with⟨h1,e1⟩|⟨h1,e1⟩|⟨h1,e1⟩<;>rcases Zal b with⟨h2,e2⟩|⟨h2,e2⟩|⟨h2,e2⟩<;>omega
theorem Zl3(w:World)(a b:Int)(ha:Zdf a)(hb:Zdf b):
  Kc Tryz.prog 17 #[.string (itx a),.string (itx b)] w (.int .i64 (Zo7 a b)):=by
 unfold Kc;have Hg1:=hd_ (fun W=>Zah W a)
 have Hg2:=hd_ (fun W=>Zah W b)
 have Hsa:=hd_ (fun W=>Vv W a)
 have Hsb:=hd_ (fun W=>Vv W b)
 have ha':(dec a.natAbs).size≤10000000:=Nat.le_trans ha (by decide)
 have hb':(dec b.natAbs).size≤10000000:=Nat.le_trans hb (by decide)
 rcases Int.lt_trichotomy a.sign b.sign with hs|hs|hs
 ·have Hv:Hid (Zo7 a b = -1):=by
   show _=_
   unfold Zo7;rw[if_pos (Zk1 a b hs)]
  have hne:(a.sign != b.sign)=true:=by rw[bne_iff_ne];omega
  rw[Hv.out];clear Hsa Hsb;generalize a.sign=x at *
  generalize b.sign=y at *
  generalize itx a=s at *
  generalize itx b=t at *
  go_enter Tryz.func17,Tryz.ntmps17
  go_wp2_with fail
  refine cm_ (Hg1.out w) ?_;rintro e w1 ⟨rfl,hb1⟩;have Hb1:=hd_ hb1;clear hb1
  go_wp2_with fail
  refine cm_ (Hg2.out w1) ?_;rintro e w2 ⟨rfl,hb2⟩;have Hb2:=hd_ (Hb1.out.trans (hb2.mono Hb1.out.size));clear hb2 Hb1;go_wp2;go_ret;exact⟨rfl,Hb2.out⟩
 ·rcases Zr4 a b hs with⟨h1,h2⟩ | ⟨h1,h2⟩
  ·have Hcm:=hd_ (fun W=>Zba W b.natAbs a.natAbs hb' ha')
   rw[Zyp a b h1 h2] at Hcm;rw[decide_eq_true h1] at Hsa;have hne:(b.sign != b.sign)=false:=by simp
   rw[hs] at Hg1;clear hs h1 h2 ha' hb';generalize Zo7 a b=c at *
   generalize b.sign=y at *
   generalize itx a=s at *
   generalize itx b=t at *
   generalize dec a.natAbs=sm at *
   generalize dec b.natAbs=tm at *
   go_enter Tryz.func17,Tryz.ntmps17
   go_wp2_with fail
   refine cm_ (Hg1.out w) ?_;rintro e w1 ⟨rfl,hb1⟩;have Hb1:=hd_ hb1;clear hb1
   go_wp2_with fail
   refine cm_ (Hg2.out w1) ?_;rintro e w2 ⟨rfl,hb2⟩;have Hb2:=hd_ (Hb1.out.trans (hb2.mono Hb1.out.size));clear hb2 Hb1
   go_wp2_with fail
   refine cm_ (Hsa.out w2) ?_;rintro e w3 ⟨rfl,hb3⟩;have Hb3:=hd_ (Hb2.out.trans (hb3.mono Hb2.out.size));clear hb3 Hb2
   go_wp2_with fail
   refine cm_ (Hsb.out w3) ?_;rintro e w4 ⟨rfl,hb4⟩;have Hb4:=hd_ (Hb3.out.trans (hb4.mono Hb3.out.size));clear hb4 Hb3
   go_wp2_with fail
   refine cm_ (Hcm.out w4) ?_;rintro e w5 ⟨rfl,hb5⟩;have Hb5:=hd_ (Hb4.out.trans (hb5.mono Hb4.out.size));clear hb5 Hb4;go_wp2;go_ret;exact⟨rfl,Hb5.out⟩
  ·have Hcm:=hd_ (fun W=>Zba W a.natAbs b.natAbs ha' hb')
   rw[Zyo a b h1 h2] at Hcm;rw[decide_eq_false (show ¬ a<0 by omega)] at Hsa
   have hne:(b.sign != b.sign)=false:=by simp
   rw[hs] at Hg1;clear hs h1 h2 ha' hb';generalize Zo7 a b=c at *
   generalize b.sign=y at *
   generalize itx a=s at *
   generalize itx b=t at *
   generalize dec a.natAbs=sm at *
   generalize dec b.natAbs=tm at *
   go_enter Tryz.func17,Tryz.ntmps17
   go_wp2_with fail
   refine cm_ (Hg1.out w) ?_;rintro e w1 ⟨rfl,hb1⟩;have Hb1:=hd_ hb1;clear hb1
   go_wp2_with fail
   refine cm_ (Hg2.out w1) ?_;rintro e w2 ⟨rfl,hb2⟩;have Hb2:=hd_ (Hb1.out.trans (hb2.mono Hb1.out.size));clear hb2 Hb1
   go_wp2_with fail
   refine cm_ (Hsa.out w2) ?_;rintro e w3 ⟨rfl,hb3⟩;have Hb3:=hd_ (Hb2.out.trans (hb3.mono Hb2.out.size));clear hb3 Hb2
   go_wp2_with fail
   refine cm_ (Hsb.out w3) ?_;rintro e w4 ⟨rfl,hb4⟩;have Hb4:=hd_ (Hb3.out.trans (hb4.mono Hb3.out.size));clear hb4 Hb3
   go_wp2_with fail
   refine cm_ (Hcm.out w4) ?_;rintro e w5 ⟨rfl,hb5⟩;have Hb5:=hd_ (Hb4.out.trans (hb5.mono Hb4.out.size));clear hb5 Hb4;go_wp2;go_ret;exact⟨rfl,Hb5.out⟩
 ·have Hv:Hid (Zo7 a b=1):=by
   show _=_
   have:=Zk1 b a hs
   unfold Zo7;rw[if_neg (by omega),if_neg (by omega)]
  have hne:(a.sign != b.sign)=true:=by rw[bne_iff_ne];omega
  rw[Hv.out];clear Hsa Hsb;generalize a.sign=x at *
  generalize b.sign=y at *
  generalize itx a=s at *
  generalize itx b=t at *
  go_enter Tryz.func17,Tryz.ntmps17
  go_wp2_with fail
  refine cm_ (Hg1.out w) ?_;rintro e w1 ⟨rfl,hb1⟩;have Hb1:=hd_ hb1;clear hb1
  go_wp2_with fail
  refine cm_ (Hg2.out w1) ?_;rintro e w2 ⟨rfl,hb2⟩;have Hb2:=hd_ (Hb1.out.trans (hb2.mono Hb1.out.size));clear hb2 Hb1;go_wp2;go_ret;exact⟨rfl,Hb2.out⟩
theorem Zkb(n b:Nat):(n:Int)/(b:Int)=((n/b:Nat):Int)∧(n:Int)%(b:Int)=((n%b:Nat):Int):=⟨rfl,rfl⟩
theorem Zbf(n b:Nat)(hb:0<b)(h:n%b=0): -(n:Int)/(b:Int) = -((n/b:Nat):Int) ∧ -(n:Int)%(b:Int)=0:=by
 rw[Int.ediv_emod_unique (by omega)]
 have h1:=Nat.div_add_mod n b;rw[h] at h1;have h2:((b*(n/b)+0:Nat):Int)=(n:Int):=congrArg Nat.cast h1;rw[Nat.add_zero,Int.natCast_mul] at h2;refine⟨?_,by omega,by omega⟩
 rw[Int.mul_neg,h2];omega
theorem Zca(n b:Nat)(hb:0<b)(h:n%b≠0): -(n:Int)/(b:Int) = -((n/b:Nat):Int)-1 ∧ -(n:Int)%(b:Int)=(b:Int)-((n%b:Nat):Int):=by
 rw[Int.ediv_emod_unique (by omega)]
 have h1:=Nat.div_add_mod n b;have h3:=Nat.mod_lt n hb;have h2:((b*(n/b)+n%b:Nat):Int)=(n:Int):=congrArg Nat.cast h1;rw[Int.natCast_add,Int.natCast_mul] at h2;refine⟨?_,by omega,by omega⟩
 rw[Int.mul_sub,Int.mul_neg,Int.mul_one];omega
theorem Zcc(w:World)(a:Int)(b:Nat)(ha:Zdf a)(hb:Num b)(hb0:0<b)(hab:Num (a.natAbs+1))(L:Qx w):
  Kc Tryz.prog 163 #[.string (itx a),.string (dec b)] w (.tuple #[.string (itx (a/(b:Int))),.string (itx (a%(b:Int))),.int .i64 0]):=by
 unfold Kc;have hz:=Yo b;rw[decide_eq_false (show ¬ b=0 by omega)] at hz
 have Hl1:=hd_ (fun W=>Zi W a ha 18 (by decide))
 have Hl2:=hd_ (fun W=>Zdp W b hb 18 (by decide))
 have HL:=hd_ L;have Hsa:=hd_ (fun W=>Vv W a)
 have Hsb:Hid (∀ W,Kc Tryz.prog 50 #[.string (dec b)] W (.tuple #[.bool false,.string (dec b)])):=fun W=>by
  have:=Vv W (b:Int)
  rw[Ki,decide_eq_false (show ¬ (b:Int)<0 by omega)] at this
  exact this
 have Hdm:Hid (∀ W,Below w.heap.size w W→Kc Tryz.prog 227 #[.string (dec a.natAbs),.string (dec b)] W (.tuple #[.string (dec (a.natAbs/b)),.string (dec (a.natAbs%b)),.int .i64 0])):=fun W hW=>by
  have:=Zfh W a.natAbs b ha hb (HL.out.below hW)
  rw[if_neg (show ¬ b=0 by omega)] at this
  exact this
 have big:∀ (P:Prop),((∀ W,Kc Tryz.prog 54 #[.string (itx a),.int .i64 18] W (.tuple #[.int .i64 0,.bool false]))→P)→(((itx a).size≤18∧¬ (dec b).size≤18)→P)→(((itx a).size≤18∧(dec b).size≤18)→P)→P:=fun P h1 h2 h3=>by
  by_cases q1:(itx a).size≤18
  ·by_cases q2:(dec b).size≤18
   ·exact h3 ⟨q1,q2⟩
   ·exact h2 ⟨q1,q2⟩
  ·rw[if_neg q1] at Hl1;exact h1 Hl1.out
 clear L;refine big _ (fun hl1=>?_) (fun hl=>?_) (fun hl=>?_)
 ·have Hl:=hd_ hl1;clear hl1 Hl1 Hl2 big
  by_cases hn:a<0
  ·rw[decide_eq_true hn] at Hsa;obtain⟨n,rfl⟩:∃ n:Nat,a = -(n:Int):=⟨a.natAbs,by omega⟩
   have hN:Num n:=by
    have h:Num (-(n:Int)).natAbs:=ha;rw[show (-(n:Int)).natAbs=n by omega] at h
    exact h
   rw[show (-(n:Int)).natAbs=n by omega] at *
   by_cases hr:n%b=0
   ·obtain⟨e1,e2⟩:=Zbf n b hb0 hr;rw[e1,e2];have hzr:=Yo (n%b);rw[decide_eq_true hr] at hzr;have Hj1:=hd_ (fun W=>Vi W true (n/b) (Num.le hN (Nat.div_le_self _ _)))
    have Hj2:=hd_ (fun W=>Vi W false (n%b) (Num.le hN (Nat.mod_le _ _)))
    rw[show jz true (n/b) = -((n/b:Nat):Int) from rfl] at Hj1
    rw[show jz false (n%b)=((n%b:Nat):Int) from rfl,hr,show ((0:Nat):Int)=0 from rfl] at Hj2
    rw[hr] at hzr Hdm;clear e1 e2 hr hn;generalize itx (-((n/b:Nat):Int))=r1 at *
    generalize itx 0=r2 at *
    generalize itx (-(n:Int))=s at *
    generalize dec (n/b)=qd at *
    generalize dec 0=rd at *
    generalize dec n=sm at *
    generalize dec b=tm at *
    go_enter Tryz.func163,Tryz.ntmps163
    go_wp2_with fail
    refine cm_ (Hl.out w) ?_;rintro e w1 ⟨rfl,hb1⟩;have Hb1:=hd_ hb1;clear hb1 Hl
    go_wp2_with fail
    refine cm_ (Hsa.out w1) ?_;rintro e w2 ⟨rfl,hb2⟩;have Hb2:=hd_ (Hb1.out.trans (hb2.mono Hb1.out.size));clear hb2 Hb1 Hsa
    go_wp2_with fail
    refine cm_ (Hsb.out w2) ?_;rintro e w3 ⟨rfl,hb3⟩;have Hb3:=hd_ (Hb2.out.trans (hb3.mono Hb2.out.size));clear hb3 Hb2 Hsb
    go_wp2_with fail
    refine cm_ (Hdm.out w3 Hb3.out) ?_;rintro e w4 ⟨rfl,hb4⟩;have Hb4:=hd_ (Hb3.out.trans (hb4.mono Hb3.out.size));clear hb4 Hb3 Hdm
    go_wp2_with fail
    refine cm_ (Hj1.out w4) ?_;rintro e w5 ⟨rfl,hb5⟩;have Hb5:=hd_ (Hb4.out.trans (hb5.mono Hb4.out.size));clear hb5 Hb4 Hj1
    go_wp2_with fail
    refine cm_ (Hj2.out w5) ?_;rintro e w6 ⟨rfl,hb6⟩;have Hb6:=hd_ (Hb5.out.trans (hb6.mono Hb5.out.size));clear hb6 Hb5 Hj2;go_wp2
    go_ret3
    exact⟨rfl,Hb6.out⟩
   ·obtain⟨e1,e2⟩:=Zca n b hb0 hr;have hml:=Nat.mod_lt n hb0;have e3 : -((n/b:Nat):Int)-1 = -((n/b+1:Nat):Int):=by omega
    have e4:(b:Int)-((n%b:Nat):Int)=((b-n%b:Nat):Int):=by omega
    rw[e1,e2,e3,e4];have hzr:=Yo (n%b);rw[decide_eq_false hr] at hzr;have hn1:Num (n/b+1):=Num.le hab (Nat.succ_le_succ (Nat.div_le_self _ _));have Had:Hid (∀ W,Below w.heap.size w W→Kc Tryz.prog 228 #[.string (dec (n/b)),.string ⟨#[49]⟩] W (.string (dec (n/b+1)))):=fun W hW=>by
     have:=Zn1 W (n/b) 1 (Num.le hN (Nat.div_le_self _ _)) (Num.le hab (by omega)) (HL.out.below hW)
     rw[Zcf] at this;exact this
    have Hsu:Hid (∀ W,Below w.heap.size w W→Kc Tryz.prog 229 #[.string (dec b),.string (dec (n%b))] W (.tuple #[.string (dec (b-n%b)),.int .i64 0])):=fun W hW=>by
     have:=Zjl W b (n%b) hb (Num.le hN (Nat.mod_le _ _)) (HL.out.below hW)
     rw[if_neg (by omega)] at this
     exact this
    have Hj1:=hd_ (fun W=>Vi W true (n/b+1) hn1)
    have Hj2:=hd_ (fun W=>Vi W false (b-n%b) (Num.le hb (Nat.sub_le _ _)))
    rw[show jz true (n/b+1) = -((n/b+1:Nat):Int) from rfl] at Hj1
    rw[show jz false (b-n%b)=((b-n%b:Nat):Int) from rfl] at Hj2
    clear e1 e2 e3 e4 hr hn hml;generalize itx (-((n/b+1:Nat):Int))=r1 at *
    generalize itx ((b-n%b:Nat):Int)=r2 at *
    generalize itx (-(n:Int))=s at *
    generalize dec (n/b+1)=qe at *
    generalize dec (b-n%b)=re at *
    generalize dec (n/b)=qd at *
    generalize dec (n%b)=rd at *
    generalize dec n=sm at *
    generalize dec b=tm at *
    go_enter Tryz.func163,Tryz.ntmps163
    go_wp2_with fail
    refine cm_ (Hl.out w) ?_;rintro e w1 ⟨rfl,hb1⟩;have Hb1:=hd_ hb1;clear hb1 Hl
    go_wp2_with fail
    refine cm_ (Hsa.out w1) ?_;rintro e w2 ⟨rfl,hb2⟩;have Hb2:=hd_ (Hb1.out.trans (hb2.mono Hb1.out.size));clear hb2 Hb1 Hsa
    go_wp2_with fail
    refine cm_ (Hsb.out w2) ?_;rintro e w3 ⟨rfl,hb3⟩;have Hb3:=hd_ (Hb2.out.trans (hb3.mono Hb2.out.size));clear hb3 Hb2 Hsb
    go_wp2_with fail
    refine cm_ (Hdm.out w3 Hb3.out) ?_;rintro e w4 ⟨rfl,hb4⟩;have Hb4:=hd_ (Hb3.out.trans (hb4.mono Hb3.out.size));clear hb4 Hb3 Hdm
    go_wp2_with fail
    refine cm_ (Had.out w4 Hb4.out) ?_;rintro e w5 ⟨rfl,hb5⟩;have Hb5:=hd_ (Hb4.out.trans (hb5.mono Hb4.out.size));clear hb5 Hb4 Had
    go_wp2_with fail
    refine cm_ (Hsu.out w5 Hb5.out) ?_;rintro e w6 ⟨rfl,hb6⟩;have Hb6:=hd_ (Hb5.out.trans (hb6.mono Hb5.out.size));clear hb6 Hb5 Hsu
    go_wp2_with fail
    refine cm_ (Hj1.out w6) ?_;rintro e w7 ⟨rfl,hb7⟩;have Hb7:=hd_ (Hb6.out.trans (hb7.mono Hb6.out.size));clear hb7 Hb6 Hj1
    go_wp2_with fail
    refine cm_ (Hj2.out w7) ?_;rintro e w8 ⟨rfl,hb8⟩;have Hb8:=hd_ (Hb7.out.trans (hb8.mono Hb7.out.size));clear hb8 Hb7 Hj2;go_wp2
    go_ret3
    exact⟨rfl,Hb8.out⟩
  ·rw[decide_eq_false hn] at Hsa;obtain⟨n,rfl⟩:∃ n:Nat,a=(n:Int):=⟨a.natAbs,by omega⟩
   have hN:Num n:=ha;rw[show ((n:Int)).natAbs=n by omega] at *
   have Hj1:=hd_ (fun W=>Vi W false (n/b) (Num.le hN (Nat.div_le_self _ _)))
   have Hj2:=hd_ (fun W=>Vi W false (n%b) (Num.le hN (Nat.mod_le _ _)))
   rw[show jz false (n/b)=(n:Int)/(b:Int) from rfl] at Hj1
   rw[show jz false (n%b)=(n:Int)%(b:Int) from rfl] at Hj2
   clear hn;generalize itx ((n:Int)/(b:Int))=r1 at *
   generalize itx ((n:Int)%(b:Int))=r2 at *
   generalize itx (n:Int)=s at *
   generalize dec (n/b)=qd at *
   generalize dec (n%b)=rd at *
   generalize dec n=sm at *
   generalize dec b=tm at *
   go_enter Tryz.func163,Tryz.ntmps163
   go_wp2_with fail
   refine cm_ (Hl.out w) ?_;rintro e w1 ⟨rfl,hb1⟩;have Hb1:=hd_ hb1;clear hb1 Hl
   go_wp2_with fail
   refine cm_ (Hsa.out w1) ?_;rintro e w2 ⟨rfl,hb2⟩;have Hb2:=hd_ (Hb1.out.trans (hb2.mono Hb1.out.size));clear hb2 Hb1 Hsa
   go_wp2_with fail
   refine cm_ (Hsb.out w2) ?_;rintro e w3 ⟨rfl,hb3⟩;have Hb3:=hd_ (Hb2.out.trans (hb3.mono Hb2.out.size));clear hb3 Hb2 Hsb
   go_wp2_with fail
   refine cm_ (Hdm.out w3 Hb3.out) ?_;rintro e w4 ⟨rfl,hb4⟩;have Hb4:=hd_ (Hb3.out.trans (hb4.mono Hb3.out.size));clear hb4 Hb3 Hdm
   go_wp2_with fail
   refine cm_ (Hj1.out w4) ?_;rintro e w5 ⟨rfl,hb5⟩;have Hb5:=hd_ (Hb4.out.trans (hb5.mono Hb4.out.size));clear hb5 Hb4 Hj1
   go_wp2_with fail
   refine cm_ (Hj2.out w5) ?_;rintro e w6 ⟨rfl,hb6⟩;have Hb6:=hd_ (Hb5.out.trans (hb6.mono Hb5.out.size));clear hb6 Hb5 Hj2;go_wp2
   go_ret3
   exact⟨rfl,Hb6.out⟩
 ·rw[if_pos hl.1] at Hl1;rw[if_neg hl.2] at Hl2;clear hl big
  by_cases hn:a<0
  ·rw[decide_eq_true hn] at Hsa;obtain⟨n,rfl⟩:∃ n:Nat,a = -(n:Int):=⟨a.natAbs,by omega⟩
   have hN:Num n:=by
    have h:Num (-(n:Int)).natAbs:=ha;rw[show (-(n:Int)).natAbs=n by omega] at h
    exact h
   rw[show (-(n:Int)).natAbs=n by omega] at *
   by_cases hr:n%b=0
   ·obtain⟨e1,e2⟩:=Zbf n b hb0 hr;rw[e1,e2];have hzr:=Yo (n%b);rw[decide_eq_true hr] at hzr;have Hj1:=hd_ (fun W=>Vi W true (n/b) (Num.le hN (Nat.div_le_self _ _)))
    have Hj2:=hd_ (fun W=>Vi W false (n%b) (Num.le hN (Nat.mod_le _ _)))
    rw[show jz true (n/b) = -((n/b:Nat):Int) from rfl] at Hj1
    rw[show jz false (n%b)=((n%b:Nat):Int) from rfl,hr,show ((0:Nat):Int)=0 from rfl] at Hj2
    rw[hr] at hzr Hdm;clear e1 e2 hr hn;generalize itx (-((n/b:Nat):Int))=r1 at *
    generalize itx 0=r2 at *
    generalize itx (-(n:Int))=s at *
    generalize dec (n/b)=qd at *
    generalize dec 0=rd at *
    generalize dec n=sm at *
    generalize dec b=tm at *
    go_enter Tryz.func163,Tryz.ntmps163
    go_wp2_with fail
    refine cm_ (Hl1.out w) ?_;rintro e w1 ⟨rfl,hb1⟩;have Hb1:=hd_ hb1;clear hb1 Hl1
    go_wp2_with fail
    refine cm_ (Hl2.out w1) ?_;rintro e w2 ⟨rfl,hb2⟩;have Hb2:=hd_ (Hb1.out.trans (hb2.mono Hb1.out.size));clear hb2 Hb1 Hl2
    go_wp2_with fail
    refine cm_ (Hsa.out w2) ?_;rintro e w3 ⟨rfl,hb3⟩;have Hb3:=hd_ (Hb2.out.trans (hb3.mono Hb2.out.size));clear hb3 Hb2 Hsa
    go_wp2_with fail
    refine cm_ (Hsb.out w3) ?_;rintro e w4 ⟨rfl,hb4⟩;have Hb4:=hd_ (Hb3.out.trans (hb4.mono Hb3.out.size));clear hb4 Hb3 Hsb
    go_wp2_with fail
    refine cm_ (Hdm.out w4 Hb4.out) ?_;rintro e w5 ⟨rfl,hb5⟩;have Hb5:=hd_ (Hb4.out.trans (hb5.mono Hb4.out.size));clear hb5 Hb4 Hdm
    go_wp2_with fail
    refine cm_ (Hj1.out w5) ?_;rintro e w6 ⟨rfl,hb6⟩;have Hb6:=hd_ (Hb5.out.trans (hb6.mono Hb5.out.size));clear hb6 Hb5 Hj1
    go_wp2_with fail
    refine cm_ (Hj2.out w6) ?_;rintro e w7 ⟨rfl,hb7⟩;have Hb7:=hd_ (Hb6.out.trans (hb7.mono Hb6.out.size));clear hb7 Hb6 Hj2;go_wp2
    go_ret3
    exact⟨rfl,Hb7.out⟩
   ·obtain⟨e1,e2⟩:=Zca n b hb0 hr;have hml:=Nat.mod_lt n hb0;have e3 : -((n/b:Nat):Int)-1 = -((n/b+1:Nat):Int):=by omega
    have e4:(b:Int)-((n%b:Nat):Int)=((b-n%b:Nat):Int):=by omega
    rw[e1,e2,e3,e4];have hzr:=Yo (n%b);rw[decide_eq_false hr] at hzr;have hn1:Num (n/b+1):=Num.le hab (Nat.succ_le_succ (Nat.div_le_self _ _));have Had:Hid (∀ W,Below w.heap.size w W→Kc Tryz.prog 228 #[.string (dec (n/b)),.string ⟨#[49]⟩] W (.string (dec (n/b+1)))):=fun W hW=>by
     have:=Zn1 W (n/b) 1 (Num.le hN (Nat.div_le_self _ _)) (Num.le hab (by omega)) (HL.out.below hW)
     rw[Zcf] at this;exact this
    have Hsu:Hid (∀ W,Below w.heap.size w W→Kc Tryz.prog 229 #[.string (dec b),.string (dec (n%b))] W (.tuple #[.string (dec (b-n%b)),.int .i64 0])):=fun W hW=>by
     have:=Zjl W b (n%b) hb (Num.le hN (Nat.mod_le _ _)) (HL.out.below hW)
     rw[if_neg (by omega)] at this
     exact this
    have Hj1:=hd_ (fun W=>Vi W true (n/b+1) hn1)
    have Hj2:=hd_ (fun W=>Vi W false (b-n%b) (Num.le hb (Nat.sub_le _ _)))
    rw[show jz true (n/b+1) = -((n/b+1:Nat):Int) from rfl] at Hj1
    rw[show jz false (b-n%b)=((b-n%b:Nat):Int) from rfl] at Hj2
    clear e1 e2 e3 e4 hr hn hml;generalize itx (-((n/b+1:Nat):Int))=r1 at *
    generalize itx ((b-n%b:Nat):Int)=r2 at *
    generalize itx (-(n:Int))=s at *
    generalize dec (n/b+1)=qe at *
    generalize dec (b-n%b)=re at *
    generalize dec (n/b)=qd at *
    generalize dec (n%b)=rd at *
    generalize dec n=sm at *
    generalize dec b=tm at *
    go_enter Tryz.func163,Tryz.ntmps163
    go_wp2_with fail
    refine cm_ (Hl1.out w) ?_;rintro e w1 ⟨rfl,hb1⟩;have Hb1:=hd_ hb1;clear hb1 Hl1
    go_wp2_with fail
    refine cm_ (Hl2.out w1) ?_;rintro e w2 ⟨rfl,hb2⟩;have Hb2:=hd_ (Hb1.out.trans (hb2.mono Hb1.out.size));clear hb2 Hb1 Hl2
    go_wp2_with fail
    refine cm_ (Hsa.out w2) ?_;rintro e w3 ⟨rfl,hb3⟩;have Hb3:=hd_ (Hb2.out.trans (hb3.mono Hb2.out.size));clear hb3 Hb2 Hsa
    go_wp2_with fail
    refine cm_ (Hsb.out w3) ?_;rintro e w4 ⟨rfl,hb4⟩;have Hb4:=hd_ (Hb3.out.trans (hb4.mono Hb3.out.size));clear hb4 Hb3 Hsb
    go_wp2_with fail
    refine cm_ (Hdm.out w4 Hb4.out) ?_;rintro e w5 ⟨rfl,hb5⟩;have Hb5:=hd_ (Hb4.out.trans (hb5.mono Hb4.out.size));clear hb5 Hb4 Hdm
    go_wp2_with fail
    refine cm_ (Had.out w5 Hb5.out) ?_;rintro e w6 ⟨rfl,hb6⟩;have Hb6:=hd_ (Hb5.out.trans (hb6.mono Hb5.out.size));clear hb6 Hb5 Had
    go_wp2_with fail
    refine cm_ (Hsu.out w6 Hb6.out) ?_;rintro e w7 ⟨rfl,hb7⟩;have Hb7:=hd_ (Hb6.out.trans (hb7.mono Hb6.out.size));clear hb7 Hb6 Hsu
    go_wp2_with fail
    refine cm_ (Hj1.out w7) ?_;rintro e w8 ⟨rfl,hb8⟩;have Hb8:=hd_ (Hb7.out.trans (hb8.mono Hb7.out.size));clear hb8 Hb7 Hj1
    go_wp2_with fail
    refine cm_ (Hj2.out w8) ?_;rintro e w9 ⟨rfl,hb9⟩;have Hb9:=hd_ (Hb8.out.trans (hb9.mono Hb8.out.size));clear hb9 Hb8 Hj2;go_wp2
    go_ret3
    exact⟨rfl,Hb9.out⟩
  ·rw[decide_eq_false hn] at Hsa;obtain⟨n,rfl⟩:∃ n:Nat,a=(n:Int):=⟨a.natAbs,by omega⟩
   have hN:Num n:=ha;rw[show ((n:Int)).natAbs=n by omega] at *
   have Hj1:=hd_ (fun W=>Vi W false (n/b) (Num.le hN (Nat.div_le_self _ _)))
   have Hj2:=hd_ (fun W=>Vi W false (n%b) (Num.le hN (Nat.mod_le _ _)))
   rw[show jz false (n/b)=(n:Int)/(b:Int) from rfl] at Hj1
   rw[show jz false (n%b)=(n:Int)%(b:Int) from rfl] at Hj2
   clear hn;generalize itx ((n:Int)/(b:Int))=r1 at *
   generalize itx ((n:Int)%(b:Int))=r2 at *
   generalize itx (n:Int)=s at *
   generalize dec (n/b)=qd at *
   generalize dec (n%b)=rd at *
   generalize dec n=sm at *
   generalize dec b=tm at *
   go_enter Tryz.func163,Tryz.ntmps163
   go_wp2_with fail
   refine cm_ (Hl1.out w) ?_;rintro e w1 ⟨rfl,hb1⟩;have Hb1:=hd_ hb1;clear hb1 Hl1
   go_wp2_with fail
   refine cm_ (Hl2.out w1) ?_;rintro e w2 ⟨rfl,hb2⟩;have Hb2:=hd_ (Hb1.out.trans (hb2.mono Hb1.out.size));clear hb2 Hb1 Hl2
   go_wp2_with fail
   refine cm_ (Hsa.out w2) ?_;rintro e w3 ⟨rfl,hb3⟩;have Hb3:=hd_ (Hb2.out.trans (hb3.mono Hb2.out.size));clear hb3 Hb2 Hsa
   go_wp2_with fail
   refine cm_ (Hsb.out w3) ?_;rintro e w4 ⟨rfl,hb4⟩;have Hb4:=hd_ (Hb3.out.trans (hb4.mono Hb3.out.size));clear hb4 Hb3 Hsb
   go_wp2_with fail
   refine cm_ (Hdm.out w4 Hb4.out) ?_;rintro e w5 ⟨rfl,hb5⟩;have Hb5:=hd_ (Hb4.out.trans (hb5.mono Hb4.out.size));clear hb5 Hb4 Hdm
   go_wp2_with fail
   refine cm_ (Hj1.out w5) ?_;rintro e w6 ⟨rfl,hb6⟩;have Hb6:=hd_ (Hb5.out.trans (hb6.mono Hb5.out.size));clear hb6 Hb5 Hj1
   go_wp2_with fail
   refine cm_ (Hj2.out w6) ?_;rintro e w7 ⟨rfl,hb7⟩;have Hb7:=hd_ (Hb6.out.trans (hb7.mono Hb6.out.size));clear hb7 Hb6 Hj2;go_wp2
   go_ret3
   exact⟨rfl,Hb7.out⟩
 ·rw[if_pos hl.1] at Hl1;rw[if_pos hl.2] at Hl2;have q1:=Zk a 18 (by decide) hl.1
  have q2:=(Vj b).1 hl.2;clear hl big Hsa Hsb Hdm;have Hof:Hid (∀ W,Below w.heap.size w W→∀ z:Int,-9223372036854775808≤z→z≤9223372036854775807→Kc Tryz.prog 13 #[.int .i64 z] W (.string (itx z))):=fun W hW z h0 h1=>Zb6 W z h0 h1 (HL.out.below hW)
  have hbz:((b:Int)==0)=false:=by rw[beq_eq_false_iff_ne];omega
  have hbn:¬ (b:Int)<0:=by omega
  have hbi:¬ (b:Int)=0:=by omega
  by_cases hn:a<0
  ·obtain⟨n,rfl⟩:∃ n:Nat,a = -(n:Int):=⟨a.natAbs,by omega⟩
   have hn1:n<1000000000000000000:=by omega
   have hdl:n/b≤n:=Nat.div_le_self _ _;have hml:n%b≤n:=Nat.mod_le _ _;have htd:Int.tdiv (-(n:Int)) (b:Int) = -((n/b:Nat):Int):=by rw[Int.neg_tdiv,← Int.ofNat_tdiv]
   have htm:Int.tmod (-(n:Int)) (b:Int) = -((n%b:Nat):Int):=by rw[Int.neg_tmod,← Int.ofNat_tmod]
   by_cases hr:n%b=0
   ·obtain⟨e1,e2⟩:=Zbf n b hb0 hr;rw[e1,e2];rw[hr] at htm;rw[show -((0:Nat):Int)=0 from rfl] at htm
    clear e1 e2 hr hml;generalize n/b=q at *
    have hw1:IntKind.i64.wrap (-(q:Int)) = -(q:Int):=iw_ _ (by omega)
    have hw2:IntKind.i64.wrap 0=0:=iw_ _ (by omega)
    have hq1 : -9223372036854775808 ≤ -(q:Int):=by omega
    have hq2 : -(q:Int)≤9223372036854775807:=by omega
    have hr1:(-9223372036854775808:Int)≤0:=by omega
    have hr2:(0:Int)≤9223372036854775807:=by omega
    generalize itx (-(n:Int))=s at *
    generalize dec b=tm at *
    go_enter Tryz.func163,Tryz.ntmps163
    go_wp2_with fail
    refine cm_ (Hl1.out w) ?_;rintro e w1 ⟨rfl,hb1⟩;have Hb1:=hd_ hb1;clear hb1 Hl1
    go_wp2_with fail
    refine cm_ (Hl2.out w1) ?_;rintro e w2 ⟨rfl,hb2⟩;have Hb2:=hd_ (Hb1.out.trans (hb2.mono Hb1.out.size));clear hb2 Hb1 Hl2
    go_wp2_with fail
    go_quiet (fail)
    have Hb3:Hid (Below w.heap.size w (w2.drewN nq)):=Vc Hb2.out _;clear Hb2;generalize w2.drewN nq=w3 at *
    go_wp2_with fail
    refine cm_ (Hof.out w3 Hb3.out _ (by omega) (by omega)) ?_
    rintro e w4 ⟨rfl,hb4⟩;have Hb4:=hd_ (Hb3.out.trans (hb4.mono Hb3.out.size));clear hb4 Hb3
    go_wp2_with fail
    refine cm_ (Hof.out w4 Hb4.out _ (by omega) (by omega)) ?_
    rintro e w5 ⟨rfl,hb5⟩;have Hb5:=hd_ (Hb4.out.trans (hb5.mono Hb4.out.size));clear hb5 Hb4;go_wp2
    go_ret3
    exact⟨rfl,Hb5.out⟩
   ·obtain⟨e1,e2⟩:=Zca n b hb0 hr;rw[e1,e2];have hmb:=Nat.mod_lt n hb0;have hr0:0<n%b:=by omega
    clear e1 e2 hr;generalize n/b=q at *
    generalize n%b=r at *
    have hw1:IntKind.i64.wrap (-(q:Int)) = -(q:Int):=iw_ _ (by omega)
    have hw2:IntKind.i64.wrap (-(r:Int)) = -(r:Int):=iw_ _ (by omega)
    have hw3:IntKind.i64.wrap (-(q:Int)-1) = -(q:Int)-1:=iw_ _ (by omega)
    have hw4:IntKind.i64.wrap (-(r:Int)+(b:Int)) = -(r:Int)+(b:Int):=iw_ _ (by omega)
    have hq1 : -9223372036854775808 ≤ -(q:Int)-1:=by omega
    have hq2 : -(q:Int)-1≤9223372036854775807:=by omega
    have hr1:(-9223372036854775808:Int) ≤ -(r:Int)+(b:Int):=by omega
    have hr2 : -(r:Int)+(b:Int)≤9223372036854775807:=by omega
    have hrz:(-(r:Int) != 0)=true:=by rw[bne_iff_ne];omega
    have hrn : -(r:Int)<0:=by omega
    rw[show (b:Int)-(r:Int) = -(r:Int)+(b:Int) by omega]
    generalize itx (-(n:Int))=s at *
    generalize dec b=tm at *
    go_enter Tryz.func163,Tryz.ntmps163
    go_wp2_with fail
    refine cm_ (Hl1.out w) ?_;rintro e w1 ⟨rfl,hb1⟩;have Hb1:=hd_ hb1;clear hb1 Hl1
    go_wp2_with fail
    refine cm_ (Hl2.out w1) ?_;rintro e w2 ⟨rfl,hb2⟩;have Hb2:=hd_ (Hb1.out.trans (hb2.mono Hb1.out.size));clear hb2 Hb1 Hl2
    go_wp2_with fail
    go_quiet (fail)
    have Hb3:Hid (Below w.heap.size w (w2.drewN nq)):=Vc Hb2.out _;clear Hb2;generalize w2.drewN nq=w3 at *
    go_wp2_with fail
    refine cm_ (Hof.out w3 Hb3.out _ (by omega) (by omega)) ?_
    rintro e w4 ⟨rfl,hb4⟩;have Hb4:=hd_ (Hb3.out.trans (hb4.mono Hb3.out.size));clear hb4 Hb3
    go_wp2_with fail
    refine cm_ (Hof.out w4 Hb4.out _ (by omega) (by omega)) ?_
    rintro e w5 ⟨rfl,hb5⟩;have Hb5:=hd_ (Hb4.out.trans (hb5.mono Hb4.out.size));clear hb5 Hb4;go_wp2
    go_ret3
    exact⟨rfl,Hb5.out⟩
  ·obtain⟨n,rfl⟩:∃ n:Nat,a=(n:Int):=⟨a.natAbs,by omega⟩
   have hn1:n<1000000000000000000:=by omega
   have hdl:n/b≤n:=Nat.div_le_self _ _;have hml:n%b≤n:=Nat.mod_le _ _;have htd:Int.tdiv (n:Int) (b:Int)=((n/b:Nat):Int):=by rw[← Int.ofNat_tdiv]
   have htm:Int.tmod (n:Int) (b:Int)=((n%b:Nat):Int):=by rw[← Int.ofNat_tmod]
   obtain⟨e1,e2⟩:=Zkb n b;rw[e1,e2];clear e1 e2;generalize n/b=q at *
   generalize n%b=r at *
   have hw1:IntKind.i64.wrap (q:Int)=(q:Int):=iw_ _ (by omega)
   have hw2:IntKind.i64.wrap (r:Int)=(r:Int):=iw_ _ (by omega)
   have hq1 : -9223372036854775808≤(q:Int):=by omega
   have hq2:(q:Int)≤9223372036854775807:=by omega
   have hr1:(-9223372036854775808:Int)≤(r:Int):=by omega
   have hr2:(r:Int)≤9223372036854775807:=by omega
   generalize itx (n:Int)=s at *
   generalize dec b=tm at *
   rcases Nat.eq_zero_or_pos r with hr0|hr0
   ·subst hr0;have hw5:IntKind.i64.wrap 0=0:=iw_ _ (by omega)
    go_enter Tryz.func163,Tryz.ntmps163
    go_wp2_with fail
    refine cm_ (Hl1.out w) ?_;rintro e w1 ⟨rfl,hb1⟩;have Hb1:=hd_ hb1;clear hb1 Hl1
    go_wp2_with fail
    refine cm_ (Hl2.out w1) ?_;rintro e w2 ⟨rfl,hb2⟩;have Hb2:=hd_ (Hb1.out.trans (hb2.mono Hb1.out.size));clear hb2 Hb1 Hl2
    go_wp2_with fail
    go_quiet (fail)
    have Hb3:Hid (Below w.heap.size w (w2.drewN nq)):=Vc Hb2.out _;clear Hb2;generalize w2.drewN nq=w3 at *
    go_wp2_with fail
    refine cm_ (Hof.out w3 Hb3.out _ (by omega) (by omega)) ?_
    rintro e w4 ⟨rfl,hb4⟩;have Hb4:=hd_ (Hb3.out.trans (hb4.mono Hb3.out.size));clear hb4 Hb3
    go_wp2_with fail
    refine cm_ (Hof.out w4 Hb4.out _ (by omega) (by omega)) ?_
    rintro e w5 ⟨rfl,hb5⟩;have Hb5:=hd_ (Hb4.out.trans (hb5.mono Hb4.out.size));clear hb5 Hb4;go_wp2
    go_ret3
    exact⟨rfl,Hb5.out⟩
   ·have hrz:((r:Int) != 0)=true:=by rw[bne_iff_ne];omega
    have hrn:decide ((r:Int)<0)=false:=decide_eq_false (by omega)
    have hbn2:decide ((b:Int)<0)=false:=decide_eq_false (by omega)
    go_enter Tryz.func163,Tryz.ntmps163
    go_wp2_with fail
    refine cm_ (Hl1.out w) ?_;rintro e w1 ⟨rfl,hb1⟩;have Hb1:=hd_ hb1;clear hb1 Hl1
    go_wp2_with fail
    refine cm_ (Hl2.out w1) ?_;rintro e w2 ⟨rfl,hb2⟩;have Hb2:=hd_ (Hb1.out.trans (hb2.mono Hb1.out.size));clear hb2 Hb1 Hl2
    go_wp2_with fail
    go_quiet (fail)
    have Hb3:Hid (Below w.heap.size w (w2.drewN nq)):=Vc Hb2.out _;clear Hb2;generalize w2.drewN nq=w3 at *
    go_wp2_with fail
    refine cm_ (Hof.out w3 Hb3.out _ (by omega) (by omega)) ?_
    rintro e w4 ⟨rfl,hb4⟩;have Hb4:=hd_ (Hb3.out.trans (hb4.mono Hb3.out.size));clear hb4 Hb3
    go_wp2_with fail
    refine cm_ (Hof.out w4 Hb4.out _ (by omega) (by omega)) ?_
    rintro e w5 ⟨rfl,hb5⟩;have Hb5:=hd_ (Hb4.out.trans (hb5.mono Hb4.out.size));clear hb5 Hb4;go_wp2
    go_ret3
    exact⟨rfl,Hb5.out⟩
def fv (n:Int) (d:Nat):Value := .agg #[.string (itx n),.string (dec d)]
theorem Zg4(w:World)(z:Int)(hz:Zdf z):
  Kc Tryz.prog 295 #[.string (itx z)] w (if (itx z).size≤9 then .tuple #[.int .i64 z,.bool true] else .tuple #[.int .i64 0,.bool false]):=by
 unfold Kc;have hz1:(dec z.natAbs).size≤1000000:=hz;have hz2:=Zb9 z
 by_cases h:(itx z).size≤9
 ·rw[if_pos h];have hlt:=Zk z 9 (by decide) (by omega)
  have Hc:=hd_ (Tryz.strconv_Atoi_ok (itx z) (by omega) z (Zpf z (by omega)) w)
  have Hbb:=hd_ (fun t=>Yr w 5 t)
  have h':((itx z).size:Int)≤9:=by omega
  clear hlt hz1 hz2;generalize itx z=s at *
  go_enter Tryz.func295,Tryz.ntmps295
  go_wp2_with fail
  refine cm_ Hc.out ?_;rintro e w1 ⟨rfl,hw⟩;have Hb:Hid (Below w.heap.size w w1):=by
   show Below _ _ _
   rcases hw with rfl|⟨t,rfl⟩
   ·exact Below.refl _ _
   ·exact Hbb.out t
  clear hw
  go_wp2_with fail
  go_quiet (fail)
  go_wp2
  go_ret2
  exact⟨rfl,Vc Hb.out _⟩
 ·rw[if_neg h];have h':¬ ((itx z).size:Int)≤9:=by omega
  generalize itx z=s at *
  go_enter Tryz.func295,Tryz.ntmps295;go_wp2
  go_ret2
  exact⟨rfl,Below.refl _ _⟩
def Zt7 (n:Int) (d:Nat):Value :=
 .tuple #[.int .i64 (if (itx n).size≤9 then n else 0),.int .i64 (if (dec d).size≤9 then d else 0),.bool (decide ((itx n).size≤9)&&decide ((dec d).size≤9))]
theorem Zhq(w:World)(n:Int)(d:Nat)(hn:Zdf n)(hd:Num d):
  Kc Tryz.prog 259 #[fv n d] w (Zt7 n d):=by
 unfold Kc fv;have Hl1:Hid (∀ W,Kc Tryz.prog 295 #[.string (itx n)] W (.tuple #[.int .i64 (if (itx n).size≤9 then n else 0),.bool (decide ((itx n).size≤9))])):=fun W=>by
  have:=Zg4 W n hn
  by_cases h:(itx n).size≤9
  ·rw[if_pos h] at this;rw[if_pos h,decide_eq_true h];exact this
  ·rw[if_neg h] at this;rw[if_neg h,decide_eq_false h];exact this
 have Hl2:Hid (∀ W,Kc Tryz.prog 295 #[.string (dec d)] W (.tuple #[.int .i64 (if (dec d).size≤9 then (d:Int) else 0),.bool (decide ((dec d).size≤9))])):=fun W=>by
  have:=Zg4 W (d:Int) (show Num _ from hd)
  rw[Ki] at this
  by_cases h:(dec d).size≤9
  ·rw[if_pos h] at this;rw[if_pos h,decide_eq_true h];exact this
  ·rw[if_neg h] at this;rw[if_neg h,decide_eq_false h];exact this
 have Hv:Hid (Zt7 n d = .tuple #[.int .i64 (if (itx n).size≤9 then n else 0),.int .i64 (if (dec d).size≤9 then (d:Int) else 0),.bool (decide ((itx n).size≤9)&&decide ((dec d).size≤9))]):=rfl
 rw[Hv.out];clear Hv;generalize (if (itx n).size≤9 then n else 0)=x at *
 generalize (if (dec d).size≤9 then (d:Int) else 0)=y at *
 generalize decide ((itx n).size≤9)=p at *
 generalize decide ((dec d).size≤9)=q at *
 generalize itx n=s at *
 generalize dec d=t at *
 have Hc1:Hid ((w.alloc (.cells #[.string s,.string t] 101)).cell? ⟨w.heap.size,1,none⟩=some (.string t)):=by
  show _=_
  rw[World.cell?_alloc_new];rfl
 have Hb0:=hd_ ((Below.refl w.heap.size w).alloc nr_ (.cells #[.string s,.string t] 101));have hsz0:w.heap.size<(w.alloc (.cells #[.string s,.string t] 101)).heap.size:=by simp
 have Hsz0:=hd_ hsz0;clear hsz0;go_enter Tryz.func259,Tryz.ntmps259
 go_wp2_with fail
 refine cm_ (Hl1.out _) ?_;rintro e w1 ⟨rfl,hb1⟩;have cx:=Hc1.out;rw[← hb1.cell (p:=⟨w.heap.size,1,none⟩) Hsz0.out] at cx;have Hb1:=hd_ (Hb0.out.trans (hb1.mono (Nat.le_of_lt Hsz0.out)));clear hb1 Hb0 Hc1 Hsz0
 go_wp2_with fail
 refine cm_ (Hl2.out _) ?_;rintro e w2 ⟨rfl,hb2⟩;have Hb2:=hd_ (Hb1.out.trans (hb2.mono Hb1.out.size));clear hb2 Hb1 cx;cases p<;>cases q
 all_goals
  go_wp2
  go_ret3
  exact⟨rfl,Hb2.out⟩
end Go.Proofs.YtbielfplgbammaaGreatDoor

namespace Go.Proofs.YtbielfplgbammaaGreatDoor
open Go Go.Sort
section
variable {P:Program} {ops:Array Oper} {md:Region.Mode} {C:World→Prop}
def Zhv (P:Program) (md:Region.Mode) (ops:Array Oper) (C:World→Prop) (n:Nat) (L:Array Bool→Act→Prop):Nat→Array Bool→Act→Prop
 | 0,listed,a=>L listed a
 | f+1,listed,a=>Region.ready md ops listed≠[]∧∀ i∈Region.ready md ops listed,i<n∧qOp P ops C i (Zhv P md ops C n L f (listed.setIfInBounds i true)) a
theorem Zhu{n g:Nat}{L:Array Bool→Act→Prop}{Q':Exit→Act→World→Prop}(hL:∀ listed a w,C w→L listed a→wpAny P md ops Q' g listed a w):
  ∀ (f:Nat) (listed:Array Bool) (a:Act) (w:World),C w→Zhv P md ops C n L f listed a→wpAny P md ops Q' (f+g) listed a w
 | 0,listed,a,w,hw,h=>by rw[Nat.zero_add];exact hL _ _ _ hw h
 | f+1,listed,a,w,hw,h=>by
  rw[show f+1+g=(f+g)+1 by omega]
  exact⟨fun h0=>absurd h0 h.1,fun i hi=>wpOp_of_qOp hw (fun a' w' hw' h'=>Zhu hL f _ a' w' hw' h') (h.2 i hi).2⟩
theorem Zki{n i:Nat}{oi:Oper}{v:Value}{L:Array Bool→Act→Prop}(hi:ops[i]?=some oi)(hsel:∀ (j:Nat) (o:Oper) cs b,ops[j]?=some o→o.op ≠ .select cs b)
  (hs:Region.sinkB md ops n=true) (hc:Region.chainB md ops n=true) (hn:n<ops.size) (hin:i<n)
  (hdone:∀ listed a,L listed a→∀ j∈Region.ready md ops listed,n≤j) :
  ∀ (f:Nat) (listed:Array Bool) (a:Act),HeadInv md ops n listed →
   (∀ j oj,ops[j]?=some oj→j≠i→listed.getD j true=false→(∀ e∈oj.after,Region.binds md e=true→e.on≠i)→oi.apart ops oj=true) →
   i∈Region.ready md ops listed→YieldsIn P ops C oi v a →
   Zhv P md ops C n L f (listed.setIfInBounds i true) (a.put oi.dst v)→Zhv P md ops C n L (f+1) listed a:=by
 intro f
 induction f with
 | zero =>
  intro listed a inv _ hr hy H;have hun:=(mem_ready.1 hr).1;refine⟨fun h=>(by rw[h] at hr;cases hr),fun j hj=>?_⟩
  have hjn:j<n:=by
   rcases Nat.lt_or_ge j n with h|h
   ·exact h
   ·exact absurd hj (tail_waits hs hc hn inv _ i rfl hin hun j h)
  refine⟨hjn,?_⟩
  by_cases hji:j=i
  ·subst hji;exact hy.qOp hi H
  ·have:=hdone _ _ H j (ready_mono hj hji)
   omega
 | succ f ih =>
  intro listed a inv hfree hr hy H;have hun:=(mem_ready.1 hr).1;refine⟨fun h=>(by rw[h] at hr;cases hr),fun j hj=>?_⟩
  have hjn:j<n:=by
   rcases Nat.lt_or_ge j n with h|h
   ·exact h
   ·exact absurd hj (tail_waits hs hc hn inv _ i rfl hin hun j h)
  refine⟨hjn,?_⟩
  by_cases hji:j=i
  ·subst hji;exact hy.qOp hi H
  ·have h1:=(H.2 j (ready_mono hj hji)).2;obtain⟨hjun,oj,hoj,hall⟩:=mem_ready.1 hj;have hnot:∀ e∈oj.after,Region.binds md e=true→e.on≠i:=fun e he hb heq=>by
    have h1:=hall e he hb;rw[heq,getD_both hun] at h1;cases h1
   have h2:=qOp_put hoj (hfree j oj hoj hji hjun hnot) (fun cs b=>hsel i oi cs b hi) (fun cs b=>hsel j oj cs b hoj) hy h1
   have hfree':∀ k ok,ops[k]?=some ok→k≠i→(listed.setIfInBounds j true).getD k true=false →
     (∀ e∈ok.after,Region.binds md e=true→e.on≠i)→oi.apart ops ok=true:=fun k ok hk hki hun hno=>by
    refine hfree k ok hk hki ?_ hno
    by_cases hjk:j=k
    ·subst hjk;exact hjun
    ·rw[getD_set_ne true hjk] at hun;exact hun
   refine qOp_mono (fun a' h3=>ih (listed.setIfInBounds j true) a' (inv.set hj hjn) hfree' (ready_mono hr (Ne.symm hji)) h3.1 ?_) h2
   rw[Array.setIfInBounds_comm _ _ hji];exact h3.2
theorem Zht{n g:Nat}{Lq:Act→Prop}(hsel:Region.noSelect ops=true)(hs:Region.sinkB md ops n=true)(hc:Region.chainB md ops n=true)(hn:n<ops.size):
  ∀ (l:List Oper) (k:Nat) (listed:Array Bool) (a:Act),(∀ j,j<l.length→l[j]?=ops[k+j]?)→k+l.length=n→HeadInv md ops n listed →
  Region.lexHead md ops g l.length k listed=true→wpQuiet P ops C Lq l a →
  Zhv P md ops C n (fun listed' a'=>Region.seqB md ops g n listed'=true∧Lq a') l.length listed a
 | [],k,listed,a,_,hk,_,hB,h=>by
  have:k=n:=by simpa using hk
  subst this;exact⟨by simpa [Region.lexHead] using hB,h⟩
 | o::l,k,listed,a,hl,hk,inv,hB,h=>by
  have h0:ops[k]?=some o:=by simpa using (hl 0 (by simp)).symm
  simp only[List.length_cons,Region.lexHead,Bool.and_eq_true] at hB;obtain⟨⟨hr,hf⟩,hB'⟩:=hB;have hkn:k<n:=by simp only[List.length_cons] at hk;omega
  have hr':k∈Region.ready md ops listed:=by simpa using hr
  have hst:qOp P ops C k (wpQuiet P ops C Lq l) a:=by unfold qOp;simp only[h0];exact h
  obtain⟨v,hy,hK⟩:=yieldsIn_of_qOp h0 hst;exact Zki h0 (Region.noSelect_spec hsel) hs hc hn hkn (fun listed' a' hL=>seqB_ready hL.1) l.length listed a inv (Region.free_spec h0 hf) hr' hy
   (Zht hsel hs hc hn l (k+1) _ _ (fun j hj=>by have:=hl (j+1) (by simp;omega);simpa [Nat.add_assoc,Nat.add_comm 1 j] using this) (by simp only[List.length_cons] at hk;omega) (inv.set hr' hkn) hB' hK)
theorem Zde{id:Nat}{Q:Exit→Act→World→Prop}{a:Act}{w:World}{l:List Oper}(n:Nat)(hm:P.follows .mixedOrders=true)(hB:Region.lexTailB .any l.toArray n=true)
  (hC:C { w with drawn:=w.drawn+1 }) (h:wpQuiet P l.toArray C (fun a'=>∀ w',C w'→wpList P l.toArray Q (l.drop n) a' w') (l.take n) a):(Code.region id l.toArray true).wp P Q a w:=by
 simp only[Region.lexTailB,Bool.and_eq_true,decide_eq_true_eq] at hB;obtain⟨⟨⟨⟨hsel,hn⟩,hs⟩,hc⟩,hlex⟩:=hB;have hn':n<l.length:=by simpa using hn
 have htl:(l.take n).length=n:=by simp;omega
 have hdl:(l.drop n).length=l.toArray.size-n:=by simp
 have inv0:HeadInv .any l.toArray n (Array.replicate l.toArray.size false) :=
  ⟨by simp,fun j oj _ hl=>(by rw[getD_replicate_false] at hl;cases hl),fun t _ ht=>getD_in (by simpa using ht) (getD_replicate_false _ _)⟩
 have H:=Zht (md := .any) (g:=l.toArray.size-n) hsel hs hc hn (l.take n) 0 _ a (fun j hj=>by
  have hj':j<n:=by rw[htl] at hj;exact hj
  simp[hj']) (by simpa using htl) inv0 (by rw[htl];exact hlex) h
 refine wp_region_any hm ?_;have:=Zhu (Q':=Q) (g:=l.toArray.size-n) (fun listed a' w' hw' hL=>by
  have:=wpAny_of_seq (md := .any) (Q':=Q) (l.drop n) n listed a' w' (fun j=>by simp[List.getElem?_drop]) (by rw[hdl];exact hL.1) (hL.2 w' hw')
  rwa [hdl] at this) _ _ _ _ hC H
 rw[htl,show n+(l.toArray.size-n)=l.toArray.size by omega] at this
 exact this
theorem Kz{id:Nat}{Q:Exit→Act→World→Prop}{a:Act}{w:World}{l:List Oper}(n:Nat)(hm:P.follows .mixedOrders=true)(hB:Region.lexTailB .any l.toArray n=true)
  (h:wpQuiet P l.toArray (fun w'=>∃ p:Regrown,w'=grow (redrawn w p.d) p.os) (fun a'=>∀ w',(∃ p:Regrown,w'=grow (redrawn w p.d) p.os)→wpList P l.toArray Q (l.drop n) a' w') (l.take n) a):(Code.region id l.toArray true).wp P Q a w :=
 Zde n hm hB ⟨⟨w.drawn+1,#[]⟩,by rw[grow_empty];rfl⟩ h
end
end Go.Proofs.YtbielfplgbammaaGreatDoor

namespace Go.Proofs.YtbielfplgbammaaGreatDoor
open Go.RowKit
theorem Zfv(w:World)(z:Int)(h0 : -9223372036854775808≤z)(h1:z≤9223372036854775807)(L:Qx w):
  ∀ d os,Calls Tryz.prog 53 #[.int .i64 z] (Go.Sort.grow (redrawn w d) os) fun e w''=>e = .returned (.string (itx z))∧∃ p:Regrown,w''=Go.Sort.grow (redrawn w p.d) p.os:=fun d os=>by
 have hb:=below_regrown w d os;have:=Tryz.strconv_Itoa z h0 h1 (Go.Sort.grow (redrawn w d) os) (L.below hb).tab
 exact Calls.regrown_of (this.mono fun e w'' ⟨h1,h2⟩=>⟨h1,Zes h2⟩)
theorem Ka{w:World}{g:Nat}{a b:Value}{t:TypeId}(h:w.heap[g]?=some (.cells #[a,b] t (0,0))):
  w.cell? ⟨g,0,none⟩=some a∧w.cell? ⟨g,1,none⟩=some b∧w.frozen? ⟨g,0,none⟩=false∧w.frozen? ⟨g,1,none⟩=false:=by
 refine⟨by rw[cell_of_row w g 0 _ t (0,0) h];rfl,by rw[cell_of_row w g 1 _ t (0,0) h];rfl,?_,?_⟩
 ·simp[World.frozen?,h]
 ·simp[World.frozen?,h]
theorem Qc{w0 w:World}{B g:Nat}{a b:Value}(x y:Value)(k0:w.cell? ⟨g,0,none⟩=some a)(k1:w.cell? ⟨g,1,none⟩=some b)(hB:B≤g)(hb:Below B w0 w):
  ((w.setCell ⟨g,0,none⟩ x).setCell ⟨g,1,none⟩ y).cell? ⟨g,0,none⟩=some x∧((w.setCell ⟨g,0,none⟩ x).setCell ⟨g,1,none⟩ y).cell? ⟨g,1,none⟩=some y ∧
  Below B w0 ((w.setCell ⟨g,0,none⟩ x).setCell ⟨g,1,none⟩ y):=by
 refine⟨?_,?_,?_⟩
 ·rw[World.cell?_setCell_other _ _ _ _ (by simp),World.cell?_setCell_same _ _ _ k0]
 ·rw[World.cell?_setCell_same _ _ _ (by rw[World.cell?_setCell_other _ _ _ _ (by simp)];exact k1)]
 ·exact(hb.setCell (p:=⟨g,0,none⟩) hB x).setCell (p:=⟨g,1,none⟩) hB y
theorem Zm5(w:World)(n:Int)(d g:Nat)(hn:n.natAbs<9223372036854775808)(hd:d<9223372036854775808)(hd0:0<d)(hg:Nat.gcd n.natAbs d=g)(L:Qx w):
  Kc Tryz.prog 260 #[.int .i64 n,.int .i64 d] w (fv (n/(g:Int)) (d/g)):=by
 unfold Kc fv;have hg0:0<g:=by rw[← hg];exact Nat.gcd_pos_of_pos_right _ hd0
 have hgd:g ∣ d:=by rw[← hg];exact Nat.gcd_dvd_right _ _
 have hgn:(g:Int) ∣ n:=by rw[← hg];exact Int.gcd_dvd_left n (d:Int)
 have Hg:=hd_ hg;have HL:=hd_ L;clear hg L;have Hb0:=hd_ ((Below.refl w.heap.size w).alloc nr_ (.cells #[.string ⟨#[]⟩,.string ⟨#[]⟩] 101));go_enter Tryz.func260,Tryz.ntmps260
 go_wp2_with fail
 go_loopw [5,6] (fun p q wr=>∃ x y:Int,x.natAbs<9223372036854775808∧y.natAbs<9223372036854775808∧p = .int .i64 x∧q = .int .i64 y∧Hid (Nat.gcd x.natAbs y.natAbs=g)∧Hid (∃ k,wr=(w.alloc (.cells #[.string ⟨#[]⟩,.string ⟨#[]⟩] 101)).drewN k)) (fun _ q _=>(intOf q).natAbs)
 case atStart=>exact⟨n,d,hn,by omega,rfl,rfl,Hg.out,⟨0,rfl⟩⟩
 case round =>
  obtain⟨x,y,hx,hy,rfl,rfl,Hxy,Hw⟩:=hrel
  by_cases h0:y=0
  ·subst h0;have hxg:x.natAbs=g:=by
    have:=Hxy.out
    rw[show (0:Int).natAbs=0 from rfl,Nat.gcd_zero_right] at this
    exact this
   have hng:g≤9223372036854775807:=by omega
   have hgz:((g:Int)==0)=false:=by rw[beq_eq_false_iff_ne];omega
   have htd1:Int.tdiv n (g:Int)=n/(g:Int):=Int.tdiv_eq_ediv_of_dvd hgn;have htd2:Int.tdiv (d:Int) (g:Int)=((d/g:Nat):Int):=by rw[← Int.ofNat_tdiv]
   have hnd:(n/(g:Int)).natAbs≤n.natAbs:=by
    rw[← htd1,Int.natAbs_tdiv];exact Nat.div_le_self _ _
   have hdd:d/g≤d:=Nat.div_le_self _ _;have hq1 : -9223372036854775808≤n/(g:Int):=by omega
   have hq2:n/(g:Int)≤9223372036854775807:=by omega
   have hq3 : -9223372036854775808≤((d/g:Nat):Int):=Int.le_trans (by decide) (Int.natCast_nonneg _)
   have hq4:((d/g:Nat):Int)≤9223372036854775807:=Int.le_trans (Int.ofNat_le.2 hdd) (by omega)
   have hw1:IntKind.i64.wrap (n/(g:Int))=n/(g:Int):=iw_ _ ⟨hq1,hq2⟩;have hw2:IntKind.i64.wrap ((d/g:Nat):Int)=((d/g:Nat):Int):=iw_ _ ⟨hq3,hq4⟩;have Hi1:Hid (∀ W,Below w.heap.size w W→∀ d' os,Calls Tryz.prog 53 #[.int .i64 (n/(g:Int))] (Go.Sort.grow (redrawn W d') os) fun e w''=>e = .returned (.string (itx (n/(g:Int))))∧∃ p:Regrown,w''=Go.Sort.grow (redrawn W p.d) p.os):=fun W hW=>Zfv W _ hq1 hq2 (HL.out.below hW)
   have Hi2:Hid (∀ W,Below w.heap.size w W→∀ d' os,Calls Tryz.prog 53 #[.int .i64 ((d/g:Nat):Int)] (Go.Sort.grow (redrawn W d') os) fun e w''=>e = .returned (.string (dec (d/g)))∧∃ p:Regrown,w''=Go.Sort.grow (redrawn W p.d) p.os):=fun W hW=>by
    have:=Zfv W ((d/g:Nat):Int) hq3 hq4 (HL.out.below hW)
    rw[Ki] at this;exact this
   have Hbk:Hid (Below w.heap.size w wr):=by
    obtain⟨k,hk⟩:=Hw.out
    show Below _ _ _
    rw[hk];exact Vc Hb0.out _
   have Hcell:Hid (wr.heap[w.heap.size]?=some (.cells #[.string ⟨#[]⟩,.string ⟨#[]⟩] 101 (0,0))):=by
    obtain⟨k,hk⟩:=Hw.out
    show _=_
    rw[hk];exact heap_alloc_new w _
   have hM1:=Hi1.out wr Hbk.out;have hM2:=Hi2.out wr Hbk.out;clear Hw Hi1 Hi2 hgd hgn hnd hdd Hxy;obtain⟨rs,hrs⟩:∃ rs,itx (n/(g:Int))=rs:=⟨_,rfl⟩;obtain⟨rt,hrt⟩:∃ rt,dec (d/g)=rt:=⟨_,rfl⟩;rw[hrs] at hM1;rw[hrt] at hM2;have Hrs:=hd_ hrs;have Hrt:=hd_ hrt;clear hrs hrt;generalize n/(g:Int)=q1 at htd1 hq1 hq2 hw1 hM1;generalize ((d/g:Nat):Int)=q2 at htd2 hq3 hq4 hw2 hM2
   by_cases hneg:x<0
   ·have hxn : -x=(g:Int):=by omega
    have hwx:IntKind.i64.wrap (-x)=(g:Int):=by rw[hxn];exact iw_ _ (by omega)
    have Hxn:=hd_ hxn;clear hxn
    go_wp2_with fail
    refine Kz 9 (by kernel_rfl) (by kernel_rfl) ?_
    simp only[List.take_succ_cons,List.take_zero,List.drop_succ_cons,List.drop_zero]
    repeat (first | go_big_quiet_step (first | with_reducible exact hM1 _ _ | with_reducible exact hM2 _ _) | quiet_step (first | with_reducible exact hM1 _ _ | with_reducible exact hM2 _ _))
    refine wpQuiet_nil ?_;intro w2 hw2;obtain⟨⟨dq,osq⟩,rfl⟩:=hw2;have hb2:=below_regrown wr dq osq;have Hcell2:Hid ((Go.Sort.grow (redrawn wr dq) osq).heap[w.heap.size]?=some (.cells #[.string ⟨#[]⟩,.string ⟨#[]⟩] 101 (0,0))):=by
     show _=_
     rw[hb2.block _ (by have:=Hcell.out;exact(Array.getElem?_eq_some_iff.1 this).1)];exact Hcell.out
    have Hb2:=hd_ (Hbk.out.trans (hb2.mono Hbk.out.size));clear hb2 hM1 hM2 Hcell;generalize Go.Sort.grow (redrawn wr dq) osq=w2 at *
    obtain⟨k0,k1,f0,f1⟩:=Ka Hcell2.out;go_wp2;obtain⟨c0,c1,hb3⟩:=Qc (.string rs) (.string rt) k0 k1 nr_ Hb2.out;generalize (w2.setCell ⟨w.heap.size,0,none⟩ (.string rs)).setCell ⟨w.heap.size,1,none⟩ (.string rt)=w3 at *
    exact bodyPost_ret (v := .agg #[.string rs,.string rt]) (by simp[results,Tryz.results260,go_sem,c0,c1]) rfl ⟨by rw[Hrs.out,Hrt.out],hb3⟩
   ·have hxp:x=(g:Int):=by omega
    clear hxg;subst hxp
    go_wp2_with fail
    refine Kz 9 (by kernel_rfl) (by kernel_rfl) ?_
    simp only[List.take_succ_cons,List.take_zero,List.drop_succ_cons,List.drop_zero]
    repeat (first | go_big_quiet_step (first | with_reducible exact hM1 _ _ | with_reducible exact hM2 _ _) | quiet_step (first | with_reducible exact hM1 _ _ | with_reducible exact hM2 _ _))
    refine wpQuiet_nil ?_;intro w2 hw2;obtain⟨⟨dq,osq⟩,rfl⟩:=hw2;have hb2:=below_regrown wr dq osq;have Hcell2:Hid ((Go.Sort.grow (redrawn wr dq) osq).heap[w.heap.size]?=some (.cells #[.string ⟨#[]⟩,.string ⟨#[]⟩] 101 (0,0))):=by
     show _=_
     rw[hb2.block _ (by have:=Hcell.out;exact(Array.getElem?_eq_some_iff.1 this).1)];exact Hcell.out
    have Hb2:=hd_ (Hbk.out.trans (hb2.mono Hbk.out.size));clear hb2 hM1 hM2 Hcell;generalize Go.Sort.grow (redrawn wr dq) osq=w2 at *
    obtain⟨k0,k1,f0,f1⟩:=Ka Hcell2.out;go_wp2;obtain⟨c0,c1,hb3⟩:=Qc (.string rs) (.string rt) k0 k1 nr_ Hb2.out;generalize (w2.setCell ⟨w.heap.size,0,none⟩ (.string rs)).setCell ⟨w.heap.size,1,none⟩ (.string rt)=w3 at *
    exact bodyPost_ret (v := .agg #[.string rs,.string rt]) (by simp[results,Tryz.results260,go_sem,c0,c1]) rfl ⟨by rw[Hrs.out,Hrt.out],hb3⟩
  ·have hyz:(y==0)=false:=by rw[beq_eq_false_iff_ne];exact h0
   have htm:(Int.tmod x y).natAbs=x.natAbs%y.natAbs:=Int.natAbs_tmod x y;have hlt:(Int.tmod x y).natAbs<y.natAbs:=by rw[htm];exact Nat.mod_lt _ (by omega)
   have Hgn:Hid (Nat.gcd y.natAbs (Int.tmod x y).natAbs=g):=by
    show _=_
    rw[htm,Zj8];exact Hxy.out
   have hwr:IntKind.i64.wrap (Int.tmod x y)=Int.tmod x y:=iw_ _ (by omega)
   have Hw2:Hid (∃ k,wr=(w.alloc (.cells #[.string ⟨#[]⟩,.string ⟨#[]⟩] 101)).drewN k):=Hw.out;have Hlt:=hd_ hlt;clear htm Hxy Hw
   go_wp2_with fail
   go_quiet (fail)
   go_wp2
   go_roundw
   case rel =>
    refine⟨y,Int.tmod x y,hy,by omega,rfl,rfl,Hgn,?_⟩
    obtain⟨k,hk⟩:=Hw2.out;exact⟨k+nq,by rw[hk];exact World.drewN_drewN _ _ _⟩
   case measure=>exact Hlt.out
theorem Kh{W0 wk:World}{g:Nat}{a b:Value}{t:TypeId}(h:W0.heap[g]?=some (.cells #[a,b] t (0,0)))(hb:Below W0.heap.size W0 wk):
  wk.heap[g]?=some (.cells #[a,b] t (0,0)):=by
 rw[hb.block g (Array.getElem?_eq_some_iff.1 h).1];exact h
theorem Zjn{d:Nat}(h:0<d):((d:Nat):Int).sign=1:=Int.sign_eq_one_of_pos (by omega)
theorem Zdo(w:World)(n:Int)(d g:Nat)(hn:Zdf n)(hd:Num d)(hd0:0<d)(hn1:Num (n.natAbs+1))(hd1:Num (d+1))(hg:Nat.gcd n.natAbs d=g)(L:Qx w):
  Kc Tryz.prog 258 #[.string (itx n),.string (dec d)] w (fv (n/(g:Int)) (d/g)):=by
 unfold Kc fv;have hg0:0<g:=by rw[← hg];exact Nat.gcd_pos_of_pos_right _ hd0
 have hgl:g≤d:=by rw[← hg];exact Nat.gcd_le_right _ hd0
 have hgn:Num g:=hd.le hgl;have Hb0:=hd_ ((Below.refl w.heap.size w).alloc nr_ (.cells #[.string ⟨#[]⟩,.string ⟨#[]⟩] 101));have Hnew:Hid ((w.alloc (.cells #[.string ⟨#[]⟩,.string ⟨#[]⟩] 101)).heap[w.heap.size]?=some (.cells #[.string ⟨#[]⟩,.string ⟨#[]⟩] 101 (0,0))):=heap_alloc_new w _;have HL:=hd_ (L.below Hb0.out);have Hsg:Hid (∀ W,Kc Tryz.prog 59 #[.string (dec d)] W (.int .i64 1)):=fun W=>by
  have:=Zah W (d:Int)
  rw[Ki,Zjn hd0] at this;exact this
 clear L;go_enter Tryz.func258,Tryz.ntmps258
 go_wp2_with fail
 generalize w.alloc (.cells #[.string ⟨#[]⟩,.string ⟨#[]⟩] 101)=W0 at *
 have Hgc:Hid (∀ W,Below W0.heap.size W0 W→Kc Tryz.prog 219 #[.string (itx n),.string (dec d)] W (.string (dec g))):=fun W hW=>by
  have:=Zox W n (d:Int) hn (show Num _ from hd) (HL.out.below hW)
  rw[Ki,show Int.gcd n (d:Int)=g from hg] at this
  exact this
 have Hd1:Hid (∀ W,Below W0.heap.size W0 W→Kc Tryz.prog 163 #[.string (itx n),.string (dec g)] W (.tuple #[.string (itx (n/(g:Int))),.string (itx (n%(g:Int))),.int .i64 0])):=fun W hW=>Zcc W n g hn hgn hg0 hn1 (HL.out.below hW)
 have Hd2:Hid (∀ W,Below W0.heap.size W0 W→Kc Tryz.prog 163 #[.string (dec d),.string (dec g)] W (.tuple #[.string (dec (d/g)),.string (itx ((d:Int)%(g:Int))),.int .i64 0])):=fun W hW=>by
  have:=Zcc W (d:Int) g (show Num _ from hd) hgn hg0 (show Num (d+1) from hd1) (HL.out.below hW)
  rw[Ki,show (d:Int)/(g:Int)=((d/g:Nat):Int) from rfl,Ki] at this
  exact this
 have ho:=Zlp g
 by_cases h1:g=1
 ·have Hrs:Hid (itx (n/(g:Int))=itx n):=by show _=_;rw[h1];congr 1;exact Int.ediv_one n
  have Hrt:Hid (dec (d/g)=dec d):=by show _=_;rw[h1,Nat.div_one]
  rw[decide_eq_true h1] at ho;clear h1 Hd1 Hd2 hg hg0 hgl hgn hn hd hn1 hd1;obtain⟨s,hs⟩:∃ s,itx n=s:=⟨_,rfl⟩;obtain⟨t,ht⟩:∃ t,dec d=t:=⟨_,rfl⟩;rw[hs] at Hrs Hgc ⊢;rw[ht] at Hrt Hgc Hsg ⊢;clear hs ht;generalize dec g=u at *
  refine cm_ (Hsg.out _) ?_;rintro e w1 ⟨rfl,hb1⟩;have Hb1:=hd_ hb1;clear hb1 Hsg
  go_wp2_with fail
  refine cm_ (Hgc.out w1 Hb1.out) ?_;rintro e w2 ⟨rfl,hb2⟩;have Hb2:=hd_ (Hb1.out.trans (hb2.mono Hb1.out.size));clear hb2 Hb1 Hgc;have Hcell:=hd_ (Kh Hnew.out Hb2.out);have Hbw:=hd_ (Hb0.out.trans (Hb2.out.mono Hb0.out.size));obtain⟨k0,k1,f0,f1⟩:=Ka Hcell.out;clear Hb2 Hb0 Hcell Hnew HL;go_wp2;obtain⟨c0,c1,hb3⟩:=Qc (.string s) (.string t) k0 k1 nr_ Hbw.out;generalize (w2.setCell ⟨w.heap.size,0,none⟩ (.string s)).setCell ⟨w.heap.size,1,none⟩ (.string t)=w9 at *
  exact bodyPost_ret (v := .agg #[.string s,.string t]) (by simp[results,Tryz.results258,go_sem,c0,c1]) rfl ⟨by rw[Hrs.out,Hrt.out],hb3⟩
 ·rw[decide_eq_false h1] at ho;obtain⟨rs,hrs⟩:∃ rs,itx (n/(g:Int))=rs:=⟨_,rfl⟩;obtain⟨rt,hrt⟩:∃ rt,dec (d/g)=rt:=⟨_,rfl⟩;rw[hrs] at Hd1;rw[hrt] at Hd2;have Hrs:=hd_ hrs;have Hrt:=hd_ hrt;clear h1 hg hg0 hgl hgn hn hd hn1 hd1 hrs hrt;generalize itx (n%(g:Int))=e1 at Hd1;generalize itx ((d:Int)%(g:Int))=e2 at Hd2;obtain⟨s,hs⟩:∃ s,itx n=s:=⟨_,rfl⟩;obtain⟨t,ht⟩:∃ t,dec d=t:=⟨_,rfl⟩;obtain⟨u,hu⟩:∃ u,dec g=u:=⟨_,rfl⟩;rw[hs] at Hd1 Hgc ⊢;rw[ht] at Hd2 Hgc Hsg ⊢;rw[hu] at Hd1 Hd2 Hgc ho;clear hs ht hu;refine cm_ (Hsg.out _) ?_;rintro e w1 ⟨rfl,hb1⟩;have Hb1:=hd_ hb1;clear hb1 Hsg
  go_wp2_with fail
  refine cm_ (Hgc.out w1 Hb1.out) ?_;rintro e w2 ⟨rfl,hb2⟩;have Hb2:=hd_ (Hb1.out.trans (hb2.mono Hb1.out.size));clear hb2 Hb1 Hgc
  go_wp2_with fail
  refine cm_ (Hd1.out w2 Hb2.out) ?_;rintro e w3 ⟨rfl,hb3⟩;have Hb3:=hd_ (Hb2.out.trans (hb3.mono Hb2.out.size));clear hb3 Hb2 Hd1
  go_wp2_with fail
  refine cm_ (Hd2.out w3 Hb3.out) ?_;rintro e w4 ⟨rfl,hb4⟩;have Hb4:=hd_ (Hb3.out.trans (hb4.mono Hb3.out.size));clear hb4 Hb3 Hd2;have Hcell:=hd_ (Kh Hnew.out Hb4.out);have Hbw:=hd_ (Hb0.out.trans (Hb4.out.mono Hb0.out.size));obtain⟨k0,k1,f0,f1⟩:=Ka Hcell.out;clear Hb4 Hb0 Hcell Hnew HL;go_wp2;obtain⟨c0,c1,hb3⟩:=Qc (.string rs) (.string rt) k0 k1 nr_ Hbw.out;generalize (w4.setCell ⟨w.heap.size,0,none⟩ (.string rs)).setCell ⟨w.heap.size,1,none⟩ (.string rt)=w9 at *
  exact bodyPost_ret (v := .agg #[.string rs,.string rt]) (by simp[results,Tryz.results258,go_sem,c0,c1]) rfl ⟨by rw[Hrs.out,Hrt.out],hb3⟩
def Zk6 (n:Int) (d:Nat):Value:=fv (n/((Nat.gcd n.natAbs d:Nat):Int)) (d/Nat.gcd n.natAbs d)
structure Zn2 (w:World) (s t s' t':ByteArray) (W0:World):Prop where
 fa:W0.heap[w.heap.size]?=some (.cells #[.string s,.string t] 101 (0,0))
 fb:W0.heap[w.heap.size+1]?=some (.cells #[.string s',.string t'] 101 (0,0))
 fr:W0.heap[w.heap.size+1+1]?=some (.cells #[.string ⟨#[]⟩,.string ⟨#[]⟩] 101 (0,0))
 bel:Below w.heap.size w W0
theorem Zn2.mk'(w:World)(s t s' t':ByteArray):Zn2 w s t s' t' (((w.alloc (.cells #[.string s,.string t] 101)).alloc (.cells #[.string s',.string t'] 101)).alloc (.cells #[.string ⟨#[]⟩,.string ⟨#[]⟩] 101)):=by
 have hA:=heap_alloc_new w (.cells #[.string s,.string t] 101);have hB:=heap_alloc_new (w.alloc (.cells #[.string s,.string t] 101)) (.cells #[.string s',.string t'] 101);have hR:=heap_alloc_new ((w.alloc (.cells #[.string s,.string t] 101)).alloc (.cells #[.string s',.string t'] 101)) (.cells #[.string ⟨#[]⟩,.string ⟨#[]⟩] 101);have e1:(w.alloc (.cells #[.string s,.string t] 101)).heap.size=w.heap.size+1:=by simp
 have e2:((w.alloc (.cells #[.string s,.string t] 101)).alloc (.cells #[.string s',.string t'] 101)).heap.size=w.heap.size+1+1:=by simp
 refine⟨?_,?_,?_,?_⟩
 ·exact Kh hA (((Below.refl _ _).alloc nr_ _).alloc (by simp) _)
 ·rw[e1] at hB;exact Kh hB ((Below.refl _ _).alloc nr_ _)
 ·rw[e2] at hR;exact hR
 ·exact(((Below.refl _ _).alloc nr_ _).alloc (by simp) _).alloc (by simp;omega) _
theorem Zn2.next{w W0 W:World}{s t s' t':ByteArray}(h:Zn2 w s t s' t' W0)(hb:Below W0.heap.size W0 W):Zn2 w s t s' t' W :=
 ⟨Kh h.fa hb,Kh h.fb hb,Kh h.fr hb,h.bel.trans (hb.mono h.bel.size)⟩
theorem Zi9(w:World)(n:Int)(d:Nat)(hn:Zdf n)(hd:Num d):
  (((itx n).size≤9∧(dec d).size≤9)∧Kc Tryz.prog 259 #[fv n d] w (.tuple #[.int .i64 n,.int .i64 d,.bool true])) ∨
  (¬ ((itx n).size≤9∧(dec d).size≤9)∧∃ x y:Int,∀ W,Kc Tryz.prog 259 #[fv n d] W (.tuple #[.int .i64 x,.int .i64 y,.bool false])):=by
 by_cases h1:(itx n).size≤9
 ·by_cases h2:(dec d).size≤9
  ·left;have:=Zhq w n d hn hd
   unfold Zt7 at this;rw[if_pos h1,if_pos h2,decide_eq_true h1,decide_eq_true h2] at this;exact⟨⟨h1,h2⟩,this⟩
  ·right;refine⟨fun h=>h2 h.2,n,0,fun W=>?_⟩
   have:=Zhq W n d hn hd
   unfold Zt7 at this;rw[if_pos h1,if_neg h2,decide_eq_false h2,Bool.and_false] at this;exact this
 ·right;refine⟨fun h=>h1 h.1,0,if (dec d).size≤9 then d else 0,fun W=>?_⟩
  have:=Zhq W n d hn hd
  unfold Zt7 at this;rw[if_neg h1,decide_eq_false h1,Bool.false_and] at this;exact this
theorem Zap(n:Int)(d:Nat)(hn:Zdf n)(hd:Num d)(h:(itx n).size≤9∧(dec d).size≤9)(W:World):
  Kc Tryz.prog 259 #[fv n d] W (.tuple #[.int .i64 n,.int .i64 d,.bool true]):=by
 rcases Zi9 W n d hn hd with⟨-,h2⟩|⟨h2,-⟩
 ·exact h2
 ·exact absurd h h2
theorem Zaq(n:Int)(d:Nat)(hn:Zdf n)(hd:Num d)(h:¬ ((itx n).size≤9∧(dec d).size≤9)):
  ∃ x y:Int,∀ W,Kc Tryz.prog 259 #[fv n d] W (.tuple #[.int .i64 x,.int .i64 y,.bool false]):=by
 rcases Zi9 default n d hn hd with⟨h2,-⟩|⟨-,h2⟩
 ·exact absurd h2 h
 ·exact h2
theorem Zvd(w:World)(n m:Int)(d e:Nat)(hn:Zdf n)(hm:Zdf m)(hd:Num d)(he:Num e)(hd0:0<d)(he0:0<e)(hnm:Num ((n*m).natAbs+1))(hde:Num (d*e+1))(L:Qx w):
  Kc Tryz.prog 206 #[fv n d,fv m e] w (Zk6 (n*m) (d*e)):=by
 obtain⟨rs,hrs⟩:∃ rs,itx (n*m/((Nat.gcd (n*m).natAbs (d*e):Nat):Int))=rs:=⟨_,rfl⟩;obtain⟨rt,hrt⟩:∃ rt,dec (d*e/Nat.gcd (n*m).natAbs (d*e))=rt:=⟨_,rfl⟩;have hv:Zk6 (n*m) (d*e) = .agg #[.string rs,.string rt]:=by unfold Zk6 fv;rw[hrs,hrt]
 have Hv:=hd_ hv;have hde0:0<d*e:=Nat.mul_pos hd0 he0;unfold Kc;have H3:=hd_ (Zn2.mk' w (itx n) (dec d) (itx m) (dec e));have HL:=hd_ (L.below H3.out.bel);clear L;have Hm1:Hid (∀ W,Below (((w.alloc (.cells #[.string (itx n),.string (dec d)] 101)).alloc (.cells #[.string (itx m),.string (dec e)] 101)).alloc (.cells #[.string ⟨#[]⟩,.string ⟨#[]⟩] 101)).heap.size (((w.alloc (.cells #[.string (itx n),.string (dec d)] 101)).alloc (.cells #[.string (itx m),.string (dec e)] 101)).alloc (.cells #[.string ⟨#[]⟩,.string ⟨#[]⟩] 101)) W→∀ d' os,Calls Tryz.prog 14 #[.string (itx n),.string (itx m)] (Go.Sort.grow (redrawn W d') os) fun x w''=>x = .returned (.string (itx (n*m)))∧∃ p:Regrown,w''=Go.Sort.grow (redrawn W p.d) p.os):=fun W hW d' os =>
  Calls.regrown_of (Za4 _ n m hn hm (hnm.le (Nat.le_succ _)) ((HL.out.below hW).below (below_regrown W d' os)))
 have Hm2:Hid (∀ W,Below (((w.alloc (.cells #[.string (itx n),.string (dec d)] 101)).alloc (.cells #[.string (itx m),.string (dec e)] 101)).alloc (.cells #[.string ⟨#[]⟩,.string ⟨#[]⟩] 101)).heap.size (((w.alloc (.cells #[.string (itx n),.string (dec d)] 101)).alloc (.cells #[.string (itx m),.string (dec e)] 101)).alloc (.cells #[.string ⟨#[]⟩,.string ⟨#[]⟩] 101)) W→∀ d' os,Calls Tryz.prog 14 #[.string (dec d),.string (dec e)] (Go.Sort.grow (redrawn W d') os) fun x w''=>x = .returned (.string (dec (d*e)))∧∃ p:Regrown,w''=Go.Sort.grow (redrawn W p.d) p.os):=fun W hW d' os=>by
  have:=Za4 (Go.Sort.grow (redrawn W d') os) (d:Int) (e:Int) (show Num _ from hd) (show Num _ from he) (show Num _ from by rw[Int.natAbs_mul];exact hde.le (Nat.le_succ _)) ((HL.out.below hW).below (below_regrown W d' os))
  rw[Ki,Ki,← Int.natCast_mul,Ki] at this;exact Calls.regrown_of this
 have Hm3:Hid (∀ W,Below (((w.alloc (.cells #[.string (itx n),.string (dec d)] 101)).alloc (.cells #[.string (itx m),.string (dec e)] 101)).alloc (.cells #[.string ⟨#[]⟩,.string ⟨#[]⟩] 101)).heap.size (((w.alloc (.cells #[.string (itx n),.string (dec d)] 101)).alloc (.cells #[.string (itx m),.string (dec e)] 101)).alloc (.cells #[.string ⟨#[]⟩,.string ⟨#[]⟩] 101)) W→∀ d' os,Calls Tryz.prog 258 #[.string (itx (n*m)),.string (dec (d*e))] (Go.Sort.grow (redrawn W d') os) fun x w''=>x = .returned (.agg #[.string rs,.string rt])∧∃ p:Regrown,w''=Go.Sort.grow (redrawn W p.d) p.os):=fun W hW d' os=>by
  have:=Zdo (Go.Sort.grow (redrawn W d') os) (n*m) (d*e) _ (hnm.le (Nat.le_succ _)) (hde.le (Nat.le_succ _)) hde0 hnm hde rfl ((HL.out.below hW).below (below_regrown W d' os))
  unfold fv at this;rw[hrs,hrt] at this;exact Calls.regrown_of this
 by_cases h1:(itx n).size≤9∧(dec d).size≤9
 ·have Hc1:=hd_ (Zap n d hn hd h1)
  by_cases h2:(itx m).size≤9∧(dec e).size≤9
  ·have Hc2:=hd_ (Zap m e hm he h2);have q1:=Zk n 9 (by decide) h1.1
   have q2:=Zk m 9 (by decide) h2.1
   have q3:=(Qh d 9 (by decide)).1 (by rw[← Qo];exact h1.2)
   have q4:=(Qh e 9 (by decide)).1 (by rw[← Qo];exact h2.2)
   have q5:(n*m).natAbs≤1000000000*1000000000:=by rw[Int.natAbs_mul];exact Nat.mul_le_mul (by omega) (by omega)
   have q6:d*e≤1000000000*1000000000:=Nat.mul_le_mul (by omega) (by omega)
   have hw1:IntKind.i64.wrap (n*m)=n*m:=iw_ _ (by omega)
   have hw2:IntKind.i64.wrap ((d:Int)*(e:Int))=((d*e:Nat):Int):=by rw[← Int.natCast_mul];exact iw_ _ ⟨Int.le_trans (by decide) (Int.natCast_nonneg _),Int.le_trans (Int.ofNat_le.2 q6) (by decide)⟩
   have Hof:Hid (∀ W,Below (((w.alloc (.cells #[.string (itx n),.string (dec d)] 101)).alloc (.cells #[.string (itx m),.string (dec e)] 101)).alloc (.cells #[.string ⟨#[]⟩,.string ⟨#[]⟩] 101)).heap.size (((w.alloc (.cells #[.string (itx n),.string (dec d)] 101)).alloc (.cells #[.string (itx m),.string (dec e)] 101)).alloc (.cells #[.string ⟨#[]⟩,.string ⟨#[]⟩] 101)) W→Kc Tryz.prog 260 #[.int .i64 (n*m),.int .i64 ((d*e:Nat):Int)] W (.agg #[.string rs,.string rt])):=fun W hW=>by
    have:=Zm5 W (n*m) (d*e) _ (by omega) (by omega) hde0 rfl (HL.out.below hW)
    unfold fv at this;rw[hrs,hrt] at this;exact this
   unfold fv at Hc1 Hc2 ⊢;clear Hm1 Hm2 Hm3 q1 q2 q3 q4 q5 q6 h1 h2 hrs hrt hv hde0;go_enter Tryz.func206,Tryz.ntmps206;obtain⟨k0,k1,-,-⟩:=Ka H3.out.fa;obtain⟨k2,k3,-,-⟩:=Ka H3.out.fb
   go_wp2_with fail
   generalize ((w.alloc (.cells #[.string (itx n),.string (dec d)] 101)).alloc (.cells #[.string (itx m),.string (dec e)] 101)).alloc (.cells #[.string ⟨#[]⟩,.string ⟨#[]⟩] 101)=W0 at *
   clear k0 k1 k2 k3;refine cm_ (Hc1.out _) ?_;rintro e w1 ⟨rfl,hb1⟩;have Hb1:=hd_ hb1;clear hb1 Hc1;obtain⟨k0,k1,-,-⟩:=Ka (H3.out.next Hb1.out).fa;obtain⟨k2,k3,-,-⟩:=Ka (H3.out.next Hb1.out).fb
   go_wp2_with fail
   clear k0 k1 k2 k3;refine cm_ (Hc2.out _) ?_;rintro e w2 ⟨rfl,hb2⟩;have Hb2:=hd_ (Hb1.out.trans (hb2.mono Hb1.out.size));clear hb2 Hb1 Hc2
   go_wp2_with fail
   refine cm_ (Hof.out w2 Hb2.out) ?_;rintro e w3 ⟨rfl,hb3⟩;have Hb3:=hd_ (Hb2.out.trans (hb3.mono Hb2.out.size));clear hb3 Hb2 Hof;have H8:=hd_ (H3.out.next Hb3.out);clear H3 Hb3;obtain⟨k0,k1,f0,f1⟩:=Ka H8.out.fr;have Hbw:=hd_ H8.out.bel;clear H8;go_wp2;obtain⟨c0,c1,hb3⟩:=Qc (B:=w.heap.size) (.string rs) (.string rt) k0 k1 (by omega) Hbw.out
   generalize (w3.setCell ⟨w.heap.size+1+1,0,none⟩ (.string rs)).setCell ⟨w.heap.size+1+1,1,none⟩ (.string rt)=w9 at *
   exact bodyPost_ret (v := .agg #[.string rs,.string rt]) (by simp[results,Tryz.results206,go_sem,c0,c1]) rfl ⟨by rw[Hv.out],hb3⟩
  ·obtain⟨x,y,hc2⟩:=Zaq m e hm he h2;have Hc2:=hd_ hc2;unfold fv at Hc1 Hc2 ⊢;clear h1 h2 hrs hrt hv hde0 hc2;go_enter Tryz.func206,Tryz.ntmps206;obtain⟨k0,k1,-,-⟩:=Ka H3.out.fa;obtain⟨k2,k3,-,-⟩:=Ka H3.out.fb
   go_wp2_with fail
   generalize ((w.alloc (.cells #[.string (itx n),.string (dec d)] 101)).alloc (.cells #[.string (itx m),.string (dec e)] 101)).alloc (.cells #[.string ⟨#[]⟩,.string ⟨#[]⟩] 101)=W0 at *
   clear k0 k1 k2 k3;refine cm_ (Hc1.out _) ?_;rintro e w1 ⟨rfl,hb1⟩;have Hb1:=hd_ hb1;clear hb1 Hc1;obtain⟨k0,k1,-,-⟩:=Ka (H3.out.next Hb1.out).fa;obtain⟨k2,k3,-,-⟩:=Ka (H3.out.next Hb1.out).fb
   go_wp2_with fail
   clear k0 k1 k2 k3;refine cm_ (Hc2.out _) ?_;rintro e w2 ⟨rfl,hb2⟩;have Hb2:=hd_ (Hb1.out.trans (hb2.mono Hb1.out.size));clear hb2 Hb1 Hc2;obtain⟨k0,k1,-,-⟩:=Ka (H3.out.next Hb2.out).fa;obtain⟨k2,k3,-,-⟩:=Ka (H3.out.next Hb2.out).fb;have q0:=cell_regrown k0;have q1:=cell_regrown k1;have q2:=cell_regrown k2;have q3:=cell_regrown k3;have hM1:=Hm1.out w2 Hb2.out;have hM2:=Hm2.out w2 Hb2.out;have hM3:=Hm3.out w2 Hb2.out;clear k0 k1 k2 k3 Hm1 Hm2 Hm3
   go_wp2_with fail
   refine Kz 11 (by kernel_rfl) (by kernel_rfl) ?_
   simp only[List.take_succ_cons,List.take_zero,List.drop_succ_cons,List.drop_zero]
   repeat (first | go_big_quiet_step (first | with_reducible exact hM1 _ _ | with_reducible exact hM2 _ _ | with_reducible exact hM3 _ _) | quiet_step (first | with_reducible exact hM1 _ _ | with_reducible exact hM2 _ _ | with_reducible exact hM3 _ _))
   refine wpQuiet_nil ?_;intro w8 hw8;obtain⟨⟨dq,osq⟩,rfl⟩:=hw8;have hb8:=below_regrown w2 dq osq;have H8:=hd_ ((H3.out.next Hb2.out).next hb8);clear hb8 hM1 hM2 hM3 q0 q1 q2 q3 H3 Hb2;generalize Go.Sort.grow (redrawn w2 dq) osq=w8 at *
   obtain⟨k0,k1,f0,f1⟩:=Ka H8.out.fr;have Hbw:=hd_ H8.out.bel;clear H8;go_wp2;obtain⟨c0,c1,hb3⟩:=Qc (B:=w.heap.size) (.string rs) (.string rt) k0 k1 (by omega) Hbw.out
   generalize (w8.setCell ⟨w.heap.size+1+1,0,none⟩ (.string rs)).setCell ⟨w.heap.size+1+1,1,none⟩ (.string rt)=w9 at *
   exact bodyPost_ret (v := .agg #[.string rs,.string rt]) (by simp[results,Tryz.results206,go_sem,c0,c1]) rfl ⟨by rw[Hv.out],hb3⟩
 ·obtain⟨x,y,hc1⟩:=Zaq n d hn hd h1;have Hc1:=hd_ hc1;unfold fv at Hc1 ⊢;clear h1 hrs hrt hv hde0 hc1;go_enter Tryz.func206,Tryz.ntmps206;obtain⟨k0,k1,-,-⟩:=Ka H3.out.fa;obtain⟨k2,k3,-,-⟩:=Ka H3.out.fb
  go_wp2_with fail
  generalize ((w.alloc (.cells #[.string (itx n),.string (dec d)] 101)).alloc (.cells #[.string (itx m),.string (dec e)] 101)).alloc (.cells #[.string ⟨#[]⟩,.string ⟨#[]⟩] 101)=W0 at *
  clear k0 k1 k2 k3;refine cm_ (Hc1.out _) ?_;rintro e w1 ⟨rfl,hb1⟩;have Hb1:=hd_ hb1;clear hb1 Hc1;obtain⟨k0,k1,-,-⟩:=Ka (H3.out.next Hb1.out).fa;obtain⟨k2,k3,-,-⟩:=Ka (H3.out.next Hb1.out).fb;have q0:=cell_regrown k0;have q1:=cell_regrown k1;have q2:=cell_regrown k2;have q3:=cell_regrown k3;have hM1:=Hm1.out w1 Hb1.out;have hM2:=Hm2.out w1 Hb1.out;have hM3:=Hm3.out w1 Hb1.out;clear k0 k1 k2 k3 Hm1 Hm2 Hm3
  go_wp2_with fail
  refine Kz 11 (by kernel_rfl) (by kernel_rfl) ?_
  simp only[List.take_succ_cons,List.take_zero,List.drop_succ_cons,List.drop_zero]
  repeat (first | go_big_quiet_step (first | with_reducible exact hM1 _ _ | with_reducible exact hM2 _ _ | with_reducible exact hM3 _ _) | quiet_step (first | with_reducible exact hM1 _ _ | with_reducible exact hM2 _ _ | with_reducible exact hM3 _ _))
  refine wpQuiet_nil ?_;intro w8 hw8;obtain⟨⟨dq,osq⟩,rfl⟩:=hw8;have hb8:=below_regrown w1 dq osq;have H8:=hd_ ((H3.out.next Hb1.out).next hb8);clear hb8 hM1 hM2 hM3 q0 q1 q2 q3 H3 Hb1;generalize Go.Sort.grow (redrawn w1 dq) osq=w8 at *
  obtain⟨k0,k1,f0,f1⟩:=Ka H8.out.fr;have Hbw:=hd_ H8.out.bel;clear H8;go_wp2;obtain⟨c0,c1,hb3⟩:=Qc (B:=w.heap.size) (.string rs) (.string rt) k0 k1 (by omega) Hbw.out
  generalize (w8.setCell ⟨w.heap.size+1+1,0,none⟩ (.string rs)).setCell ⟨w.heap.size+1+1,1,none⟩ (.string rt)=w9 at *
  exact bodyPost_ret (v := .agg #[.string rs,.string rt]) (by simp[results,Tryz.results206,go_sem,c0,c1]) rfl ⟨by rw[Hv.out],hb3⟩
theorem Zu2(x:Int):Zk6 x 1=fv x 1:=by
 unfold Zk6;rw[Nat.gcd_one_right,show ((1:Nat):Int)=1 from rfl,Int.ediv_one]
theorem Zwj(w:World)(n m:Int)(d e:Nat)(hn:Zdf n)(hm:Zdf m)(hd:Num d)(he:Num e)(hd0:0<d)(he0:0<e)
  (hnm:Num ((n*e).natAbs+(m*d).natAbs+1)) (hnp:Num (n.natAbs+m.natAbs)) (hde:Num (d*e+1)) (L:Qx w) :
  Kc Tryz.prog 207 #[fv n d,fv m e] w (Zk6 (n*e+m*d) (d*e)):=by
 have hde0:0<d*e:=Nat.mul_pos hd0 he0;have hsum:(n*e+m*d).natAbs≤(n*e).natAbs+(m*d).natAbs:=Int.natAbs_add_le _ _;have hs1:Num ((n*e+m*d).natAbs+1):=hnm.le (by omega)
 have hne:Num (n*e).natAbs:=hnm.le (by omega)
 have hmd:Num (m*d).natAbs:=hnm.le (by omega)
 have H3:=hd_ (Zn2.mk' w (itx n) (dec d) (itx m) (dec e));have HL:=hd_ (L.below H3.out.bel);clear L;have o1:=Zlp d;have o2:=Zlp e
 by_cases hone:d=1∧e=1
 ·obtain⟨rfl,rfl⟩:=hone;obtain⟨rs,hrs⟩:∃ rs,itx (n+m)=rs:=⟨_,rfl⟩;obtain⟨rt,hrt⟩:∃ rt,dec 1=rt:=⟨_,rfl⟩;have Hrt1:=hd_ (hrt.symm.trans Zcf);have hv:Zk6 (n*(1:Nat)+m*(1:Nat)) (1*1) = .agg #[.string rs,.string rt]:=by
   rw[show (1*1:Nat)=1 from rfl,Zu2,show ((1:Nat):Int)=1 from rfl,Int.mul_one,Int.mul_one]
   unfold fv;rw[hrs,hrt]
  have Hv:=hd_ hv;unfold Kc;have Had:Hid (∀ W,Below (((w.alloc (.cells #[.string (itx n),.string (dec 1)] 101)).alloc (.cells #[.string (itx m),.string (dec 1)] 101)).alloc (.cells #[.string ⟨#[]⟩,.string ⟨#[]⟩] 101)).heap.size (((w.alloc (.cells #[.string (itx n),.string (dec 1)] 101)).alloc (.cells #[.string (itx m),.string (dec 1)] 101)).alloc (.cells #[.string ⟨#[]⟩,.string ⟨#[]⟩] 101)) W→Kc Tryz.prog 205 #[.string (itx n),.string (itx m)] W (.string rs)):=fun W hW=>by
   have:=Zf8 W n m hn hm hnp (HL.out.below hW)
   rw[hrs] at this;exact this
  rw[decide_eq_true rfl] at o1 o2;unfold fv;rw[hrt] at H3 HL Had o1 o2 ⊢;clear hv hrs hrt hne hmd hs1 hsum hnm hde hde0 hd he;go_enter Tryz.func207,Tryz.ntmps207;obtain⟨k0,k1,-,-⟩:=Ka H3.out.fa;obtain⟨k2,k3,-,-⟩:=Ka H3.out.fb
  go_wp2_with fail
  generalize ((w.alloc (.cells #[.string (itx n),.string (rt)] 101)).alloc (.cells #[.string (itx m),.string (rt)] 101)).alloc (.cells #[.string ⟨#[]⟩,.string ⟨#[]⟩] 101)=W0 at *
  clear k0 k1 k2 k3;refine cm_ (Had.out _ (Below.refl _ _)) ?_;rintro e w1 ⟨rfl,hb1⟩;have Hb1:=hd_ hb1;clear hb1 Had;have H8:=hd_ (H3.out.next Hb1.out);clear H3 Hb1;rw[Hrt1.out] at *
  obtain⟨k0,k1,f0,f1⟩:=Ka H8.out.fr;have Hbw:=hd_ H8.out.bel;clear H8;go_wp2;obtain⟨c0,c1,hb3⟩:=Qc (B:=w.heap.size) (.string rs) (.string ⟨#[49]⟩) k0 k1 (by omega) Hbw.out
  generalize (w1.setCell ⟨w.heap.size+1+1,0,none⟩ (.string rs)).setCell ⟨w.heap.size+1+1,1,none⟩ (.string ⟨#[49]⟩)=w9 at *
  exact bodyPost_ret (v := .agg #[.string rs,.string ⟨#[49]⟩]) (by simp[results,Tryz.results207,go_sem,c0,c1]) rfl ⟨by rw[Hv.out],hb3⟩
 ·obtain⟨rs,hrs⟩:∃ rs,itx ((n*e+m*d)/((Nat.gcd (n*e+m*d).natAbs (d*e):Nat):Int))=rs:=⟨_,rfl⟩;obtain⟨rt,hrt⟩:∃ rt,dec (d*e/Nat.gcd (n*e+m*d).natAbs (d*e))=rt:=⟨_,rfl⟩;have hv:Zk6 (n*e+m*d) (d*e) = .agg #[.string rs,.string rt]:=by unfold Zk6 fv;rw[hrs,hrt]
  have Hv:=hd_ hv;unfold Kc;have Hm1:Hid (∀ W,Below (((w.alloc (.cells #[.string (itx n),.string (dec d)] 101)).alloc (.cells #[.string (itx m),.string (dec e)] 101)).alloc (.cells #[.string ⟨#[]⟩,.string ⟨#[]⟩] 101)).heap.size (((w.alloc (.cells #[.string (itx n),.string (dec d)] 101)).alloc (.cells #[.string (itx m),.string (dec e)] 101)).alloc (.cells #[.string ⟨#[]⟩,.string ⟨#[]⟩] 101)) W→∀ d' os,Calls Tryz.prog 14 #[.string (itx n),.string (dec e)] (Go.Sort.grow (redrawn W d') os) fun x w''=>x = .returned (.string (itx (n*e)))∧∃ p:Regrown,w''=Go.Sort.grow (redrawn W p.d) p.os):=fun W hW d' os=>by
   have:=Za4 (Go.Sort.grow (redrawn W d') os) n (e:Int) hn (show Num _ from he) hne ((HL.out.below hW).below (below_regrown W d' os))
   rw[Ki] at this;exact Calls.regrown_of this
  have Hm2:Hid (∀ W,Below (((w.alloc (.cells #[.string (itx n),.string (dec d)] 101)).alloc (.cells #[.string (itx m),.string (dec e)] 101)).alloc (.cells #[.string ⟨#[]⟩,.string ⟨#[]⟩] 101)).heap.size (((w.alloc (.cells #[.string (itx n),.string (dec d)] 101)).alloc (.cells #[.string (itx m),.string (dec e)] 101)).alloc (.cells #[.string ⟨#[]⟩,.string ⟨#[]⟩] 101)) W→∀ d' os,Calls Tryz.prog 14 #[.string (itx m),.string (dec d)] (Go.Sort.grow (redrawn W d') os) fun x w''=>x = .returned (.string (itx (m*d)))∧∃ p:Regrown,w''=Go.Sort.grow (redrawn W p.d) p.os):=fun W hW d' os=>by
   have:=Za4 (Go.Sort.grow (redrawn W d') os) m (d:Int) hm (show Num _ from hd) hmd ((HL.out.below hW).below (below_regrown W d' os))
   rw[Ki] at this;exact Calls.regrown_of this
  have Hm3:Hid (∀ W,Below (((w.alloc (.cells #[.string (itx n),.string (dec d)] 101)).alloc (.cells #[.string (itx m),.string (dec e)] 101)).alloc (.cells #[.string ⟨#[]⟩,.string ⟨#[]⟩] 101)).heap.size (((w.alloc (.cells #[.string (itx n),.string (dec d)] 101)).alloc (.cells #[.string (itx m),.string (dec e)] 101)).alloc (.cells #[.string ⟨#[]⟩,.string ⟨#[]⟩] 101)) W→∀ d' os,Calls Tryz.prog 205 #[.string (itx (n*e)),.string (itx (m*d))] (Go.Sort.grow (redrawn W d') os) fun x w''=>x = .returned (.string (itx (n*e+m*d)))∧∃ p:Regrown,w''=Go.Sort.grow (redrawn W p.d) p.os):=fun W hW d' os=>by
   exact Calls.regrown_of (Zf8 (Go.Sort.grow (redrawn W d') os) (n*e) (m*d) hne hmd (hnm.le (Nat.le_succ _)) ((HL.out.below hW).below (below_regrown W d' os)))
  have Hm4:Hid (∀ W,Below (((w.alloc (.cells #[.string (itx n),.string (dec d)] 101)).alloc (.cells #[.string (itx m),.string (dec e)] 101)).alloc (.cells #[.string ⟨#[]⟩,.string ⟨#[]⟩] 101)).heap.size (((w.alloc (.cells #[.string (itx n),.string (dec d)] 101)).alloc (.cells #[.string (itx m),.string (dec e)] 101)).alloc (.cells #[.string ⟨#[]⟩,.string ⟨#[]⟩] 101)) W→∀ d' os,Calls Tryz.prog 14 #[.string (dec d),.string (dec e)] (Go.Sort.grow (redrawn W d') os) fun x w''=>x = .returned (.string (dec (d*e)))∧∃ p:Regrown,w''=Go.Sort.grow (redrawn W p.d) p.os):=fun W hW d' os=>by
   have:=Za4 (Go.Sort.grow (redrawn W d') os) (d:Int) (e:Int) (show Num _ from hd) (show Num _ from he) (show Num _ from by rw[Int.natAbs_mul];exact hde.le (Nat.le_succ _)) ((HL.out.below hW).below (below_regrown W d' os))
   rw[Ki,Ki,← Int.natCast_mul,Ki] at this;exact Calls.regrown_of this
  have Hm5:Hid (∀ W,Below (((w.alloc (.cells #[.string (itx n),.string (dec d)] 101)).alloc (.cells #[.string (itx m),.string (dec e)] 101)).alloc (.cells #[.string ⟨#[]⟩,.string ⟨#[]⟩] 101)).heap.size (((w.alloc (.cells #[.string (itx n),.string (dec d)] 101)).alloc (.cells #[.string (itx m),.string (dec e)] 101)).alloc (.cells #[.string ⟨#[]⟩,.string ⟨#[]⟩] 101)) W→∀ d' os,Calls Tryz.prog 258 #[.string (itx (n*e+m*d)),.string (dec (d*e))] (Go.Sort.grow (redrawn W d') os) fun x w''=>x = .returned (.agg #[.string rs,.string rt])∧∃ p:Regrown,w''=Go.Sort.grow (redrawn W p.d) p.os):=fun W hW d' os=>by
   have:=Zdo (Go.Sort.grow (redrawn W d') os) (n*e+m*d) (d*e) _ (hs1.le (Nat.le_succ _)) (hde.le (Nat.le_succ _)) hde0 hs1 hde rfl ((HL.out.below hW).below (below_regrown W d' os))
   unfold fv at this;rw[hrs,hrt] at this;exact Calls.regrown_of this
  by_cases hd1:d=1
  ·rw[decide_eq_true hd1] at o1;rw[decide_eq_false (fun h=>hone ⟨hd1,h⟩)] at o2
   clear hd1 hone
   by_cases h1:(itx n).size≤9∧(dec d).size≤9
   ·have Hc1:=hd_ (Zap n d hn hd h1)
    by_cases h2:(itx m).size≤9∧(dec e).size≤9
    ·have Hc2:=hd_ (Zap m e hm he h2);have q1:=Zk n 9 (by decide) h1.1
     have q2:=Zk m 9 (by decide) h2.1
     have q3:=(Qh d 9 (by decide)).1 (by rw[← Qo];exact h1.2)
     have q4:=(Qh e 9 (by decide)).1 (by rw[← Qo];exact h2.2)
     have q5:(n*e).natAbs≤1000000000*1000000000:=by rw[Int.natAbs_mul];exact Nat.mul_le_mul (by omega) (by omega)
     have q7:(m*d).natAbs≤1000000000*1000000000:=by rw[Int.natAbs_mul];exact Nat.mul_le_mul (by omega) (by omega)
     have q6:d*e≤1000000000*1000000000:=Nat.mul_le_mul (by omega) (by omega)
     have hw1:IntKind.i64.wrap (n*e)=n*e:=iw_ _ (by omega)
     have hw3:IntKind.i64.wrap (m*d)=m*d:=iw_ _ (by omega)
     have hw4:IntKind.i64.wrap (n*e+m*d)=n*e+m*d:=iw_ _ (by omega)
     have hw2:IntKind.i64.wrap ((d:Int)*(e:Int))=((d*e:Nat):Int):=by rw[← Int.natCast_mul];exact iw_ _ ⟨Int.le_trans (by decide) (Int.natCast_nonneg _),Int.le_trans (Int.ofNat_le.2 q6) (by decide)⟩
     have Hof:Hid (∀ W,Below (((w.alloc (.cells #[.string (itx n),.string (dec d)] 101)).alloc (.cells #[.string (itx m),.string (dec e)] 101)).alloc (.cells #[.string ⟨#[]⟩,.string ⟨#[]⟩] 101)).heap.size (((w.alloc (.cells #[.string (itx n),.string (dec d)] 101)).alloc (.cells #[.string (itx m),.string (dec e)] 101)).alloc (.cells #[.string ⟨#[]⟩,.string ⟨#[]⟩] 101)) W→Kc Tryz.prog 260 #[.int .i64 (n*e+m*d),.int .i64 ((d*e:Nat):Int)] W (.agg #[.string rs,.string rt])):=fun W hW=>by
      have:=Zm5 W (n*e+m*d) (d*e) _ (by omega) (by omega) hde0 rfl (HL.out.below hW)
      unfold fv at this;rw[hrs,hrt] at this;exact this
     unfold fv at Hc1 Hc2 ⊢;clear Hm1 Hm2 Hm3 Hm4 Hm5 q1 q2 q3 q4 q5 q6 q7 h1 h2 hrs hrt hv hde0 hsum;go_enter Tryz.func207,Tryz.ntmps207;obtain⟨k0,k1,-,-⟩:=Ka H3.out.fa;obtain⟨k2,k3,-,-⟩:=Ka H3.out.fb
     go_wp2_with fail
     generalize ((w.alloc (.cells #[.string (itx n),.string (dec d)] 101)).alloc (.cells #[.string (itx m),.string (dec e)] 101)).alloc (.cells #[.string ⟨#[]⟩,.string ⟨#[]⟩] 101)=W0 at *
     clear k0 k1 k2 k3;refine cm_ (Hc1.out _) ?_;rintro e w1 ⟨rfl,hb1⟩;have Hb1:=hd_ hb1;clear hb1 Hc1;obtain⟨k0,k1,-,-⟩:=Ka (H3.out.next Hb1.out).fa;obtain⟨k2,k3,-,-⟩:=Ka (H3.out.next Hb1.out).fb
     go_wp2_with fail
     clear k0 k1 k2 k3;refine cm_ (Hc2.out _) ?_;rintro e w2 ⟨rfl,hb2⟩;have Hb2:=hd_ (Hb1.out.trans (hb2.mono Hb1.out.size));clear hb2 Hb1 Hc2
     go_wp2_with fail
     refine cm_ (Hof.out w2 Hb2.out) ?_;rintro e w3 ⟨rfl,hb3⟩;have Hb3:=hd_ (Hb2.out.trans (hb3.mono Hb2.out.size));clear hb3 Hb2 Hof;have H8:=hd_ (H3.out.next Hb3.out);clear H3 Hb3;obtain⟨k0,k1,f0,f1⟩:=Ka H8.out.fr;have Hbw:=hd_ H8.out.bel;clear H8;go_wp2;obtain⟨c0,c1,hb3⟩:=Qc (B:=w.heap.size) (.string rs) (.string rt) k0 k1 (by omega) Hbw.out
     generalize (w3.setCell ⟨w.heap.size+1+1,0,none⟩ (.string rs)).setCell ⟨w.heap.size+1+1,1,none⟩ (.string rt)=w9 at *
     exact bodyPost_ret (v := .agg #[.string rs,.string rt]) (by simp[results,Tryz.results207,go_sem,c0,c1]) rfl ⟨by rw[Hv.out],hb3⟩
    ·obtain⟨x,y,hc2⟩:=Zaq m e hm he h2;have Hc2:=hd_ hc2;unfold fv at Hc1 Hc2 ⊢;clear h1 h2 hrs hrt hv hde0 hc2 hsum;go_enter Tryz.func207,Tryz.ntmps207;obtain⟨k0,k1,-,-⟩:=Ka H3.out.fa;obtain⟨k2,k3,-,-⟩:=Ka H3.out.fb
     go_wp2_with fail
     generalize ((w.alloc (.cells #[.string (itx n),.string (dec d)] 101)).alloc (.cells #[.string (itx m),.string (dec e)] 101)).alloc (.cells #[.string ⟨#[]⟩,.string ⟨#[]⟩] 101)=W0 at *
     clear k0 k1 k2 k3;refine cm_ (Hc1.out _) ?_;rintro e w1 ⟨rfl,hb1⟩;have Hb1:=hd_ hb1;clear hb1 Hc1;obtain⟨k0,k1,-,-⟩:=Ka (H3.out.next Hb1.out).fa;obtain⟨k2,k3,-,-⟩:=Ka (H3.out.next Hb1.out).fb
     go_wp2_with fail
     clear k0 k1 k2 k3;refine cm_ (Hc2.out _) ?_;rintro e w2 ⟨rfl,hb2⟩;have Hb2:=hd_ (Hb1.out.trans (hb2.mono Hb1.out.size));clear hb2 Hb1 Hc2;obtain⟨k0,k1,-,-⟩:=Ka (H3.out.next Hb2.out).fa;obtain⟨k2,k3,-,-⟩:=Ka (H3.out.next Hb2.out).fb;have q0:=cell_regrown k0;have q1:=cell_regrown k1;have q2:=cell_regrown k2;have q3:=cell_regrown k3;have hM1:=Hm1.out w2 Hb2.out;have hM2:=Hm2.out w2 Hb2.out;have hM3:=Hm3.out w2 Hb2.out;have hM4:=Hm4.out w2 Hb2.out;have hM5:=Hm5.out w2 Hb2.out;clear k0 k1 k2 k3 Hm1 Hm2 Hm3 Hm4 Hm5
     go_wp2_with fail
     refine Kz 17 (by kernel_rfl) (by kernel_rfl) ?_
     simp only[List.take_succ_cons,List.take_zero,List.drop_succ_cons,List.drop_zero]
     repeat (first | go_big_quiet_step (first | with_reducible exact hM1 _ _ | with_reducible exact hM2 _ _ | with_reducible exact hM3 _ _ | with_reducible exact hM4 _ _ | with_reducible exact hM5 _ _) | quiet_step (first | with_reducible exact hM1 _ _ | with_reducible exact hM2 _ _ | with_reducible exact hM3 _ _ | with_reducible exact hM4 _ _ | with_reducible exact hM5 _ _))
     refine wpQuiet_nil ?_;intro w8 hw8;obtain⟨⟨dq,osq⟩,rfl⟩:=hw8;have hb8:=below_regrown w2 dq osq;have H8:=hd_ ((H3.out.next Hb2.out).next hb8);clear hb8 hM1 hM2 hM3 hM4 hM5 q0 q1 q2 q3 H3 Hb2;generalize Go.Sort.grow (redrawn w2 dq) osq=w8 at *
     obtain⟨k0,k1,f0,f1⟩:=Ka H8.out.fr;have Hbw:=hd_ H8.out.bel;clear H8;go_wp2;obtain⟨c0,c1,hb3⟩:=Qc (B:=w.heap.size) (.string rs) (.string rt) k0 k1 (by omega) Hbw.out
     generalize (w8.setCell ⟨w.heap.size+1+1,0,none⟩ (.string rs)).setCell ⟨w.heap.size+1+1,1,none⟩ (.string rt)=w9 at *
     exact bodyPost_ret (v := .agg #[.string rs,.string rt]) (by simp[results,Tryz.results207,go_sem,c0,c1]) rfl ⟨by rw[Hv.out],hb3⟩
   ·obtain⟨x,y,hc1⟩:=Zaq n d hn hd h1;have Hc1:=hd_ hc1;unfold fv at Hc1 ⊢;clear h1 hrs hrt hv hde0 hc1 hsum;go_enter Tryz.func207,Tryz.ntmps207;obtain⟨k0,k1,-,-⟩:=Ka H3.out.fa;obtain⟨k2,k3,-,-⟩:=Ka H3.out.fb
    go_wp2_with fail
    generalize ((w.alloc (.cells #[.string (itx n),.string (dec d)] 101)).alloc (.cells #[.string (itx m),.string (dec e)] 101)).alloc (.cells #[.string ⟨#[]⟩,.string ⟨#[]⟩] 101)=W0 at *
    clear k0 k1 k2 k3;refine cm_ (Hc1.out _) ?_;rintro e w1 ⟨rfl,hb1⟩;have Hb1:=hd_ hb1;clear hb1 Hc1;obtain⟨k0,k1,-,-⟩:=Ka (H3.out.next Hb1.out).fa;obtain⟨k2,k3,-,-⟩:=Ka (H3.out.next Hb1.out).fb;have q0:=cell_regrown k0;have q1:=cell_regrown k1;have q2:=cell_regrown k2;have q3:=cell_regrown k3;have hM1:=Hm1.out w1 Hb1.out;have hM2:=Hm2.out w1 Hb1.out;have hM3:=Hm3.out w1 Hb1.out;have hM4:=Hm4.out w1 Hb1.out;have hM5:=Hm5.out w1 Hb1.out;clear k0 k1 k2 k3 Hm1 Hm2 Hm3 Hm4 Hm5
    go_wp2_with fail
    refine Kz 17 (by kernel_rfl) (by kernel_rfl) ?_
    simp only[List.take_succ_cons,List.take_zero,List.drop_succ_cons,List.drop_zero]
    repeat (first | go_big_quiet_step (first | with_reducible exact hM1 _ _ | with_reducible exact hM2 _ _ | with_reducible exact hM3 _ _ | with_reducible exact hM4 _ _ | with_reducible exact hM5 _ _) | quiet_step (first | with_reducible exact hM1 _ _ | with_reducible exact hM2 _ _ | with_reducible exact hM3 _ _ | with_reducible exact hM4 _ _ | with_reducible exact hM5 _ _))
    refine wpQuiet_nil ?_;intro w8 hw8;obtain⟨⟨dq,osq⟩,rfl⟩:=hw8;have hb8:=below_regrown w1 dq osq;have H8:=hd_ ((H3.out.next Hb1.out).next hb8);clear hb8 hM1 hM2 hM3 hM4 hM5 q0 q1 q2 q3 H3 Hb1;generalize Go.Sort.grow (redrawn w1 dq) osq=w8 at *
    obtain⟨k0,k1,f0,f1⟩:=Ka H8.out.fr;have Hbw:=hd_ H8.out.bel;clear H8;go_wp2;obtain⟨c0,c1,hb3⟩:=Qc (B:=w.heap.size) (.string rs) (.string rt) k0 k1 (by omega) Hbw.out
    generalize (w8.setCell ⟨w.heap.size+1+1,0,none⟩ (.string rs)).setCell ⟨w.heap.size+1+1,1,none⟩ (.string rt)=w9 at *
    exact bodyPost_ret (v := .agg #[.string rs,.string rt]) (by simp[results,Tryz.results207,go_sem,c0,c1]) rfl ⟨by rw[Hv.out],hb3⟩
  ·rw[decide_eq_false hd1] at o1;clear hd1 hone o2
   by_cases h1:(itx n).size≤9∧(dec d).size≤9
   ·have Hc1:=hd_ (Zap n d hn hd h1)
    by_cases h2:(itx m).size≤9∧(dec e).size≤9
    ·have Hc2:=hd_ (Zap m e hm he h2);have q1:=Zk n 9 (by decide) h1.1
     have q2:=Zk m 9 (by decide) h2.1
     have q3:=(Qh d 9 (by decide)).1 (by rw[← Qo];exact h1.2)
     have q4:=(Qh e 9 (by decide)).1 (by rw[← Qo];exact h2.2)
     have q5:(n*e).natAbs≤1000000000*1000000000:=by rw[Int.natAbs_mul];exact Nat.mul_le_mul (by omega) (by omega)
     have q7:(m*d).natAbs≤1000000000*1000000000:=by rw[Int.natAbs_mul];exact Nat.mul_le_mul (by omega) (by omega)
     have q6:d*e≤1000000000*1000000000:=Nat.mul_le_mul (by omega) (by omega)
     have hw1:IntKind.i64.wrap (n*e)=n*e:=iw_ _ (by omega)
     have hw3:IntKind.i64.wrap (m*d)=m*d:=iw_ _ (by omega)
     have hw4:IntKind.i64.wrap (n*e+m*d)=n*e+m*d:=iw_ _ (by omega)
     have hw2:IntKind.i64.wrap ((d:Int)*(e:Int))=((d*e:Nat):Int):=by rw[← Int.natCast_mul];exact iw_ _ ⟨Int.le_trans (by decide) (Int.natCast_nonneg _),Int.le_trans (Int.ofNat_le.2 q6) (by decide)⟩
     have Hof:Hid (∀ W,Below (((w.alloc (.cells #[.string (itx n),.string (dec d)] 101)).alloc (.cells #[.string (itx m),.string (dec e)] 101)).alloc (.cells #[.string ⟨#[]⟩,.string ⟨#[]⟩] 101)).heap.size (((w.alloc (.cells #[.string (itx n),.string (dec d)] 101)).alloc (.cells #[.string (itx m),.string (dec e)] 101)).alloc (.cells #[.string ⟨#[]⟩,.string ⟨#[]⟩] 101)) W→Kc Tryz.prog 260 #[.int .i64 (n*e+m*d),.int .i64 ((d*e:Nat):Int)] W (.agg #[.string rs,.string rt])):=fun W hW=>by
      have:=Zm5 W (n*e+m*d) (d*e) _ (by omega) (by omega) hde0 rfl (HL.out.below hW)
      unfold fv at this;rw[hrs,hrt] at this;exact this
     unfold fv at Hc1 Hc2 ⊢;clear Hm1 Hm2 Hm3 Hm4 Hm5 q1 q2 q3 q4 q5 q6 q7 h1 h2 hrs hrt hv hde0 hsum;go_enter Tryz.func207,Tryz.ntmps207;obtain⟨k0,k1,-,-⟩:=Ka H3.out.fa;obtain⟨k2,k3,-,-⟩:=Ka H3.out.fb
     go_wp2_with fail
     generalize ((w.alloc (.cells #[.string (itx n),.string (dec d)] 101)).alloc (.cells #[.string (itx m),.string (dec e)] 101)).alloc (.cells #[.string ⟨#[]⟩,.string ⟨#[]⟩] 101)=W0 at *
     clear k0 k1 k2 k3;refine cm_ (Hc1.out _) ?_;rintro e w1 ⟨rfl,hb1⟩;have Hb1:=hd_ hb1;clear hb1 Hc1;obtain⟨k0,k1,-,-⟩:=Ka (H3.out.next Hb1.out).fa;obtain⟨k2,k3,-,-⟩:=Ka (H3.out.next Hb1.out).fb
     go_wp2_with fail
     clear k0 k1 k2 k3;refine cm_ (Hc2.out _) ?_;rintro e w2 ⟨rfl,hb2⟩;have Hb2:=hd_ (Hb1.out.trans (hb2.mono Hb1.out.size));clear hb2 Hb1 Hc2
     go_wp2_with fail
     refine cm_ (Hof.out w2 Hb2.out) ?_;rintro e w3 ⟨rfl,hb3⟩;have Hb3:=hd_ (Hb2.out.trans (hb3.mono Hb2.out.size));clear hb3 Hb2 Hof;have H8:=hd_ (H3.out.next Hb3.out);clear H3 Hb3;obtain⟨k0,k1,f0,f1⟩:=Ka H8.out.fr;have Hbw:=hd_ H8.out.bel;clear H8;go_wp2;obtain⟨c0,c1,hb3⟩:=Qc (B:=w.heap.size) (.string rs) (.string rt) k0 k1 (by omega) Hbw.out
     generalize (w3.setCell ⟨w.heap.size+1+1,0,none⟩ (.string rs)).setCell ⟨w.heap.size+1+1,1,none⟩ (.string rt)=w9 at *
     exact bodyPost_ret (v := .agg #[.string rs,.string rt]) (by simp[results,Tryz.results207,go_sem,c0,c1]) rfl ⟨by rw[Hv.out],hb3⟩
    ·obtain⟨x,y,hc2⟩:=Zaq m e hm he h2;have Hc2:=hd_ hc2;unfold fv at Hc1 Hc2 ⊢;clear h1 h2 hrs hrt hv hde0 hc2 hsum;go_enter Tryz.func207,Tryz.ntmps207;obtain⟨k0,k1,-,-⟩:=Ka H3.out.fa;obtain⟨k2,k3,-,-⟩:=Ka H3.out.fb
     go_wp2_with fail
     generalize ((w.alloc (.cells #[.string (itx n),.string (dec d)] 101)).alloc (.cells #[.string (itx m),.string (dec e)] 101)).alloc (.cells #[.string ⟨#[]⟩,.string ⟨#[]⟩] 101)=W0 at *
     clear k0 k1 k2 k3;refine cm_ (Hc1.out _) ?_;rintro e w1 ⟨rfl,hb1⟩;have Hb1:=hd_ hb1;clear hb1 Hc1;obtain⟨k0,k1,-,-⟩:=Ka (H3.out.next Hb1.out).fa;obtain⟨k2,k3,-,-⟩:=Ka (H3.out.next Hb1.out).fb
     go_wp2_with fail
     clear k0 k1 k2 k3;refine cm_ (Hc2.out _) ?_;rintro e w2 ⟨rfl,hb2⟩;have Hb2:=hd_ (Hb1.out.trans (hb2.mono Hb1.out.size));clear hb2 Hb1 Hc2;obtain⟨k0,k1,-,-⟩:=Ka (H3.out.next Hb2.out).fa;obtain⟨k2,k3,-,-⟩:=Ka (H3.out.next Hb2.out).fb;have q0:=cell_regrown k0;have q1:=cell_regrown k1;have q2:=cell_regrown k2;have q3:=cell_regrown k3;have hM1:=Hm1.out w2 Hb2.out;have hM2:=Hm2.out w2 Hb2.out;have hM3:=Hm3.out w2 Hb2.out;have hM4:=Hm4.out w2 Hb2.out;have hM5:=Hm5.out w2 Hb2.out;clear k0 k1 k2 k3 Hm1 Hm2 Hm3 Hm4 Hm5
     go_wp2_with fail
     refine Kz 17 (by kernel_rfl) (by kernel_rfl) ?_
     simp only[List.take_succ_cons,List.take_zero,List.drop_succ_cons,List.drop_zero]
     repeat (first | go_big_quiet_step (first | with_reducible exact hM1 _ _ | with_reducible exact hM2 _ _ | with_reducible exact hM3 _ _ | with_reducible exact hM4 _ _ | with_reducible exact hM5 _ _) | quiet_step (first | with_reducible exact hM1 _ _ | with_reducible exact hM2 _ _ | with_reducible exact hM3 _ _ | with_reducible exact hM4 _ _ | with_reducible exact hM5 _ _))
     refine wpQuiet_nil ?_;intro w8 hw8;obtain⟨⟨dq,osq⟩,rfl⟩:=hw8;have hb8:=below_regrown w2 dq osq;have H8:=hd_ ((H3.out.next Hb2.out).next hb8);clear hb8 hM1 hM2 hM3 hM4 hM5 q0 q1 q2 q3 H3 Hb2;generalize Go.Sort.grow (redrawn w2 dq) osq=w8 at *
     obtain⟨k0,k1,f0,f1⟩:=Ka H8.out.fr;have Hbw:=hd_ H8.out.bel;clear H8;go_wp2;obtain⟨c0,c1,hb3⟩:=Qc (B:=w.heap.size) (.string rs) (.string rt) k0 k1 (by omega) Hbw.out
     generalize (w8.setCell ⟨w.heap.size+1+1,0,none⟩ (.string rs)).setCell ⟨w.heap.size+1+1,1,none⟩ (.string rt)=w9 at *
     exact bodyPost_ret (v := .agg #[.string rs,.string rt]) (by simp[results,Tryz.results207,go_sem,c0,c1]) rfl ⟨by rw[Hv.out],hb3⟩
   ·obtain⟨x,y,hc1⟩:=Zaq n d hn hd h1;have Hc1:=hd_ hc1;unfold fv at Hc1 ⊢;clear h1 hrs hrt hv hde0 hc1 hsum;go_enter Tryz.func207,Tryz.ntmps207;obtain⟨k0,k1,-,-⟩:=Ka H3.out.fa;obtain⟨k2,k3,-,-⟩:=Ka H3.out.fb
    go_wp2_with fail
    generalize ((w.alloc (.cells #[.string (itx n),.string (dec d)] 101)).alloc (.cells #[.string (itx m),.string (dec e)] 101)).alloc (.cells #[.string ⟨#[]⟩,.string ⟨#[]⟩] 101)=W0 at *
    clear k0 k1 k2 k3;refine cm_ (Hc1.out _) ?_;rintro e w1 ⟨rfl,hb1⟩;have Hb1:=hd_ hb1;clear hb1 Hc1;obtain⟨k0,k1,-,-⟩:=Ka (H3.out.next Hb1.out).fa;obtain⟨k2,k3,-,-⟩:=Ka (H3.out.next Hb1.out).fb;have q0:=cell_regrown k0;have q1:=cell_regrown k1;have q2:=cell_regrown k2;have q3:=cell_regrown k3;have hM1:=Hm1.out w1 Hb1.out;have hM2:=Hm2.out w1 Hb1.out;have hM3:=Hm3.out w1 Hb1.out;have hM4:=Hm4.out w1 Hb1.out;have hM5:=Hm5.out w1 Hb1.out;clear k0 k1 k2 k3 Hm1 Hm2 Hm3 Hm4 Hm5
    go_wp2_with fail
    refine Kz 17 (by kernel_rfl) (by kernel_rfl) ?_
    simp only[List.take_succ_cons,List.take_zero,List.drop_succ_cons,List.drop_zero]
    repeat (first | go_big_quiet_step (first | with_reducible exact hM1 _ _ | with_reducible exact hM2 _ _ | with_reducible exact hM3 _ _ | with_reducible exact hM4 _ _ | with_reducible exact hM5 _ _) | quiet_step (first | with_reducible exact hM1 _ _ | with_reducible exact hM2 _ _ | with_reducible exact hM3 _ _ | with_reducible exact hM4 _ _ | with_reducible exact hM5 _ _))
    refine wpQuiet_nil ?_;intro w8 hw8;obtain⟨⟨dq,osq⟩,rfl⟩:=hw8;have hb8:=below_regrown w1 dq osq;have H8:=hd_ ((H3.out.next Hb1.out).next hb8);clear hb8 hM1 hM2 hM3 hM4 hM5 q0 q1 q2 q3 H3 Hb1;generalize Go.Sort.grow (redrawn w1 dq) osq=w8 at *
    obtain⟨k0,k1,f0,f1⟩:=Ka H8.out.fr;have Hbw:=hd_ H8.out.bel;clear H8;go_wp2;obtain⟨c0,c1,hb3⟩:=Qc (B:=w.heap.size) (.string rs) (.string rt) k0 k1 (by omega) Hbw.out
    generalize (w8.setCell ⟨w.heap.size+1+1,0,none⟩ (.string rs)).setCell ⟨w.heap.size+1+1,1,none⟩ (.string rt)=w9 at *
    exact bodyPost_ret (v := .agg #[.string rs,.string rt]) (by simp[results,Tryz.results207,go_sem,c0,c1]) rfl ⟨by rw[Hv.out],hb3⟩
theorem Zi4(w:World)(n:Int)(d:Nat)(hn:Zdf n)(hd:Num d)(hd0:0<d)(L:Qx w):
  Kc Tryz.prog 139 #[fv n d] w (.int .i64 (if ((dec n.natAbs).size≤400∧(dec d).size≤400)∧Nat.gcd n.natAbs d=1 then 0 else 2)):=by
 unfold Kc fv;have Hb0:=hd_ ((Below.refl w.heap.size w).alloc nr_ (.cells #[.string (itx n),.string (dec d)] 101));have Hnew:Hid ((w.alloc (.cells #[.string (itx n),.string (dec d)] 101)).heap[w.heap.size]?=some (.cells #[.string (itx n),.string (dec d)] 101 (0,0))):=heap_alloc_new w _;have HL:=hd_ (L.below Hb0.out);have Hc1:=hd_ (fun W=>Zfn W n hn)
 have Hc2:Hid (∀ W,Kc Tryz.prog 218 #[.string (dec d)] W (.int .i64 (if (dec d).size≤400 then 0 else 2))):=fun W=>by
  have:=Zfn W (d:Int) (show Num _ from hd)
  rw[Ki] at this;exact this
 have Hsg:Hid (∀ W,Kc Tryz.prog 59 #[.string (dec d)] W (.int .i64 1)):=fun W=>by
  have:=Zah W (d:Int)
  rw[Ki,Zjn hd0] at this;exact this
 have Hgc:Hid (∀ W,Below (w.alloc (.cells #[.string (itx n),.string (dec d)] 101)).heap.size (w.alloc (.cells #[.string (itx n),.string (dec d)] 101)) W→Kc Tryz.prog 219 #[.string (itx n),.string (dec d)] W (.string (dec (Nat.gcd n.natAbs d)))):=fun W hW=>by
  have:=Zox W n (d:Int) hn (show Num _ from hd) (HL.out.below hW)
  rw[Ki] at this;exact this
 have ho:=Zlp (Nat.gcd n.natAbs d);clear L HL hn hd hd0
 by_cases h1:(dec n.natAbs).size≤400
 ·rw[if_pos h1] at Hc1
  by_cases h2:(dec d).size≤400
  ·rw[if_pos h2] at Hc2
   by_cases h3:Nat.gcd n.natAbs d=1
   ·rw[if_pos ⟨⟨h1,h2⟩,h3⟩];rw[decide_eq_true h3] at ho;clear h1 h2 h3;generalize dec (Nat.gcd n.natAbs d)=u at *
    go_enter Tryz.func139,Tryz.ntmps139;obtain⟨k0,k1,-,-⟩:=Ka Hnew.out
    go_wp2_with fail
    generalize w.alloc (.cells #[.string (itx n),.string (dec d)] 101)=W0 at *
    clear k0 k1;refine cm_ (Hc1.out _) ?_;rintro e w1 ⟨rfl,hb1⟩;have Hb1:=hd_ hb1;clear hb1 Hc1;obtain⟨k0,k1,-,-⟩:=Ka (Kh Hnew.out Hb1.out)
    go_wp2_with fail
    clear k0 k1;refine cm_ (Hc2.out _) ?_;rintro e w2 ⟨rfl,hb2⟩;have Hb2:=hd_ (Hb1.out.trans (hb2.mono Hb1.out.size));clear hb2 Hb1 Hc2;obtain⟨k0,k1,-,-⟩:=Ka (Kh Hnew.out Hb2.out)
    go_wp2_with fail
    clear k0 k1;refine cm_ (Hsg.out _) ?_;rintro e w3 ⟨rfl,hb3⟩;have Hb3:=hd_ (Hb2.out.trans (hb3.mono Hb2.out.size));clear hb3 Hb2 Hsg;obtain⟨k0,k1,-,-⟩:=Ka (Kh Hnew.out Hb3.out)
    go_wp2_with fail
    clear k0 k1;refine cm_ (Hgc.out _ Hb3.out) ?_;rintro e w4 ⟨rfl,hb4⟩;have Hb4:=hd_ (Hb3.out.trans (hb4.mono Hb3.out.size));clear hb4 Hb3 Hgc;have Hbw:=hd_ (Hb0.out.trans (Hb4.out.mono Hb0.out.size));obtain⟨k0,k1,-,-⟩:=Ka (Kh Hnew.out Hb4.out);go_wp2;go_ret;exact⟨rfl,Hbw.out⟩
   ·rw[if_neg (fun h=>h3 h.2)]
    rw[decide_eq_false h3] at ho;clear h1 h2 h3;generalize dec (Nat.gcd n.natAbs d)=u at *
    go_enter Tryz.func139,Tryz.ntmps139;obtain⟨k0,k1,-,-⟩:=Ka Hnew.out
    go_wp2_with fail
    generalize w.alloc (.cells #[.string (itx n),.string (dec d)] 101)=W0 at *
    clear k0 k1;refine cm_ (Hc1.out _) ?_;rintro e w1 ⟨rfl,hb1⟩;have Hb1:=hd_ hb1;clear hb1 Hc1;obtain⟨k0,k1,-,-⟩:=Ka (Kh Hnew.out Hb1.out)
    go_wp2_with fail
    clear k0 k1;refine cm_ (Hc2.out _) ?_;rintro e w2 ⟨rfl,hb2⟩;have Hb2:=hd_ (Hb1.out.trans (hb2.mono Hb1.out.size));clear hb2 Hb1 Hc2;obtain⟨k0,k1,-,-⟩:=Ka (Kh Hnew.out Hb2.out)
    go_wp2_with fail
    clear k0 k1;refine cm_ (Hsg.out _) ?_;rintro e w3 ⟨rfl,hb3⟩;have Hb3:=hd_ (Hb2.out.trans (hb3.mono Hb2.out.size));clear hb3 Hb2 Hsg;obtain⟨k0,k1,-,-⟩:=Ka (Kh Hnew.out Hb3.out)
    go_wp2_with fail
    clear k0 k1;refine cm_ (Hgc.out _ Hb3.out) ?_;rintro e w4 ⟨rfl,hb4⟩;have Hb4:=hd_ (Hb3.out.trans (hb4.mono Hb3.out.size));clear hb4 Hb3 Hgc;have Hbw:=hd_ (Hb0.out.trans (Hb4.out.mono Hb0.out.size));obtain⟨k0,k1,-,-⟩:=Ka (Kh Hnew.out Hb4.out);go_wp2;go_ret;exact⟨rfl,Hbw.out⟩
  ·rw[if_neg h2] at Hc2;rw[if_neg (fun h=>h2 h.1.2)]
   clear h1 h2 Hgc ho;go_enter Tryz.func139,Tryz.ntmps139;obtain⟨k0,k1,-,-⟩:=Ka Hnew.out
   go_wp2_with fail
   generalize w.alloc (.cells #[.string (itx n),.string (dec d)] 101)=W0 at *
   clear k0 k1;refine cm_ (Hc1.out _) ?_;rintro e w1 ⟨rfl,hb1⟩;have Hb1:=hd_ hb1;clear hb1 Hc1;obtain⟨k0,k1,-,-⟩:=Ka (Kh Hnew.out Hb1.out)
   go_wp2_with fail
   clear k0 k1;refine cm_ (Hc2.out _) ?_;rintro e w2 ⟨rfl,hb2⟩;have Hb2:=hd_ (Hb1.out.trans (hb2.mono Hb1.out.size));clear hb2 Hb1 Hc2;have Hbw:=hd_ (Hb0.out.trans (Hb2.out.mono Hb0.out.size));obtain⟨k0,k1,-,-⟩:=Ka (Kh Hnew.out Hb2.out);go_wp2;go_ret;exact⟨rfl,Hbw.out⟩
 ·rw[if_neg h1] at Hc1;rw[if_neg (fun h=>h1 h.1.1)]
  clear h1 Hgc ho Hc2;go_enter Tryz.func139,Tryz.ntmps139;obtain⟨k0,k1,-,-⟩:=Ka Hnew.out
  go_wp2_with fail
  generalize w.alloc (.cells #[.string (itx n),.string (dec d)] 101)=W0 at *
  clear k0 k1;refine cm_ (Hc1.out _) ?_;rintro e w1 ⟨rfl,hb1⟩;have Hb1:=hd_ hb1;clear hb1 Hc1;have Hbw:=hd_ (Hb0.out.trans (Hb1.out.mono Hb0.out.size));obtain⟨k0,k1,-,-⟩:=Ka (Kh Hnew.out Hb1.out);go_wp2;go_ret;exact⟨rfl,Hbw.out⟩
theorem Zva(w:World)(n:Int)(d:Nat)(hn:Zdf n)(hd:Num d)(hd0:0<d)(hn1:Num (n.natAbs+1))(hd1:Num (d+1))(L:Qx w):
  Kc Tryz.prog 204 #[.string (itx n),.string (dec d)] w (.tuple #[Zk6 n d,.int .i64 0]):=by
 obtain⟨rs,hrs⟩:∃ rs,itx (n/((Nat.gcd n.natAbs d:Nat):Int))=rs:=⟨_,rfl⟩;obtain⟨rt,hrt⟩:∃ rt,dec (d/Nat.gcd n.natAbs d)=rt:=⟨_,rfl⟩;have hv:Zk6 n d = .agg #[.string rs,.string rt]:=by unfold Zk6 fv;rw[hrs,hrt]
 have Hv:=hd_ hv;unfold Kc;have Hb0:=hd_ ((Below.refl w.heap.size w).alloc nr_ (.cells #[.string ⟨#[]⟩,.string ⟨#[]⟩] 101));have Hnew:Hid ((w.alloc (.cells #[.string ⟨#[]⟩,.string ⟨#[]⟩] 101)).heap[w.heap.size]?=some (.cells #[.string ⟨#[]⟩,.string ⟨#[]⟩] 101 (0,0))):=heap_alloc_new w _;have HL:=hd_ (L.below Hb0.out);clear L;have Hsg:Hid (∀ W,Kc Tryz.prog 59 #[.string (dec d)] W (.int .i64 1)):=fun W=>by
  have:=Zah W (d:Int)
  rw[Ki,Zjn hd0] at this;exact this
 have Hlo:Hid (∀ W,Below (w.alloc (.cells #[.string ⟨#[]⟩,.string ⟨#[]⟩] 101)).heap.size (w.alloc (.cells #[.string ⟨#[]⟩,.string ⟨#[]⟩] 101)) W→Kc Tryz.prog 258 #[.string (itx n),.string (dec d)] W (.agg #[.string rs,.string rt])):=fun W hW=>by
  have:=Zdo W n d _ hn hd hd0 hn1 hd1 rfl (HL.out.below hW)
  unfold fv at this;rw[hrs,hrt] at this;exact this
 clear hrs hrt hv;go_enter Tryz.func204,Tryz.ntmps204
 go_wp2_with fail
 generalize w.alloc (.cells #[.string ⟨#[]⟩,.string ⟨#[]⟩] 101)=W0 at *
 refine cm_ (Hsg.out _) ?_;rintro e w1 ⟨rfl,hb1⟩;have Hb1:=hd_ hb1;clear hb1 Hsg
 go_wp2_with fail
 refine cm_ (Hlo.out _ Hb1.out) ?_;rintro e w2 ⟨rfl,hb2⟩;have Hb2:=hd_ (Hb1.out.trans (hb2.mono Hb1.out.size));clear hb2 Hb1 Hlo;have Hcell:=hd_ (Kh Hnew.out Hb2.out);have Hbw:=hd_ (Hb0.out.trans (Hb2.out.mono Hb0.out.size));obtain⟨k0,k1,f0,f1⟩:=Ka Hcell.out;clear Hb2 Hb0 Hcell Hnew HL;go_wp2;obtain⟨c0,c1,hb3⟩:=Qc (.string rs) (.string rt) k0 k1 nr_ Hbw.out;generalize (w2.setCell ⟨w.heap.size,0,none⟩ (.string rs)).setCell ⟨w.heap.size,1,none⟩ (.string rt)=w9 at *
 exact bodyPost_ret (v := .tuple #[.agg #[.string rs,.string rt],.int .i64 0]) (by simp[results,Tryz.results204,go_sem,c0,c1]) rfl ⟨by rw[Hv.out],hb3⟩
theorem Zu6(w:World)(n:Int)(d:Nat)(q1 : -9223372036854775808≤n)(q2:n≤9223372036854775807)(q3:d≤9223372036854775807)(hn:Zdf n)(hd:Num d)(hd0:0<d)(hn1:Num (n.natAbs+1))(hd1:Num (d+1))(L:Qx w):
  Kc Tryz.prog 126 #[.int .i64 n,.int .i64 d] w (.tuple #[Zk6 n d,.int .i64 0]):=by
 obtain⟨rs,hrs⟩:∃ rs,itx (n/((Nat.gcd n.natAbs d:Nat):Int))=rs:=⟨_,rfl⟩;obtain⟨rt,hrt⟩:∃ rt,dec (d/Nat.gcd n.natAbs d)=rt:=⟨_,rfl⟩;have hv:Zk6 n d = .agg #[.string rs,.string rt]:=by unfold Zk6 fv;rw[hrs,hrt]
 have Hv:=hd_ hv;unfold Kc;have Hb0:=hd_ ((Below.refl w.heap.size w).alloc nr_ (.cells #[.string ⟨#[]⟩,.string ⟨#[]⟩] 101));have Hnew:Hid ((w.alloc (.cells #[.string ⟨#[]⟩,.string ⟨#[]⟩] 101)).heap[w.heap.size]?=some (.cells #[.string ⟨#[]⟩,.string ⟨#[]⟩] 101 (0,0))):=heap_alloc_new w _;have HL:=hd_ (L.below Hb0.out);clear L;have Ho1:Hid (∀ W,Below (w.alloc (.cells #[.string ⟨#[]⟩,.string ⟨#[]⟩] 101)).heap.size (w.alloc (.cells #[.string ⟨#[]⟩,.string ⟨#[]⟩] 101)) W→Kc Tryz.prog 13 #[.int .i64 n] W (.string (itx n))):=fun W hW=>Zb6 W n q1 q2 (HL.out.below hW)
 have Ho2:Hid (∀ W,Below (w.alloc (.cells #[.string ⟨#[]⟩,.string ⟨#[]⟩] 101)).heap.size (w.alloc (.cells #[.string ⟨#[]⟩,.string ⟨#[]⟩] 101)) W→Kc Tryz.prog 13 #[.int .i64 d] W (.string (dec d))):=fun W hW=>by
  have:=Zb6 W (d:Int) (by omega) (by omega) (HL.out.below hW)
  rw[Ki] at this;exact this
 have Hne:Hid (∀ W,Below (w.alloc (.cells #[.string ⟨#[]⟩,.string ⟨#[]⟩] 101)).heap.size (w.alloc (.cells #[.string ⟨#[]⟩,.string ⟨#[]⟩] 101)) W→Kc Tryz.prog 204 #[.string (itx n),.string (dec d)] W (.tuple #[.agg #[.string rs,.string rt],.int .i64 0])):=fun W hW=>by
  have:=Zva W n d hn hd hd0 hn1 hd1 (HL.out.below hW)
  rw[hv] at this;exact this
 clear hrs hrt hv;go_enter Tryz.func126,Tryz.ntmps126
 go_wp2_with fail
 generalize w.alloc (.cells #[.string ⟨#[]⟩,.string ⟨#[]⟩] 101)=W0 at *
 refine cm_ (Ho1.out _ (Below.refl _ _)) ?_;rintro e w1 ⟨rfl,hb1⟩;have Hb1:=hd_ hb1;clear hb1 Ho1
 go_wp2_with fail
 refine cm_ (Ho2.out _ Hb1.out) ?_;rintro e w2 ⟨rfl,hb2⟩;have Hb2:=hd_ (Hb1.out.trans (hb2.mono Hb1.out.size));clear hb2 Hb1 Ho2
 go_wp2_with fail
 refine cm_ (Hne.out _ Hb2.out) ?_;rintro e w3 ⟨rfl,hb3⟩;have Hb3:=hd_ (Hb2.out.trans (hb3.mono Hb2.out.size));clear hb3 Hb2 Hne;have Hcell:=hd_ (Kh Hnew.out Hb3.out);have Hbw:=hd_ (Hb0.out.trans (Hb3.out.mono Hb0.out.size));obtain⟨k0,k1,f0,f1⟩:=Ka Hcell.out;clear Hb3 Hb0 Hcell Hnew HL;go_wp2;obtain⟨c0,c1,hb3⟩:=Qc (.string rs) (.string rt) k0 k1 nr_ Hbw.out;generalize (w3.setCell ⟨w.heap.size,0,none⟩ (.string rs)).setCell ⟨w.heap.size,1,none⟩ (.string rt)=w9 at *
 exact bodyPost_ret (v := .tuple #[.agg #[.string rs,.string rt],.int .i64 0]) (by simp[results,Tryz.results126,go_sem,c0,c1]) rfl ⟨by rw[Hv.out],hb3⟩
theorem Zbn(w:World)(z:Int)(q1 : -9223372036854775808≤z)(q2:z≤9223372036854775807)(L:Qx w):
  Kc Tryz.prog 58 #[.int .i64 z] w (fv z 1):=by
 obtain⟨rs,hrs⟩:∃ rs,itx z=rs:=⟨_,rfl⟩;have hv:fv z 1 = .agg #[.string rs,.string ⟨#[49]⟩]:=by unfold fv;rw[hrs,Zcf]
 have Hv:=hd_ hv;unfold Kc;have Hb0:=hd_ ((Below.refl w.heap.size w).alloc nr_ (.cells #[.string ⟨#[]⟩,.string ⟨#[]⟩] 101));have Hnew:Hid ((w.alloc (.cells #[.string ⟨#[]⟩,.string ⟨#[]⟩] 101)).heap[w.heap.size]?=some (.cells #[.string ⟨#[]⟩,.string ⟨#[]⟩] 101 (0,0))):=heap_alloc_new w _;have HL:=hd_ (L.below Hb0.out);clear L;have Ho1:Hid (∀ W,Below (w.alloc (.cells #[.string ⟨#[]⟩,.string ⟨#[]⟩] 101)).heap.size (w.alloc (.cells #[.string ⟨#[]⟩,.string ⟨#[]⟩] 101)) W→Kc Tryz.prog 13 #[.int .i64 z] W (.string rs)):=fun W hW=>by
  have:=Zb6 W z q1 q2 (HL.out.below hW)
  rw[hrs] at this;exact this
 clear hrs hv;go_enter Tryz.func58,Tryz.ntmps58
 go_wp2_with fail
 generalize w.alloc (.cells #[.string ⟨#[]⟩,.string ⟨#[]⟩] 101)=W0 at *
 refine cm_ (Ho1.out _ (Below.refl _ _)) ?_;rintro e w1 ⟨rfl,hb1⟩;have Hb1:=hd_ hb1;clear hb1 Ho1;have Hcell:=hd_ (Kh Hnew.out Hb1.out);have Hbw:=hd_ (Hb0.out.trans (Hb1.out.mono Hb0.out.size));obtain⟨k0,k1,f0,f1⟩:=Ka Hcell.out;clear Hb1 Hb0 Hcell Hnew HL;go_wp2;obtain⟨c0,c1,hb3⟩:=Qc (.string rs) (.string ⟨#[49]⟩) k0 k1 nr_ Hbw.out;generalize (w1.setCell ⟨w.heap.size,0,none⟩ (.string rs)).setCell ⟨w.heap.size,1,none⟩ (.string ⟨#[49]⟩)=w9 at *
 exact bodyPost_ret (v := .agg #[.string rs,.string ⟨#[49]⟩]) (by simp[results,Tryz.results58,go_sem,c0,c1]) rfl ⟨by rw[Hv.out],hb3⟩
theorem Zr6(w:World)(n:Int)(d:Nat):
  Kc Tryz.prog 161 #[fv n d] w (.bool (decide ((dec n.natAbs).size≤30∧(dec d).size≤30))):=by
 unfold Kc fv;have Hb0:=hd_ ((Below.refl w.heap.size w).alloc nr_ (.cells #[.string (itx n),.string (dec d)] 101));have Hnew:Hid ((w.alloc (.cells #[.string (itx n),.string (dec d)] 101)).heap[w.heap.size]?=some (.cells #[.string (itx n),.string (dec d)] 101 (0,0))):=heap_alloc_new w _;have Hab:=hd_ (fun W=>Zhw W n)
 by_cases h1:(dec n.natAbs).size≤30
 ·have h1':((dec n.natAbs).size:Int)≤30:=by omega
  by_cases h2:(dec d).size≤30
  ·have h2':((dec d).size:Int)≤30:=by omega
   rw[decide_eq_true (show _∧_ from ⟨h1,h2⟩)]
   clear h1 h2;go_enter Tryz.func161,Tryz.ntmps161;obtain⟨k0,k1,-,-⟩:=Ka Hnew.out
   go_wp2_with fail
   generalize w.alloc (.cells #[.string (itx n),.string (dec d)] 101)=W0 at *
   clear k0 k1;refine cm_ (Hab.out _) ?_;rintro e w1 ⟨rfl,hb1⟩;have Hb1:=hd_ hb1;clear hb1 Hab;have Hbw:=hd_ (Hb0.out.trans (Hb1.out.mono Hb0.out.size));obtain⟨k0,k1,-,-⟩:=Ka (Kh Hnew.out Hb1.out);go_wp2;go_ret;exact⟨rfl,Hbw.out⟩
  ·have h2':¬ ((dec d).size:Int)≤30:=by omega
   have H2d:=hd_ (decide_eq_false h2');rw[decide_eq_false (fun h:_∧_=>h2 h.2)]
   clear h1 h2;go_enter Tryz.func161,Tryz.ntmps161;obtain⟨k0,k1,-,-⟩:=Ka Hnew.out
   go_wp2_with fail
   generalize w.alloc (.cells #[.string (itx n),.string (dec d)] 101)=W0 at *
   clear k0 k1;refine cm_ (Hab.out _) ?_;rintro e w1 ⟨rfl,hb1⟩;have Hb1:=hd_ hb1;clear hb1 Hab;have Hbw:=hd_ (Hb0.out.trans (Hb1.out.mono Hb0.out.size));obtain⟨k0,k1,-,-⟩:=Ka (Kh Hnew.out Hb1.out);go_wp2;go_ret;exact⟨by rw[H2d.out];rfl,Hbw.out⟩
 ·have h1':¬ ((dec n.natAbs).size:Int)≤30:=by omega
  rw[decide_eq_false (fun h:_∧_=>h1 h.1)]
  clear h1;go_enter Tryz.func161,Tryz.ntmps161;obtain⟨k0,k1,-,-⟩:=Ka Hnew.out
  go_wp2_with fail
  generalize w.alloc (.cells #[.string (itx n),.string (dec d)] 101)=W0 at *
  clear k0 k1;refine cm_ (Hab.out _) ?_;rintro e w1 ⟨rfl,hb1⟩;have Hb1:=hd_ hb1;clear hb1 Hab;have Hbw:=hd_ (Hb0.out.trans (Hb1.out.mono Hb0.out.size));obtain⟨k0,k1,-,-⟩:=Ka (Kh Hnew.out Hb1.out);go_wp2;go_ret;exact⟨rfl,Hbw.out⟩
def IsP (n:Nat):Prop:=2≤n∧n≤97∧∀ j,j<10→2≤j→j*j≤n→n%j≠0
instance (n:Nat):Decidable (IsP n):=by unfold IsP;infer_instance
theorem Zne(w:World)(n:Nat)(hn:n≤9223372036854775807):
  Kc Tryz.prog 160 #[.int .i64 n] w (.bool (decide (IsP n))):=by
 unfold Kc
 by_cases h2:2≤n
 ·by_cases h97:n≤97
  ·have h2':¬ (n:Int)<2:=by omega
   have h97':¬ (97:Int)<n:=by omega
   have H2:=hd_ h2;go_enter Tryz.func160,Tryz.ntmps160
   go_wp2_with fail
   go_loopw [3] (fun i wr=>∃ k:Nat,2≤k∧k≤10∧i = .int .i64 k∧Hid (∀ j,2≤j→j<k→j*j≤n→n%j≠0)∧Hid (Below w.heap.size w wr)) (fun i _=>10-(intOf i).toNat)
   case atStart=>exact⟨2,by omega,by omega,rfl,fun j h1 h2=>by omega,Below.refl _ _⟩
   case round =>
    obtain⟨k,hk,hk10,rfl,Hj,Hb⟩:=hrel;have hkk:k*k≤100:=Nat.mul_le_mul hk10 hk10;have hwr:IntKind.i64.wrap ((k:Int)*(k:Int))=((k*k:Nat):Int):=by rw[← Int.natCast_mul];exact iw_ _ (by omega)
    by_cases hle:k*k≤n
    ·have hle':((k*k:Nat):Int)≤n:=by omega
     have hlt10:k<10:=by
      rcases Nat.lt_or_ge k 10 with h|h
      ·exact h
      ·have:k=10:=by omega
       subst this;omega
     have hkz:((k:Int)==0)=false:=by rw[beq_eq_false_iff_ne];omega
     have htm:Int.tmod (n:Int) (k:Int)=((n%k:Nat):Int):=by rw[← Int.ofNat_tmod]
     have hml:=Nat.mod_lt n (show 0<k by omega)
     have Hle:=hd_ hle
     by_cases hz:n%k=0
     ·have Hv:Hid (decide (IsP n)=false):=by
       show _=_
       rw[decide_eq_false_iff_not];exact fun h=>h.2.2 k hlt10 hk hle hz
      rw[hz] at htm;rw[show ((0:Nat):Int)=0 from rfl] at htm
      have hw0:IntKind.i64.wrap 0=0:=iw_ _ (by omega)
      clear hz hle hml hkk;generalize k*k=q at *
      go_wp2;go_ret;exact⟨by rw[Hv.out];rfl,Hb.out⟩
     ·have Hj2:Hid (∀ j,2≤j→j<k+1→j*j≤n→n%j≠0):=fun j h1 h2 h3=>by
       rcases Nat.lt_or_ge j k with h|h
       ·exact Hj.out j h1 h h3
       ·have:j=k:=by omega
        subst this;exact hz
      have hw1:IntKind.i64.wrap ((n%k:Nat):Int)=((n%k:Nat):Int):=iw_ _ (by omega)
      have hne:(((n%k:Nat):Int)==0)=false:=by rw[beq_eq_false_iff_ne];omega
      clear hz hle hkk;generalize n%k=r at *
      generalize k*k=q at *
      go_wp2
      go_roundw
      case rel=>exact⟨k+1,by omega,by omega,by go_num,Hj2,Hb⟩
      case measure=>simp[intOf];omega
    ·have hle':¬ ((k*k:Nat):Int)≤n:=by omega
     have Hv:Hid (decide (IsP n)=true):=by
      show _=_
      rw[decide_eq_true_eq];refine⟨H2.out,h97,fun j h2 h1 h3=>?_⟩
      rcases Nat.lt_or_ge j k with h|h
      ·exact Hj.out j h1 h h3
      ·have:=Nat.mul_le_mul h h;omega
     clear hle hkk;generalize k*k=q at *
     go_wp2;go_ret;exact⟨by rw[Hv.out];rfl,Hb.out⟩
  ·have Hv:Hid (decide (IsP n)=false):=by
    show _=_
    rw[decide_eq_false_iff_not];exact fun h=>h97 h.2.1
   have h97':(97:Int)<n:=by omega
   have h2':¬ (n:Int)<2:=by omega
   go_enter Tryz.func160,Tryz.ntmps160;go_wp2;go_ret;exact⟨by rw[Hv.out];rfl,Below.refl _ _⟩
 ·have Hv:Hid (decide (IsP n)=false):=by
   show _=_
   rw[decide_eq_false_iff_not];exact fun h=>h2 h.1
  have h2':(n:Int)<2:=by omega
  go_enter Tryz.func160,Tryz.ntmps160;go_wp2;go_ret;exact⟨by rw[Hv.out];rfl,Below.refl _ _⟩
def Rd (w:World) (a:Option Addr) (vs:List Value):Prop :=
 vs=[]∨∃ b off,a=some ⟨b,off,none⟩∧b<w.heap.size∧∀ i v,vs[i]?=some v→w.cell? ⟨b,off+i,none⟩=some v
theorem Rd.below{w w':World}{a:Option Addr}{vs:List Value}{B:Nat}(h:Rd w a vs)(hb:Below B w w')(hB:w.heap.size≤B):Rd w' a vs:=by
 rcases h with h|⟨b,off,h1,h2,h3⟩
 ·exact .inl h
 ·exact .inr ⟨b,off,h1,Nat.lt_of_lt_of_le h2 hb.size,fun i v hi=>by rw[hb.cell (p:=⟨b,off+i,none⟩) (by show b<B;omega)];exact h3 i v hi⟩
theorem Rd.kept{w w':World}{a:Option Addr}{vs:List Value}(h:Rd w a vs)(hb:Below w.heap.size w w'):Rd w' a vs:=h.below hb nr_
theorem Rd.open{w:World}{a:Option Addr}{vs:List Value}(h:Rd w a vs)(h0:0<vs.length):
  ∃ b off,a=some ⟨b,off,none⟩∧b<w.heap.size∧∀ i v,vs[i]?=some v→w.cell? ⟨b,off+i,none⟩=some v:=by
 rcases h with h|h
 ·subst h;simp at h0
 ·exact h
theorem Rd.nil(w:World)(a:Option Addr):Rd w a [] := .inl rfl
def Zxe (n:Int):Prop:=0≤n∧IsP n.toNat
instance (n:Int):Decidable (Zxe n):=by unfold Zxe;infer_instance
theorem Zlq(w:World)(n:Int)(h0 : -9223372036854775808≤n)(h1:n≤9223372036854775807):
  Kc Tryz.prog 160 #[.int .i64 n] w (.bool (decide (Zxe n))):=by
 by_cases hn:0≤n
 ·obtain⟨m,rfl⟩:=Int.eq_ofNat_of_zero_le hn;have:=Zne w m (by omega)
  have e:decide (Zxe (m:Int))=decide (IsP m):=by
   rw[decide_eq_decide];unfold Zxe;simp
  rw[e];exact this
 ·have e:decide (Zxe n)=false:=decide_eq_false (fun h=>hn h.1)
  rw[e];have h2':n<2:=by omega
  unfold Kc;go_enter Tryz.func160,Tryz.ntmps160;go_wp2;go_ret;exact⟨rfl,Below.refl _ _⟩
def pgo:Option Int→List Int→Int
 | _,[]=>0
 | prev,n::l=>if ¬ Zxe n then 25 else if prev.any (fun m=>decide (n≤m))=true then 6 else pgo (some n) l
def Zom (ps:List Int):Nat→Option Int
 | 0=>none
 | m+1=>ps[m]?
def Qv (ps:List Int):Int:=if ps.length=0 then 13 else if 6<ps.length then 4 else pgo none ps
def Zf3 (l:List Int):Prop:=∀ x∈l,-9223372036854775808≤x∧x≤9223372036854775807
theorem Zf3.get{l:List Int}(h:Zf3 l)(k:Nat)(hk:k<l.length): -9223372036854775808≤l[k]∧l[k]≤9223372036854775807:=h _ (List.getElem_mem hk)
theorem Zq(w:World)(a:Option Addr)(c:Nat)(ps:List Int)(hr:Rd w a (Qw ps))(hi:Zf3 ps)(hl:ps.length≤1000000):
  Kc Tryz.prog 76 #[.slice a ps.length c] w (.int .i64 (Qv ps)):=by
 unfold Kc;have Hr:=hd_ hr;have Hi:=hd_ hi;have Hp:=hd_ (fun W (z:Int) q1 q2=>Zlq W z q1 q2)
 clear hr hi
 by_cases h0:ps.length=0
 ·have hv:Qv ps=13:=by unfold Qv;rw[if_pos h0]
  rw[hv,h0];go_enter Tryz.func76,Tryz.ntmps76;go_wp2;go_ret;exact⟨rfl,Below.refl _ _⟩
 by_cases h6:6<ps.length
 ·have hv:Qv ps=4:=by unfold Qv;rw[if_neg h0,if_pos h6]
  rw[hv];have h0':((ps.length:Int)==0)=false:=by rw[beq_eq_false_iff_ne];omega
  have h6':(6:Int)<ps.length:=by omega
  clear hv;generalize ps.length=n at *
  go_enter Tryz.func76,Tryz.ntmps76;go_wp2;go_ret;exact⟨rfl,Below.refl _ _⟩
 have Hv:Hid (Qv ps=pgo none ps):=by
  show _=_
  unfold Qv;rw[if_neg h0,if_neg h6]
 have h0':((ps.length:Int)==0)=false:=by rw[beq_eq_false_iff_ne];omega
 have h6':¬ (6:Int)<ps.length:=by omega
 obtain⟨b,off,rfl,hb,hcells⟩:=Hr.out.open (by rw[Qm];omega)
 have Hcells:Hid (∀ k,k<ps.length→w.cell? ⟨b,off+k,none⟩=some (.int .i64 (ps.getD k 0))):=fun k hk=>by
  rw[List.getD_eq_getElem?_getD,List.getElem?_eq_getElem hk];exact hcells k _ (Vl ps k hk)
 clear hcells Hr;generalize hn:ps.length=n at *
 have Hn:=hd_ hn;clear hn;go_enter Tryz.func76,Tryz.ntmps76
 go_wp2_with fail
 go_loopw [15] (fun i wr=>∃ k:Nat,k≤n∧i = .int .i64 k∧Hid (pgo none ps=pgo (Zom ps k) (ps.drop k))∧Hid (Below w.heap.size w wr)) (fun i _=>n-(intOf i).toNat)
 case atStart=>exact⟨0,Nat.zero_le _,rfl,rfl,Below.refl _ _⟩
 case round =>
  obtain⟨k,hk,rfl,Hg,Hb⟩:=hrel
  by_cases hlt:k<n
  ·have hlt':(k:Int)<n:=by omega
   have hkl:k<ps.length:=by rw[Hn.out];exact hlt
   have cx:wr.cell? ⟨b,off+k,none⟩=some (.int .i64 (ps.getD k 0)):=by
    rw[Hb.out.cell (p:=⟨b,off+k,none⟩) hb];exact Hcells.out k hlt
   have hd:ps.drop k=ps[k]::ps.drop (k+1):=List.drop_eq_getElem_cons hkl;have Hd:=hd_ hd;have hgk:ps.getD k 0=ps[k]:=by rw[List.getD_eq_getElem?_getD,List.getElem?_eq_getElem hkl];rfl
   rw[hgk] at cx;clear hgk;have hz:=Hi.out.get k hkl;obtain⟨z,hzz⟩:∃ z,ps[k]=z:=⟨_,rfl⟩;have Hzz:=hd_ hzz;rw[hzz] at cx hz;have hpz:=Hp.out wr z hz.1 hz.2;clear hd hzz
   by_cases hp:Zxe z
   ·rw[decide_eq_true hp] at hpz
    by_cases hk0:k=0
    ·subst hk0;rw[Nat.add_zero] at cx;have hk1:¬ (0:Int)<0:=by omega
     go_wp2_with fail
     refine cm_ hpz ?_;rintro e w1 ⟨rfl,hb1⟩;have Hb1:=hd_ (Hb.out.trans (hb1.mono Hb.out.size));clear hb1 hpz Hb;go_wp2
     go_roundw
     case rel =>
      refine⟨1,by omega,by go_num,?_,Hb1⟩
      show _=_
      rw[Hg.out,Hd.out];simp only[pgo,Zom,Hzz.out];rw[if_neg (fun h=>h hp),if_neg (by simp)]
      have:ps[0]?=some z:=by rw[List.getElem?_eq_getElem hkl,Hzz.out]
      rw[this]
     case measure=>simp[intOf];omega
    ·obtain⟨m,rfl⟩:∃ m,k=m+1:=⟨k-1,by omega⟩
     have hk1:(0:Int)<((m+1:Nat):Int):=by omega
     have hml:m<ps.length:=by omega
     have hw1:IntKind.i64.wrap (((m+1:Nat):Int)-1)=(m:Int):=by
      rw[show ((m+1:Nat):Int)-1=(m:Int) by omega];exact iw_ _ (by omega)
     obtain⟨y,hyy⟩:∃ y,ps[m]=y:=⟨_,rfl⟩;have Hyy:=hd_ hyy;have Hcy:Hid (w.cell? ⟨b,off+m,none⟩=some (.int .i64 y)):=by
      show _=_
      rw[Hcells.out m (by omega),← hyy,List.getD_eq_getElem?_getD,List.getElem?_eq_getElem hml];rfl
     have Hgo:Hid (pgo none ps=if z≤y then 6 else pgo (some z) (ps.drop (m+1+1))):=by
      show _=_
      rw[Hg.out,Hd.out];have:ps[m]?=some y:=by rw[List.getElem?_eq_getElem hml,hyy]
      simp only[pgo,Zom,Hzz.out,this,Option.any_some,decide_eq_true_eq];rw[if_neg (fun h=>h hp)]
     have hm0:0≤(m:Int):=by omega
     have hmn:(m:Int)<n:=by omega
     clear hyy Hg
     go_wp2_with fail
     refine cm_ hpz ?_;rintro e w1 ⟨rfl,hb1⟩;have Hb1:=hd_ (Hb.out.trans (hb1.mono Hb.out.size));clear hb1 hpz Hb cx;have cy:w1.cell? ⟨b,off+m,none⟩=some (.int .i64 y):=by
      rw[Hb1.out.cell (p:=⟨b,off+m,none⟩) hb];exact Hcy.out
     by_cases hzy:z≤y
     ·have Hvv:Hid (Qv ps=6):=by
       show _=_
       rw[Hv.out,Hgo.out,if_pos hzy]
      go_wp2;go_ret;exact⟨by rw[Hvv.out];rfl,Hb1.out⟩
     ·have Hgg:Hid (pgo none ps=pgo (some z) (ps.drop (m+1+1))):=by
       show _=_
       rw[Hgo.out,if_neg hzy]
      clear Hgo;go_wp2
      go_roundw
      case rel =>
       refine⟨m+1+1,by omega,by go_num,?_,Hb1⟩
       show _=_
       rw[Hgg.out];have:ps[m+1]?=some z:=by rw[List.getElem?_eq_getElem hkl,Hzz.out]
       simp only[Zom,this]
      case measure=>simp[intOf];omega
   ·rw[decide_eq_false hp] at hpz;have Hvv:Hid (Qv ps=25):=by
     show _=_
     rw[Hv.out,Hg.out,Hd.out];simp only[pgo,Hzz.out];rw[if_pos hp]
    go_wp2_with fail
    refine cm_ hpz ?_;rintro e w1 ⟨rfl,hb1⟩;have Hb1:=hd_ (Hb.out.trans (hb1.mono Hb.out.size));clear hb1 hpz Hb;go_wp2;go_ret;exact⟨by rw[Hvv.out];rfl,Hb1.out⟩
  ·have hlt':¬ (k:Int)<n:=by omega
   have Hvv:Hid (Qv ps=0):=by
    show _=_
    rw[Hv.out,Hg.out,List.drop_of_length_le (by rw[Hn.out];omega)]
    rfl
   go_wp2;go_ret;exact⟨by rw[Hvv.out];rfl,Hb.out⟩
end Go.Proofs.YtbielfplgbammaaGreatDoor

namespace Go.Proofs.YtbielfplgbammaaGreatDoor
open Go.ChangeShapes Go.WideShapes Go.ChangeAt Go.RowKit
def Zta {H : Type} : List (String × DataW H) := [("math/bits.deBruijn32tab", Rows.laid_math_bits_deBruijn32tab), ("math/bits.deBruijn64tab", Rows.laid_math_bits_deBruijn64tab), ("internal/strconv.uint64pow10", Rows.laid_internal_strconv_uint64pow10), ("strconv.ErrRange", Rows.laid_strconv_ErrRange), ("strconv.ErrSyntax", Rows.laid_strconv_ErrSyntax)]
theorem gER : Tryz.prog.globalNamed "strconv.ErrRange" = some 1 := by kernel_rfl
theorem gES : Tryz.prog.globalNamed "strconv.ErrSyntax" = some 0 := by kernel_rfl
theorem tER:(Tryz.prog.globals[1]?).map (·.type)=some 174:=by kernel_rfl
theorem tES:(Tryz.prog.globals[0]?).map (·.type)=some 174:=by kernel_rfl
theorem Qb2:(Tryz.prog.globals[2]?).map (·.type)=some 364:=by kernel_rfl
theorem Zpc:Tryz.prog.cellsOf 371=1:=by kernel_rfl
theorem Zpb:Tryz.prog.cellsOf 9=1:=by kernel_rfl
theorem Zwb:Tryz.prog.cellsOf 204=1:=by kernel_rfl
theorem Zwc:Tryz.prog.cellsOf 364=20:=by kernel_rfl
theorem Zzn : "*" ++ "errors.errorString" = "*errors.errorString" := by decide
theorem Qbr (u : TypeId) (h : Tryz.prog.typeName? 3 u = some "*errors.errorString") : u = 369 :=
 typeName_ptr_named (nm := "errors.errorString") (by rw [Zzn]; kernel_rfl) (by kernel_rfl) (by decide) u (by rw [Zzn]; exact h)
theorem Zv5(os:Os)(args:Array Value):laidMetH Tryz.prog Zta ((World.doorLaid Tryz.prog 400 os).forCall (fun _ _=>0) ⟨#[],args,[]⟩).memory :=
 laidMetH_of_parts3 (fuel:=8) (laidMet_of_run' 8 (by kernel_rfl) (by kernel_rfl)) (by kernel_rfl) (by kernel_rfl)
theorem Zx6{W:World}(h:laidMetH Tryz.prog Zta W):Qx W:=by
 rw[MakeChecks.laidMetH_plain _ _ _ (by kernel_rfl)] at h
 have h3:=laidMet.tail (laidMet.tail h);have h4:=laidMet.tail h3;have h5:=laidMet.tail h4;obtain⟨a0,s0,hv0,-,-,-⟩:=laid_sentinel h4 gER tER Tryz.underlying174 Qbr Tryz.underlying369 Tryz.underlying371 rfl rfl Tryz.underlying9 Zpc Zpb;obtain⟨a1,s1,hv1,-,-,-⟩:=laid_sentinel h5 gES tES Tryz.underlying174 Qbr Tryz.underlying369 Tryz.underlying371 rfl rfl Tryz.underlying9 Zpc Zpb;have k0:W.cell? ⟨1,0,none⟩=some (.iface 369 (.pointer (some a0))):=by
  have h0:=World.var?_cell gER hv0 0
  simpa using h0
 have k1:W.cell? ⟨0,0,none⟩=some (.iface 369 (.pointer (some a1))):=by
  have h0:=World.var?_cell gES hv1 0
  simpa using h0
 exact⟨Lib.tabIs_of_head (k := .u64) (zs:=Lib.pow10Tab) Zfc Qb2 Tryz.underlying364 Tryz.underlying204 Zwb Zwc h3,⟨_,k0,.inr ⟨_,_,rfl⟩⟩,⟨_,k1,.inr ⟨_,_,rfl⟩⟩⟩
end Go.Proofs.YtbielfplgbammaaGreatDoor

namespace Go.Proofs.YtbielfplgbammaaGreatDoor
open Go.RowKit
theorem Zll(n:Int)(d:Nat)(h:d≠0):(mkRat n d).num=n/((Nat.gcd n.natAbs d:Nat):Int):=by
 rw[← Rat.normalize_eq_mkRat h,Rat.num_normalize]
theorem Zlm(n:Int)(d:Nat)(h:d≠0):(mkRat n d).den=d/Nat.gcd n.natAbs d:=by
 rw[← Rat.normalize_eq_mkRat h,Rat.den_normalize]
def Sm (D:Nat) (q:Rat):Prop:=q.num.natAbs<10^D∧q.den<10^D
theorem Sm.mk'{D:Nat}{n:Int}{d:Nat}(h:d≠0)(h1:n.natAbs<10^D)(h2:d<10^D):Sm D (mkRat n d):=by
 refine⟨?_,?_⟩
 ·rw[Zll n d h];have:(n/((Nat.gcd n.natAbs d:Nat):Int)).natAbs≤n.natAbs:=by
   have h3:((Nat.gcd n.natAbs d:Nat):Int) ∣ n:=Int.gcd_dvd_left n (d:Int);rw[Int.natAbs_ediv_of_dvd h3];exact Nat.div_le_self _ _
  omega
 ·rw[Zlm n d h];exact Nat.lt_of_le_of_lt (Nat.div_le_self _ _) h2
theorem Sm.le{D E:Nat}{q:Rat}(h:Sm D q)(hE:D≤E):Sm E q :=
 ⟨Nat.lt_of_lt_of_le h.1 (Nat.pow_le_pow_right (by decide) hE),Nat.lt_of_lt_of_le h.2 (Nat.pow_le_pow_right (by decide) hE)⟩
theorem Va{a b D E:Nat}(h1:a<10^D)(h2:b<10^E):a*b<10^(D+E):=by
 rw[Nat.pow_add];exact Nat.mul_lt_mul'' h1 h2
theorem Sm.mul{D E:Nat}{a b:Rat}(ha:Sm D a)(hb:Sm E b):Sm (D+E) (a*b):=by
 rw[Rat.mul_def'];refine Sm.mk' (Nat.mul_ne_zero a.den_nz b.den_nz) ?_ (Va ha.2 hb.2);rw[Int.natAbs_mul];exact Va ha.1 hb.1
theorem Zwp{n m:Int}{d e D E:Nat}(h1:n.natAbs<10^D)(h2:m.natAbs<10^E)(h3:d<10^D)(h4:e<10^E):(n*e).natAbs+(m*d).natAbs+1<10^(D+E+1):=by
 have e1:=Va h1 h4;have e2:=Va h2 h3;rw[Nat.add_comm E D] at e2;rw[Int.natAbs_mul,Int.natAbs_mul,Int.natAbs_natCast,Int.natAbs_natCast,Nat.pow_succ];have:=Nat.pow_pos (n:=D+E) (show 0<10 by decide)
 omega
theorem Sm.add{D E:Nat}{a b:Rat}(ha:Sm D a)(hb:Sm E b):Sm (D+E+1) (a+b):=by
 rw[Rat.add_def'];have e1:=Zwp ha.1 hb.1 ha.2 hb.2;have e2:=Va ha.2 hb.2;have e3:=Int.natAbs_add_le (a.num*b.den) (b.num*a.den);have e4:10^(D+E)≤10^(D+E+1):=Nat.pow_le_pow_right (by decide) (by omega)
 exact Sm.mk' (Nat.mul_ne_zero a.den_nz b.den_nz) (by omega) (by omega)
theorem Sm.pos{D:Nat}{q:Rat}(h:Sm D q):0<D:=by
 rcases Nat.eq_zero_or_pos D with h0|h0
 ·subst h0;have:=h.2
  have:=q.den_pos
  omega
 ·exact h0
theorem Qn{x D:Nat}(h:x<10^D)(hD:0<D)(h6:D≤1000000):Num x:=by
 unfold Num;rw[Qo];exact Nat.le_trans ((Qh x D hD).2 h) h6
theorem Zad(x D:Nat)(hD:0<D):(dec x).size≤D↔x<10^D:=by
 rw[Qo];exact Qh x D hD
def fr (q:Rat):Value:=fv q.num q.den
theorem Zju(n:Int)(d:Nat)(h:d≠0):Zk6 n d=fr (mkRat n d):=by
 unfold Zk6 fr;rw[Zll n d h,Zlm n d h]
theorem Qb8(w:World)(a b:Rat)(D E:Nat)(ha:Sm D a)(hb:Sm E b)(h6:D+E+2≤1000000)(L:Qx w):
  Kc Tryz.prog 207 #[fr a,fr b] w (fr (a+b)):=by
 have h1:=Zwp ha.1 hb.1 ha.2 hb.2;have h2:=Va ha.2 hb.2;have h3:10^(D+E)<10^(D+E+1):=Nat.pow_lt_pow_right (by decide) (by omega)
 have p1:=ha.pos;have p2:=hb.pos;have q1:10^D≤10^(D+E):=Nat.pow_le_pow_right (by decide) (by omega)
 have q2:10^E≤10^(D+E):=Nat.pow_le_pow_right (by decide) (by omega)
 have q3:10^(D+E+1)=10^(D+E)*10:=Nat.pow_succ ..;have:=ha.1
 have:=hb.1
 have h:=Zwj w a.num b.num a.den b.den (Qn ha.1 p1 (by omega)) (Qn hb.1 p2 (by omega)) (Qn ha.2 p1 (by omega)) (Qn hb.2 p2 (by omega)) a.den_pos b.den_pos
  (Qn (D:=D+E+1) h1 (by omega) (by omega)) (Qn (D:=D+E+1) (by omega) (by omega) (by omega)) (Qn (D:=D+E+1) (by omega) (by omega) (by omega)) L
 rw[Zju _ _ (Nat.mul_ne_zero a.den_nz b.den_nz),← Rat.add_def'] at h;exact h
theorem Qb4(w:World)(a b:Rat)(D E:Nat)(ha:Sm D a)(hb:Sm E b)(h6:D+E+2≤1000000)(L:Qx w):
  Kc Tryz.prog 206 #[fr a,fr b] w (fr (a*b)):=by
 have h1:=Va ha.1 hb.1;have h2:=Va ha.2 hb.2;have h3:10^(D+E)<10^(D+E+1):=Nat.pow_lt_pow_right (by decide) (by omega)
 have p1:=ha.pos;have p2:=hb.pos;rw[← Int.natAbs_mul] at h1;have h:=Zvd w a.num b.num a.den b.den (Qn ha.1 p1 (by omega)) (Qn hb.1 p2 (by omega)) (Qn ha.2 p1 (by omega)) (Qn hb.2 p2 (by omega)) a.den_pos b.den_pos
  (Qn (D:=D+E+1) (by omega) (by omega) (by omega)) (Qn (D:=D+E+1) (by omega) (by omega) (by omega)) L
 rw[Zju _ _ (Nat.mul_ne_zero a.den_nz b.den_nz),← Rat.mul_def'] at h;exact h
theorem Zfb(w:World)(z:Int)(q1 : -9223372036854775808≤z)(q2:z≤9223372036854775807)(L:Qx w):
  Kc Tryz.prog 58 #[.int .i64 z] w (fr (z:Rat)):=Zbn w z q1 q2 L
def Vw (q:Rat):Prop:=q.num.natAbs<10^30∧q.den<10^30
instance (q:Rat):Decidable (Vw q):=by unfold Vw;infer_instance
theorem Zws(w:World)(a:Rat):Kc Tryz.prog 161 #[fr a] w (.bool (decide (Vw a))):=by
 have h:=Zr6 w a.num a.den;have e:decide ((dec a.num.natAbs).size≤30∧(dec a.den).size≤30)=decide (Vw a):=by
  rw[decide_eq_decide];unfold Vw;rw[Zad _ _ (by decide),Zad _ _ (by decide)]
 rw[e] at h;exact h
def IsQ (s t:ByteArray):Prop:=∃ q:Rat,s=itx q.num∧t=dec q.den∧Sm 400 q
theorem Ztz(w:World)(q:Rat)(hq:Sm 400 q)(L:Qx w):Kc Tryz.prog 139 #[fr q] w (.int .i64 0):=by
 have p:=hq.pos;have h:=Zi4 w q.num q.den (Qn hq.1 p (by decide)) (Qn hq.2 p (by decide)) q.den_pos L
 rw[if_pos ⟨⟨(Zad _ _ (by decide)).2 hq.1,(Zad _ _ (by decide)).2 hq.2⟩,q.reduced⟩] at h
 exact h
def Qf (l:List (ByteArray×ByteArray)):List Value:=l.flatMap fun x=>[.string x.1,.string x.2]
theorem Qp(l:List (ByteArray×ByteArray)):(Qf l).length=l.length*2:=by
 induction l with
 | nil=>rfl
 | cons x l ih=>simp only[Qf,List.flatMap_cons,List.length_append,List.length_cons,List.length_nil] at ih ⊢;omega
theorem Zm(x:ByteArray×ByteArray)(l):Qf (x::l) = .string x.1 :: .string x.2::Qf l:=rfl
theorem Zkf(l m:List (ByteArray×ByteArray)):Qf (l++m)=Qf l++Qf m:=by simp[Qf]
theorem Zbr:∀ (l:List (ByteArray×ByteArray)) (k:Nat) (h:k<l.length),(Qf l)[k*2]?=some (.string l[k].1)∧(Qf l)[k*2+1]?=some (.string l[k].2)
 | [],k,h=>by simp at h
 | x::l,0,h=>by rw[Zm];exact⟨rfl,rfl⟩
 | x::l,k+1,h=>by
  rw[Zm,show (k+1)*2=k*2+1+1 by omega,show k*2+1+1+1=(k*2+1)+1+1 by omega]
  simp only[List.getElem?_cons_succ,List.getElem_cons_succ];exact Zbr l k (by simpa using h)
theorem Zi7:∀ (l:List (ByteArray×ByteArray)) (k:Nat) (s t:ByteArray),k<l.length→((Qf l).set (k*2) (.string s)).set (k*2+1) (.string t)=Qf (l.set k (s,t))
 | [],k,s,t,h=>by simp at h
 | x::l,0,s,t,h=>by rw[List.set_cons_zero,Zm,Zm];rfl
 | x::l,k+1,s,t,h=>by
  rw[List.set_cons_succ,Zm,Zm,show (k+1)*2=k*2+1+1 by omega,show k*2+1+1+1=(k*2+1)+1+1 by omega]
  simp only[List.set_cons_succ];rw[Zi7 l k s t (by simpa using h)]
def qs (q:Rat):ByteArray×ByteArray:=(itx q.num,dec q.den)
def Kg (l:List Rat):List Value:=Qf (l.map qs)
theorem Yy(l:List Rat):(Kg l).length=l.length*2:=by unfold Kg;rw[Qp,List.length_map]
def Zhy (w:World) (B:Nat) (a:Option Addr) (c:Nat) (l:List (ByteArray×ByteArray)):Prop:=w.ownsRow B 101 2 (.slice a l.length c) l.length (Qf l)
theorem Zhy.open{w:World}{B c:Nat}{a:Option Addr}{l:List (ByteArray×ByteArray)}(h:Zhy w B a c l)(hn:0<l.length):
  ∃ g,a=some ⟨g,0,none⟩∧B≤g∧g<w.heap.size∧l.length≤c∧(∀ j (hj:j<l.length),w.cell? ⟨g,j*2,none⟩=some (.string l[j].1)∧w.cell? ⟨g,j*2+1,none⟩=some (.string l[j].2))∧(∀ j,w.frozen? ⟨g,j,none⟩=false):=by
 obtain⟨g,cap,hv,h1,h2,h3,h4,h5⟩:=Qb h hn;simp only[Value.slice.injEq] at hv;obtain⟨rfl,-,rfl⟩:=hv;exact⟨g,rfl,h1,h2,h3,fun j hj=>⟨by rw[h4 (j*2) (by omega),(Zbr l j hj).1],by rw[h4 (j*2+1) (by omega),(Zbr l j hj).2]⟩,h5⟩
theorem Zhy.rd{w:World}{B c:Nat}{a:Option Addr}{l:List (ByteArray×ByteArray)}(h:Zhy w B a c l):Rd w a (Qf l):=by
 by_cases hn:0<l.length
 ·obtain⟨g,cap,hv,h1,h2,h3,h4,h5⟩:=Qb h hn;simp only[Value.slice.injEq] at hv;obtain⟨rfl,-,rfl⟩:=hv;refine .inr ⟨g,0,rfl,h2,fun i v hi=>?_⟩
  rw[Nat.zero_add,h4 i (by have:=(List.getElem?_eq_some_iff.1 hi).1;rw[Qp] at this;exact this)]
  exact hi
 ·rw[List.eq_nil_of_length_eq_zero (show l.length=0 by omega)];exact .inl rfl
theorem Zhy.below{w w':World}{B c:Nat}{a:Option Addr}{l:List (ByteArray×ByteArray)}(h:Zhy w B a c l){D:Nat}(hb:Below D w w')(hD:w.heap.size≤D):Zhy w' B a c l:=Vq h hb hD
theorem Zhy.store{w:World}{B c g:Nat}{l:List (ByteArray×ByteArray)}(h:Zhy w B (some ⟨g,0,none⟩) c l)(j:Nat)(hj:j<l.length)(s t:ByteArray):
  Zhy ((w.setCell ⟨g,j*2,none⟩ (.string s)).setCell ⟨g,j*2+1,none⟩ (.string t)) B (some ⟨g,0,none⟩) c (l.set j (s,t)):=by
 have h1:=(World.ownsRow.stored h (j*2) (.string s)).1;have h2:=(World.ownsRow.stored h1 (j*2+1) (.string t)).1;rw[Zi7 l j s t hj] at h2;unfold Zhy;rw[List.length_set];exact h2
theorem Zyb:(Tryz.prog.info? 101).map (fun i=>(i.zero,i.size,i.bytes))=some (some (.agg #[.string ⟨#[]⟩,.string ⟨#[]⟩]),2,32):=by kernel_rfl
theorem elQ:Zac Tryz.prog 35 101 (.agg #[.string ⟨#[]⟩,.string ⟨#[]⟩]) 2 32:=⟨Tryz.underlying35,info_parts Zyb,rfl,by decide⟩
def Yg (n:Nat):List (ByteArray×ByteArray):=List.replicate n (⟨#[]⟩,⟨#[]⟩)
theorem Znk(n j:Nat)(h:j<(Qf (Yg n)).length):(Qf (Yg n))[j] = .string ⟨#[]⟩:=by
 have hm:=List.getElem_mem h;obtain⟨x,hx1,hx2⟩:=List.mem_flatMap.1 hm;obtain rfl:=List.eq_of_mem_replicate hx1
 simpa using hx2
theorem Zqg(n:Nat):madeCells #[.string ⟨#[]⟩,.string ⟨#[]⟩] (n*2)=(Qf (Yg n)).toArray:=by
 apply Array.ext
 ·rw[size_madeCells,List.size_toArray,Qp];simp[Yg]
 ·intro i h1 h2;rw[List.size_toArray] at h2;have e:(Qf (Yg n)).toArray[i] = .string ⟨#[]⟩:=by rw[List.getElem_toArray];exact Znk n i h2
  rw[e];simp only[madeCells,Array.getElem_map,Array.getElem_range];rcases(show i%2=0∨i%2=1 by omega) with h|h<;>simp[h]
theorem Zzw(n:Nat)(w:World)(hn:n≤100000000):
  (Instr.makeSlice 35 (.int .i64 (n:Int)) (.int .i64 (n:Int))).run Tryz.prog w = .ok (.slice (some ⟨w.heap.size,0,none⟩) n n) (w.alloc (.cells (Qf (Yg n)).toArray 101)):=by
 obtain⟨i,hi,hz,hs,hb⟩:=info_parts Zyb;have:=run_make (P:=Tryz.prog) w 35 101 i _ Tryz.underlying35 hi hz .i64 .i64 n n (by omega) (by omega) (by rw[hb];omega) (by omega)
 simp only[Int.toNat_natCast,hs] at this;rw[show (Value.agg #[.string ⟨#[]⟩,.string ⟨#[]⟩]).cells = #[.string ⟨#[]⟩,.string ⟨#[]⟩] from rfl,Zqg] at this
 exact this
theorem Zle(w:World)(l:List (ByteArray×ByteArray))(hl:l.length≤100000000):Zhy (w.alloc (.cells (Qf l).toArray 101)) w.heap.size (some ⟨w.heap.size,0,none⟩) l.length l :=
 ⟨Qp l,.inr ⟨w.heap.size,l.length,(Qf l).toArray,rfl,Nat.le_refl _,heap_alloc_new _ _,Nat.le_refl _,by unfold maxLen;omega,by simp[Qp],List.take_of_length_le (by simp[Qp])⟩⟩
def Zbc (n k:Nat):List (ByteArray×ByteArray):=List.replicate k (qs 0)++Yg (n-k)
theorem Zp(n k:Nat)(h:k≤n):(Zbc n k).length=n:=by simp[Zbc,Yg];omega
theorem Zmm(n k:Nat)(h:k<n):(Zbc n k).set k (qs 0)=Zbc n (k+1):=by
 unfold Zbc Yg;rw[List.set_append_right _ _ (by simp),List.length_replicate,Nat.sub_self]
 obtain⟨m,hm⟩:∃ m,n-k=m+1:=⟨n-k-1,by omega⟩
 rw[hm,show n-(k+1)=m by omega,List.replicate_succ,List.set_cons_zero]
 rw[List.replicate_succ',List.append_assoc];rfl
def Zu (w:World) (B:Nat) (a:Option Addr) (c:Nat) (l:List Rat):Prop:=Zhy w B a c (l.map qs)
theorem Zu.rd{w:World}{B c:Nat}{a:Option Addr}{l:List Rat}(h:Zu w B a c l):Rd w a (Kg l):=Zhy.rd h
theorem Zu.below{w w':World}{B c:Nat}{a:Option Addr}{l:List Rat}(h:Zu w B a c l){D:Nat}(hb:Below D w w')(hD:w.heap.size≤D):Zu w' B a c l:=Zhy.below h hb hD
theorem Zu.open{w:World}{B c:Nat}{a:Option Addr}{l:List Rat}(h:Zu w B a c l)(hn:0<l.length):
  ∃ g,a=some ⟨g,0,none⟩∧B≤g∧g<w.heap.size∧l.length≤c∧(∀ j (hj:j<l.length),w.cell? ⟨g,j*2,none⟩=some (.string (itx l[j].num))∧w.cell? ⟨g,j*2+1,none⟩=some (.string (dec l[j].den)))∧(∀ j,w.frozen? ⟨g,j,none⟩=false):=by
 obtain⟨g,h1,h2,h3,h4,h5,h6⟩:=Zhy.open h (by simpa using hn)
 refine⟨g,h1,h2,h3,by simpa using h4,fun j hj=>?_,h6⟩
 have:=h5 j (by simpa using hj)
 simpa [qs] using this
theorem Zu.store{w:World}{B c g:Nat}{l:List Rat}(h:Zu w B (some ⟨g,0,none⟩) c l)(j:Nat)(hj:j<l.length)(q:Rat):
  Zu ((w.setCell ⟨g,j*2,none⟩ (.string (itx q.num))).setCell ⟨g,j*2+1,none⟩ (.string (dec q.den))) B (some ⟨g,0,none⟩) c (l.set j q):=by
 have:=Zhy.store h j (by simpa using hj) (itx q.num) (dec q.den)
 unfold Zu;rw[List.map_set];exact this
def Zbv (f:FuncId) (args:Array Value) (w:World) (l:List Rat):Prop :=
 Calls Tryz.prog f args w fun e w'=>∃ a c,e = .returned (.slice a l.length c)∧Zu w' w.heap.size a c l∧Below w.heap.size w w'
theorem Zn5(w:World)(n:Nat)(hn:n≤1000)(L:Qx w):Zbv 103 #[.int .i64 n] w (List.replicate n 0):=by
 unfold Zbv;have hmk:=Zzw n w (by omega)
 have HL:=hd_ L;have Ho:=hd_ (Zle w (Yg n) (by simp[Yg];omega))
 have Hb0:=hd_ ((Below.refl w.heap.size w).alloc nr_ (.cells (Qf (Yg n)).toArray 101));have Hnum:Hid (∀ W,Below w.heap.size w W→Kc Tryz.prog 58 #[.int .i64 0] W (.agg #[.string (itx 0),.string (dec 1)])):=fun W hW=>Zbn W 0 (by decide) (by decide) (HL.out.below hW)
 have hwn:IntKind.i64.wrap (n:Int)=n:=iw_ _ (by omega)
 clear L;go_enter Tryz.func103,Tryz.ntmps103
 go_wp2_with fail
 go_loopw [9] (fun i wr=>∃ k:Nat,k≤n∧i = .int .i64 k∧Hid (Zhy wr w.heap.size (some ⟨w.heap.size,0,none⟩) n (Zbc n k))∧Hid (Below w.heap.size w wr)) (fun i _=>n-(intOf i).toNat)
 case atStart =>
  refine⟨0,Nat.zero_le _,rfl,?_,Hb0⟩;have:=Ho.out
  rw[show (Yg n).length=n by simp[Yg]] at this
  show Zhy _ _ _ _ _
  rw[show Zbc n 0=Yg n by simp[Zbc]]
  exact this
 case round =>
  obtain⟨k,hk,rfl,Hown,Hb⟩:=hrel
  by_cases hlt:k<n
  ·have hlt':(k:Int)<n:=by omega
   have hnum:=Hnum.out wr Hb.out
   go_wp2_with fail
   refine cm_ hnum ?_;rintro e w1 ⟨rfl,hb1⟩;have hown1:=Hown.out.below hb1 nr_;have hb:=Hb.out.trans (hb1.mono Hb.out.size);obtain⟨g,hg,hB,hgl,-,hcells,hfr⟩:=hown1.open (by rw[Zp n k hk];omega)
   simp only[Option.some.injEq,Addr.mk.injEq,and_true] at hg;subst hg;have c0:=(hcells k (by rw[Zp n k hk];exact hlt)).1
   have c1:=(hcells k (by rw[Zp n k hk];exact hlt)).2
   have f0:=hfr (k*2);have f1:=hfr (k*2+1);have Hown1:=hd_ hown1;have Hb1:=hd_ hb;clear hown1 hb hcells hb1 hnum Hown Hb hfr;go_wp2
   go_roundw
   case rel =>
    refine⟨k+1,by omega,by go_num,?_,?_⟩
    ·have:=Hown1.out.store k (by rw[Zp n k hk];exact hlt) (itx 0) (dec 1)
     rw[show ((itx 0,dec 1):ByteArray×ByteArray)=qs 0 from rfl,Zmm n k hlt] at this
     exact this
    ·exact(Hb1.out.setCell (p:=⟨w.heap.size,k*2,none⟩) nr_ _).setCell (p:=⟨w.heap.size,k*2+1,none⟩) nr_ _
   case measure=>simp[intOf];omega
  ·have hlt':¬ (k:Int)<n:=by omega
   have hkn:k=n:=by omega
   subst hkn;go_wp2;go_ret;refine⟨some ⟨w.heap.size,0,none⟩,k,by first | rfl | (rw[show (List.replicate k (0:Rat)).length=k from List.length_replicate];rfl),?_,Hb.out⟩
   have:=Hown.out
   unfold Zu;rw[List.map_replicate];have e:Zbc k k=List.replicate k (qs 0):=by simp[Zbc,Yg]
   rw[e] at this;exact this
def Zcx (s:ByteArray):Bool:=decide (0<s.size∧(lb s).getD 0 0=45)
def Zfd (s:ByteArray):ByteArray:=if Zcx s then s.extract 1 s.size else s
theorem Zs0(s:ByteArray):(Zfd s).size≤s.size:=by
 unfold Zfd;split
 ·rw[ByteArray.size_extract];omega
 ·omega
theorem Zpv(w:World)(s:ByteArray)(hs:s.size≤10000000):
  Kc Tryz.prog 50 #[.string s] w (.tuple #[.bool (Zcx s),.string (Zfd s)]):=by
 unfold Kc
 by_cases h0:0<s.size
 ·have hix:∀ W,(Instr.index 38 (.string s) (.int .i64 0)).run Tryz.prog W = .ok (.int .u8 ((lb s).getD 0 0).toNat) W:=fun W=>Zy9 W s h0
  have hpos:(0:Int)<s.size:=by omega
  have hone:(1:Int)≤s.size:=by omega
  by_cases hc:(lb s).getD 0 0=45
  ·have Hv:Hid (Zcx s=true):=by show _=_;unfold Zcx;rw[decide_eq_true_eq];exact⟨h0,hc⟩
   have Hm:Hid (Zfd s=s.extract 1 s.size):=by show _=_;unfold Zfd;rw[if_pos Hv.out]
   rw[hc] at hix;rw[show (((45:UInt8).toNat:Nat):Int)=45 from rfl] at hix
   rw[Hv.out,Hm.out];clear Hv Hm hc;go_enter Tryz.func50,Tryz.ntmps50
   go_wp2_with fail
   go_quiet (fail)
   go_wp2
   go_ret2
   exact⟨by first | rfl | simp,by first | exact Below.refl _ _ | exact Zn _ _⟩
  ·have Hv:Hid (Zcx s=false):=by show _=_;unfold Zcx;rw[decide_eq_false_iff_not];exact fun h=>hc h.2
   have Hm:Hid (Zfd s=s):=by show _=_;unfold Zfd;rw[if_neg (by rw[Hv.out];decide)]
   rw[Hv.out,Hm.out];have hcc:((((lb s).getD 0 0).toNat:Int)==45)=false:=by
    rw[beq_eq_false_iff_ne];intro h;apply hc;apply UInt8.toNat_inj.1;have:(45:UInt8).toNat=45:=rfl
    omega
   clear Hv Hm hc;generalize (((lb s).getD 0 0).toNat:Int)=c at *
   go_enter Tryz.func50,Tryz.ntmps50;go_wp2
   go_ret2
   exact⟨rfl,Below.refl _ _⟩
 ·have Hv:Hid (Zcx s=false):=by show _=_;unfold Zcx;rw[decide_eq_false_iff_not];exact fun h=>h0 h.1
  have Hm:Hid (Zfd s=s):=by show _=_;unfold Zfd;rw[if_neg (by rw[Hv.out];decide)]
  rw[Hv.out,Hm.out];have hpos:¬ (0:Int)<s.size:=by omega
  clear Hv Hm;go_enter Tryz.func50,Tryz.ntmps50;go_wp2
  go_ret2
  exact⟨rfl,Below.refl _ _⟩
def IsZ (s:ByteArray):Prop:=∃ z:Int,s=itx z∧(dec z.natAbs).size≤400
theorem Zek(z:Int):Zcx (itx z)=decide (z<0):=by
 unfold Zcx;rw[decide_eq_decide];rcases Int.eq_nat_or_neg z with⟨n,rfl|rfl⟩
 ·rw[Ki];have:=Zeo n
  constructor
  ·intro h;rw[h.2] at this;exact absurd this (by decide)
  ·omega
 ·rcases Nat.eq_zero_or_pos n with h | h
  ·subst h;have hd:=Zeo 0
   show 0<(itx ((0:Nat):Int)).size∧(lb (itx ((0:Nat):Int))).getD 0 0=45↔_
   rw[Ki];constructor
   ·intro h;rw[h.2] at hd;exact absurd hd (by decide)
   ·intro h;exact absurd h (by decide)
  ·rw[Zao n h,Yu n h];constructor
   ·intro _;omega
   ·intro _;exact⟨by omega,rfl⟩
theorem Zj2(z:Int):Zfd (itx z)=dec z.natAbs:=by
 unfold Zfd;rw[Zek]
 by_cases h:z<0
 ·rw[if_pos (decide_eq_true h)];obtain⟨n,rfl⟩:∃ n:Nat,z = -(n:Int):=⟨z.natAbs,by omega⟩
  rw[Zou n (by omega)]
  congr 1;omega
 ·rw[if_neg (by rw[decide_eq_false h];decide)]
  obtain⟨n,rfl⟩:∃ n:Nat,z=(n:Int):=⟨z.natAbs,by omega⟩
  rw[Ki];rfl
theorem Zme{s:ByteArray}(h:Zcm (lb s)):∃ n,s=dec n:=by
 refine⟨Vt (lb s),?_⟩;have:=congrArg bs (Zt4 h)
 rw[bs_lb] at this;exact this
theorem Zm6{s:ByteArray}(h:Zcx s=true):lb s=45::lb (s.extract 1 s.size):=by
 unfold Zcx at h;rw[decide_eq_true_eq] at h;obtain⟨h0,h1⟩:=h;have hl:lb (s.extract 1 s.size)=(lb s).drop 1:=by
  unfold lb;rw[ByteArray.data_extract,Array.toList_extract]
  show (s.data.toList.drop 1).take (s.size-1)=s.data.toList.drop 1
  refine List.take_of_length_le ?_;rw[List.length_drop,Array.length_toList];exact Nat.le_refl _
 rw[hl];rw[← Kr] at h0;generalize lb s=u at *
 cases u with
 | nil=>exact absurd h0 (by decide)
 | cons c l =>
  rw[show (c::l).getD 0 0=c from rfl] at h1
  rw[h1];rfl
theorem Zx9(s:ByteArray):IsZ s↔¬ (Zcx s=true∧Zfd s=⟨#[48]⟩)∧Zcm (lb (Zfd s))∧(Zfd s).size≤400:=by
 constructor
 ·rintro⟨z,rfl,hz⟩;rw[Zj2,Zek];refine⟨?_,Zmd _,hz⟩;rintro⟨h1,h2⟩;rw[decide_eq_true_eq] at h1;have h3:((dec z.natAbs).toList==[48])=true:=by rw[h2,Yh];rfl
  rw[Yo,decide_eq_true_eq] at h3;omega
 ·rintro⟨h1,h2,h3⟩;obtain⟨n,hn⟩:=Zme h2
  by_cases hneg:Zcx s=true
  ·have hn0:1≤n:=by
    rcases Nat.eq_zero_or_pos n with h|h
    ·subst h;exact absurd ⟨hneg,hn.trans Zc6⟩ h1
    ·exact h
   refine⟨-(n:Int),?_,?_⟩
   ·have e:=Zm6 hneg;have hm:s.extract 1 s.size=dec n:=by rw[← hn];unfold Zfd;rw[if_pos hneg]
    rw[hm] at e;have:=congrArg bs e
    rw[bs_lb,Za7] at this;rw[this,Zg9 n hn0]
   ·have e:(-(n:Int)).natAbs=n:=by omega
    rw[e,← hn];exact h3
  ·have hm:Zfd s=s:=by unfold Zfd;rw[if_neg hneg]
   rw[hm] at hn h3;refine⟨(n:Int),by rw[Ki];exact hn,?_⟩
   rw[show ((n:Nat):Int).natAbs=n from rfl,← hn];exact h3
theorem Zho(w:World)(s:ByteArray)(h:IsZ s):Kc Tryz.prog 218 #[.string s] w (.int .i64 0):=by
 obtain⟨z,rfl,hz⟩:=h;have:=Zfn w z (Nat.le_trans hz (by decide))
 rw[if_pos hz] at this;exact this
theorem Zi5(w:World)(s:ByteArray)(hs:s.size≤10000000)(h:¬ IsZ s):Kc Tryz.prog 218 #[.string s] w (.int .i64 2):=by
 unfold Kc;have Hs:=hd_ (Zpv w s hs);have Hc:=hd_ (fun W=>Zma W (Zfd s) (Nat.le_trans (Zs0 s) hs))
 rw[Zx9] at h
 by_cases hz:Zcx s=true∧Zfd s=⟨#[48]⟩
 ·have hzz:((Zfd s).toList==[48])=true:=by rw[hz.2,Yh];rfl
  rw[hz.1] at Hs;clear Hc hz h;generalize Zfd s=t at *
  go_enter Tryz.func218,Tryz.ntmps218
  go_wp2_with fail
  refine cm_ Hs.out ?_;rintro e w1 ⟨rfl,hb1⟩;have Hb1:=hd_ hb1;clear hb1 Hs;go_wp2;go_ret;exact⟨rfl,Hb1.out⟩
 ·have hno:¬ (Zcm (lb (Zfd s))∧(Zfd s).size≤400):=fun h'=>h ⟨hz,h'⟩
  rw[if_neg hno] at Hc;clear h hno
  by_cases hneg:Zcx s=true
  ·have hzz:((Zfd s).toList==[48])=false:=by
    rw[Bool.eq_false_iff];intro h';apply hz;refine⟨hneg,?_⟩;have h2:=eq_of_beq h';rw[Yh] at h2;have:=congrArg bs h2
    rw[bs_lb] at this;exact this
   rw[hneg] at Hs;clear hz hneg;generalize Zfd s=t at *
   go_enter Tryz.func218,Tryz.ntmps218
   go_wp2_with fail
   refine cm_ Hs.out ?_;rintro e w1 ⟨rfl,hb1⟩;have Hb1:=hd_ hb1;clear hb1 Hs
   go_wp2_with fail
   refine cm_ (Hc.out w1) ?_;rintro e w2 ⟨rfl,hb2⟩;have Hb2:=hd_ (Hb1.out.trans (hb2.mono Hb1.out.size));clear hb2 Hb1 Hc;go_wp2;go_ret;exact⟨rfl,Hb2.out⟩
  ·rw[Bool.not_eq_true] at hneg;rw[hneg] at Hs;clear hz hneg;generalize Zfd s=t at *
   go_enter Tryz.func218,Tryz.ntmps218
   go_wp2_with fail
   refine cm_ Hs.out ?_;rintro e w1 ⟨rfl,hb1⟩;have Hb1:=hd_ hb1;clear hb1 Hs
   go_wp2_with fail
   refine cm_ (Hc.out w1) ?_;rintro e w2 ⟨rfl,hb2⟩;have Hb2:=hd_ (Hb1.out.trans (hb2.mono Hb1.out.size));clear hb2 Hb1 Hc;go_wp2;go_ret;exact⟨rfl,Hb2.out⟩
theorem Qba{q:Rat}{D:Nat}(hD:0<D)(h1:(dec q.num.natAbs).size≤D)(h2:(dec q.den).size≤D):Sm D q:=⟨(Zad _ _ hD).1 h1,(Zad _ _ hD).1 h2⟩
theorem Zz6{n:Int}{d:Nat}(h0:0<d)(hg:Nat.gcd n.natAbs d=1)(h1:(dec n.natAbs).size≤400)(h2:(dec d).size≤400):IsQ (itx n) (dec d) :=
 ⟨⟨n,d,by omega,hg⟩,rfl,rfl,Qba (by decide) h1 h2⟩
theorem Zhp(w:World)(s t:ByteArray)(hs:s.size≤10000000)(ht:t.size≤10000000)(h:¬ IsQ s t)(L:Qx w):
  Kc Tryz.prog 139 #[.agg #[.string s,.string t]] w (.int .i64 2):=by
 have Hb0:=hd_ ((Below.refl w.heap.size w).alloc nr_ (.cells #[.string s,.string t] 101));have Hnew:Hid ((w.alloc (.cells #[.string s,.string t] 101)).heap[w.heap.size]?=some (.cells #[.string s,.string t] 101 (0,0))):=heap_alloc_new w _
 by_cases h1:IsZ s
 ·have Hc1:=hd_ (fun W=>Zho W s h1)
  by_cases h2:IsZ t
  ·have Hc2:=hd_ (fun W=>Zho W t h2)
   obtain⟨n,rfl,hn⟩:=h1;obtain⟨z,rfl,hz⟩:=h2
   by_cases hz0:0<z
   ·obtain⟨d,rfl⟩:∃ d:Nat,z=(d:Int):=⟨z.toNat,by omega⟩
    rw[show ((d:Nat):Int).natAbs=d from rfl] at hz
    rw[Ki] at h ⊢;have:=Zi4 w n d (Nat.le_trans hn (by decide)) (Nat.le_trans hz (by decide)) (by omega) L
    rw[if_neg (fun hh=>h (Zz6 (by omega) hh.2 hn hz))] at this
    exact this
   ·have Hsg:=hd_ (fun W=>Zah W z)
    have hsz:z.sign≤0:=by
     rcases Int.lt_or_eq_of_le (show z≤0 by omega) with h|h
     ·rw[Int.sign_eq_neg_one_of_neg h];decide
     ·rw[h];decide
    unfold Kc;clear h hn hz hz0 L;generalize z.sign=g at *
    generalize itx n=s at *
    generalize itx z=t at *
    go_enter Tryz.func139,Tryz.ntmps139;obtain⟨k0,k1,-,-⟩:=Ka Hnew.out
    go_wp2_with fail
    generalize w.alloc (.cells #[.string s,.string t] 101)=W0 at *
    clear k0 k1;refine cm_ (Hc1.out _) ?_;rintro e w1 ⟨rfl,hb1⟩;have Hb1:=hd_ hb1;clear hb1 Hc1 ;obtain⟨k0,k1,-,-⟩:=Ka (Kh Hnew.out Hb1.out)
    go_wp2_with fail
    skip
    clear k0 k1;refine cm_ (Hc2.out _) ?_;rintro e w2 ⟨rfl,hb2⟩;have Hb2:=hd_ (Hb1.out.trans (hb2.mono Hb1.out.size));clear hb2 Hc2 Hb1;obtain⟨k0,k1,-,-⟩:=Ka (Kh Hnew.out Hb2.out)
    go_wp2_with fail
    skip
    clear k0 k1;refine cm_ (Hsg.out _) ?_;rintro e w3 ⟨rfl,hb3⟩;have Hb3:=hd_ (Hb2.out.trans (hb3.mono Hb2.out.size));clear hb3 Hsg Hb2;have Hbw:=hd_ (Hb0.out.trans (Hb3.out.mono Hb0.out.size));obtain⟨k0,k1,-,-⟩:=Ka (Kh Hnew.out Hb3.out);go_wp2;go_ret;exact⟨rfl,Hbw.out⟩
  ·have Hc2:=hd_ (fun W=>Zi5 W t ht h2)
   unfold Kc;clear h h1 h2 L;go_enter Tryz.func139,Tryz.ntmps139;obtain⟨k0,k1,-,-⟩:=Ka Hnew.out
   go_wp2_with fail
   generalize w.alloc (.cells #[.string s,.string t] 101)=W0 at *
   clear k0 k1;refine cm_ (Hc1.out _) ?_;rintro e w1 ⟨rfl,hb1⟩;have Hb1:=hd_ hb1;clear hb1 Hc1 ;obtain⟨k0,k1,-,-⟩:=Ka (Kh Hnew.out Hb1.out)
   go_wp2_with fail
   skip
   clear k0 k1;refine cm_ (Hc2.out _) ?_;rintro e w2 ⟨rfl,hb2⟩;have Hb2:=hd_ (Hb1.out.trans (hb2.mono Hb1.out.size));clear hb2 Hc2 Hb1;have Hbw:=hd_ (Hb0.out.trans (Hb2.out.mono Hb0.out.size));obtain⟨k0,k1,-,-⟩:=Ka (Kh Hnew.out Hb2.out);go_wp2;go_ret;exact⟨rfl,Hbw.out⟩
 ·have Hc1:=hd_ (fun W=>Zi5 W s hs h1)
  unfold Kc;clear h h1 L;go_enter Tryz.func139,Tryz.ntmps139;obtain⟨k0,k1,-,-⟩:=Ka Hnew.out
  go_wp2_with fail
  generalize w.alloc (.cells #[.string s,.string t] 101)=W0 at *
  clear k0 k1;refine cm_ (Hc1.out _) ?_;rintro e w1 ⟨rfl,hb1⟩;have Hb1:=hd_ hb1;clear hb1 Hc1 ;have Hbw:=hd_ (Hb0.out.trans (Hb1.out.mono Hb0.out.size));obtain⟨k0,k1,-,-⟩:=Ka (Kh Hnew.out Hb1.out);go_wp2;go_ret;exact⟨rfl,Hbw.out⟩
end Go.Proofs.YtbielfplgbammaaGreatDoor

namespace Go.Proofs.YtbielfplgbammaaGreatDoor
open Go.RowKit
open Classical in
noncomputable def sgo:List (ByteArray×ByteArray)→Int
 | []=>0
 | x::l=>if ∃ q:Rat,x=qs q∧Sm 400 q then if ∃ q:Rat,x=qs q∧Vw q then sgo l else 4 else 2
noncomputable def Zck (n:Nat) (l:List (ByteArray×ByteArray)):Int:=if l.length=n then sgo l else 5
theorem Zy{w:World}{b off:Nat}{l:List (ByteArray×ByteArray)}(h:∀ i v,(Qf l)[i]?=some v→w.cell? ⟨b,off+i,none⟩=some v)(k:Nat)(hk:k<l.length):
  w.cell? ⟨b,off+k*2,none⟩=some (.string (l.getD k default).1)∧w.cell? ⟨b,off+k*2+1,none⟩=some (.string (l.getD k default).2):=by
 have e:l.getD k default=l[k]:=by rw[List.getD_eq_getElem?_getD,List.getElem?_eq_getElem hk];rfl
 rw[e];exact⟨h _ _ (Zbr l k hk).1,by rw[Nat.add_assoc];exact h _ _ (Zbr l k hk).2⟩
theorem Zo6{a b:Nat}(h:dec a=dec b):a=b:=Zts (Qap h)
theorem Zx8{a b:Int}(h:itx a=itx b):a=b:=by
 have h1:=congrArg Zcx h;rw[Zek,Zek,decide_eq_decide] at h1;have h2:=congrArg Zfd h;rw[Zj2,Zj2] at h2;have h3:=Zo6 h2;omega
theorem Zwx{p q:Rat}(h:qs p=qs q):p=q:=by
 simp only[qs,Prod.mk.injEq] at h;exact Rat.ext (Zx8 h.1) (Zo6 h.2)
open Classical in
theorem Zik(w:World)(a1 a2:Option Addr)(c1 c2 n:Nat)(l:List (ByteArray×ByteArray))(hr:Rd w a2 (Qf l))(hl:l.length≤1000000)(hn:n≤1000000)(hs:∀ x∈l,x.1.size≤1000000∧x.2.size≤1000000)(L:Qx w):
  Kc Tryz.prog 77 #[.slice a1 n c1,.slice a2 l.length c2] w (.int .i64 (Zck n l)):=by
 unfold Kc;have HL:=hd_ L;have Hs:=hd_ hs;clear L hs
 by_cases hln:l.length=n
 ·have Hv:Hid (Zck n l=sgo l):=by show _=_;unfold Zck;rw[if_pos hln]
  by_cases h0:0<l.length
  ·obtain⟨b,off,rfl,hb,hcells⟩:=hr.open (by rw[Qp];omega)
   have Hcells:=hd_ hcells;clear hcells hr;rw[hln];have Hn:=hd_ hln;clear hln hl h0;go_enter Tryz.func77,Tryz.ntmps77
   go_wp2_with fail
   go_loopw [14] (fun i wr=>∃ k:Nat,k≤n∧i = .int .i64 k∧Hid (sgo l=sgo (l.drop k))∧Hid (Below w.heap.size w wr)) (fun i _=>n-(intOf i).toNat)
   case atStart=>exact⟨0,Nat.zero_le _,rfl,rfl,Below.refl _ _⟩
   case round =>
    obtain⟨k,hk,rfl,Hg,Hb⟩:=hrel
    by_cases hlt:k<n
    ·have hlt':(k:Int)<n:=by omega
     have hkl:k<l.length:=by rw[Hn.out];exact hlt
     obtain⟨c0,c1⟩:=Zy Hcells.out k hkl;rw[← Hb.out.cell (p:=⟨b,off+k*2,none⟩) hb] at c0;rw[← Hb.out.cell (p:=⟨b,off+k*2+1,none⟩) hb] at c1;obtain⟨x,hx⟩:∃ x,l.getD k default=x:=⟨_,rfl⟩;have hgx:l[k]=x:=by rw[← hx,List.getD_eq_getElem?_getD,List.getElem?_eq_getElem hkl];rfl
     have Hd:Hid (l.drop k=x::l.drop (k+1)):=by show _=_;rw[← hgx];exact List.drop_eq_getElem_cons hkl
     have Hsz:=hd_ (Hs.out x (by rw[← hgx];exact List.getElem_mem hkl))
     rw[hx] at c0 c1;clear hx hgx hkl;obtain⟨s,t⟩:=x;simp only at c0 c1;have Hb0:=hd_ (Hb.out.alloc Hb.out.size (.cells #[.string s,.string t] 101));have Hnew:Hid ((wr.alloc (.cells #[.string s,.string t] 101)).heap[wr.heap.size]?=some (.cells #[.string s,.string t] 101 (0,0))):=heap_alloc_new wr _
     by_cases hq:∃ q:Rat,(s,t)=qs q∧Sm 400 q
     ·have hc1:Kc Tryz.prog 139 #[.agg #[.string s,.string t]] (wr.alloc (.cells #[.string s,.string t] 101)) (.int .i64 0):=by
       obtain⟨q,hqs,hq4⟩:=hq;simp only[qs,Prod.mk.injEq] at hqs;have hLL:=HL.out.below Hb0.out;rw[hqs.1,hqs.2] at hLL ⊢;exact Ztz _ q hq4 hLL
      have Hsh:Hid (∀ W,Kc Tryz.prog 161 #[.agg #[.string s,.string t]] W (.bool (decide (∃ q:Rat,(s,t)=qs q∧Vw q)))):=fun W=>by
       obtain⟨q,hqs,hq4⟩:=hq;have e:decide (∃ p:Rat,(s,t)=qs p∧Vw p)=decide (Vw q):=by
        rw[decide_eq_decide];constructor
        ·rintro⟨p,h1,h2⟩;rw[hqs] at h1;rw[Zwx h1];exact h2
        ·exact fun h=>⟨q,hqs,h⟩
       rw[e];simp only[qs,Prod.mk.injEq] at hqs;rw[hqs.1,hqs.2];exact Zws W q
      have Hgo:Hid (sgo l=if ∃ q:Rat,(s,t)=qs q∧Vw q then sgo (l.drop (k+1)) else 4):=by
       show _=_
       rw[Hg.out,Hd.out]
       show (if _ then _ else _)=_
       rw[if_pos hq]
      clear hq Hg Hd
      go_wp2_with fail
      generalize wr.alloc (.cells #[.string s,.string t] 101)=W0 at *
      clear c0 c1;refine cm_ hc1 ?_;rintro e w1 ⟨rfl,hb1⟩;have Hb1:=hd_ hb1;clear hb1 hc1;obtain⟨k0,k1,-,-⟩:=Ka (Kh Hnew.out Hb1.out);have hsh:=Hsh.out w1
      by_cases hshort:∃ q:Rat,(s,t)=qs q∧Vw q
      ·rw[decide_eq_true hshort] at hsh;have Hgg:Hid (sgo l=sgo (l.drop (k+1))):=by show _=_;rw[Hgo.out,if_pos hshort]
       clear hshort Hgo Hsh
       go_wp2_with fail
       clear k0 k1;refine cm_ hsh ?_;rintro e w2 ⟨rfl,hb2⟩;have Hb2:=hd_ (Hb0.out.trans ((Hb1.out.trans (hb2.mono Hb1.out.size)).mono Hb0.out.size));clear hb2 hsh Hb1;go_wp2
       go_roundw
       case rel=>exact⟨k+1,by omega,by go_num,Hgg,Hb2⟩
       case measure=>simp[intOf];omega
      ·rw[decide_eq_false hshort] at hsh;have Hgg:Hid (sgo l=4):=by show _=_;rw[Hgo.out,if_neg hshort]
       clear hshort Hgo Hsh
       go_wp2_with fail
       clear k0 k1;refine cm_ hsh ?_;rintro e w2 ⟨rfl,hb2⟩;have Hb2:=hd_ (Hb0.out.trans ((Hb1.out.trans (hb2.mono Hb1.out.size)).mono Hb0.out.size));clear hb2 hsh Hb1;go_wp2;go_ret;exact⟨by rw[Hv.out,Hgg.out];rfl,Hb2.out⟩
     ·have hc1:Kc Tryz.prog 139 #[.agg #[.string s,.string t]] (wr.alloc (.cells #[.string s,.string t] 101)) (.int .i64 2) :=
       Zhp _ s t (Nat.le_trans Hsz.out.1 (by decide)) (Nat.le_trans Hsz.out.2 (by decide)) (fun ⟨q,h1,h2,h3⟩=>hq ⟨q,by rw[h1,h2];rfl,h3⟩) (HL.out.below (Hb0.out))
      have Hgg:Hid (sgo l=2):=by
       show _=_
       rw[Hg.out,Hd.out]
       show (if _ then _ else _)=_
       rw[if_neg hq]
      clear hq Hg Hd
      go_wp2_with fail
      generalize wr.alloc (.cells #[.string s,.string t] 101)=W0 at *
      clear c0 c1;refine cm_ hc1 ?_;rintro e w1 ⟨rfl,hb1⟩;have Hb2:=hd_ (Hb0.out.trans (hb1.mono Hb0.out.size));clear hb1 hc1;go_wp2;go_ret;exact⟨by rw[Hv.out,Hgg.out];rfl,Hb2.out⟩
    ·have hlt':¬ (k:Int)<n:=by omega
     have Hvv:Hid (sgo l=0):=by
      show _=_
      rw[Hg.out,List.drop_of_length_le (by rw[Hn.out];omega)]
      rfl
     go_wp2;go_ret;exact⟨by rw[Hv.out,Hvv.out];rfl,Hb.out⟩
  ·have hnil:l=[]:=List.eq_nil_of_length_eq_zero (by omega)
   subst hnil;have hn0:n=0:=by rw[← hln];rfl
   subst hn0;have Hv0:Hid (sgo []=0):=rfl;rw[show ([]:List (ByteArray×ByteArray)).length=0 from rfl]
   have hz:((0:Nat):Int)=0:=rfl;go_enter Tryz.func77,Tryz.ntmps77
   go_wp2_with fail
   go_loopw [14] (fun i wr=>i = .int .i64 0∧Hid (Below w.heap.size w wr)) (fun i _=>0)
   case atStart=>exact⟨rfl,Below.refl _ _⟩
   case round =>
    obtain⟨rfl,Hb⟩:=hrel;go_wp2;go_ret;exact⟨by rw[Hv.out,Hv0.out];rfl,Hb.out⟩
 ·have Hv:Hid (Zck n l=5):=by show _=_;unfold Zck;rw[if_neg hln]
  have hne:((l.length:Int)==(n:Int))=false:=by rw[beq_eq_false_iff_ne];omega
  clear hr;generalize l.length=m at *
  go_enter Tryz.func77,Tryz.ntmps77;go_wp2;go_ret;exact⟨by rw[Hv.out];rfl,Below.refl _ _⟩
end Go.Proofs.YtbielfplgbammaaGreatDoor

namespace Go.Proofs.YtbielfplgbammaaGreatDoor
open Go.RowKit
abbrev Zch:=List (ByteArray×ByteArray)
def RdL (w:World) (a:Option Addr) (ls:List Zch):Prop :=
 ls=[]∨∃ b off,a=some ⟨b,off,none⟩∧b<w.heap.size∧∀ i,i<ls.length→∃ a' c',w.cell? ⟨b,off+i,none⟩=some (.slice a' (ls.getD i []).length c')∧Rd w a' (Qf (ls.getD i []))
theorem RdL.below{w w':World}{a:Option Addr}{ls:List Zch}{B:Nat}(h:RdL w a ls)(hb:Below B w w')(hB:w.heap.size≤B):RdL w' a ls:=by
 rcases h with h|⟨b,off,h1,h2,h3⟩
 ·exact .inl h
 ·refine .inr ⟨b,off,h1,Nat.lt_of_lt_of_le h2 hb.size,fun i hi=>?_⟩
  obtain⟨a',c',h4,h5⟩:=h3 i hi;exact⟨a',c',by rw[hb.cell (p:=⟨b,off+i,none⟩) (by show b<B;omega)];exact h4,h5.below hb hB⟩
def Ssz (l:Zch):Prop:=∀ x∈l,x.1.size≤1000000∧x.2.size≤1000000
noncomputable def Zq5 (ps:List Int) (l:Zch):Int:=if Qv ps=0 then Zck ps.length l else Qv ps
noncomputable def lgo (n:Nat):List Zch→Int
 | []=>0
 | l::ls=>if Zck n l=0 then lgo n ls else Zck n l
noncomputable def Zj4 (ps:List Int) (ls:List Zch):Int:=if Qv ps=0 then lgo ps.length ls else Qv ps
theorem Zd6(w:World)(a1 a2:Option Addr)(c1 c2:Nat)(ps:List Int)(l:Zch)(hp:Rd w a1 (Qw ps))(hi:Zf3 ps)(hl1:ps.length≤1000000)
  (hr:Rd w a2 (Qf l)) (hl:l.length≤1000000) (hs:Ssz l) (L:Qx w) :
  Kc Tryz.prog 78 #[.slice a1 ps.length c1,.slice a2 l.length c2] w (.int .i64 (Zq5 ps l)):=by
 unfold Kc;have H1:=hd_ (Zq w a1 c1 ps hp hi hl1);have H2:Hid (∀ W,Below w.heap.size w W→Kc Tryz.prog 77 #[.slice a1 ps.length c1,.slice a2 l.length c2] W (.int .i64 (Zck ps.length l))):=fun W hW =>
  Zik W a1 a2 c1 c2 ps.length l (hr.below hW nr_) hl hl1 hs (L.below hW)
 have Hv:Hid (Zq5 ps l=if Qv ps=0 then Zck ps.length l else Qv ps):=rfl
 clear hp hi hl1 hr hl hs L;generalize Zq5 ps l=v at *
 generalize Qv ps=p at *
 generalize Zck ps.length l=q at *
 generalize ps.length=n at *
 generalize l.length=m at *
 by_cases h0:p=0
 ·subst h0;have Hvv:Hid (v=q):=by show _=_;rw[Hv.out,if_pos rfl]
  clear Hv;go_enter Tryz.func78,Tryz.ntmps78
  go_wp2_with fail
  refine cm_ H1.out ?_;rintro e w1 ⟨rfl,hb1⟩;have Hb1:=hd_ hb1;clear hb1 H1
  go_wp2_with fail
  refine cm_ (H2.out w1 Hb1.out) ?_;rintro e w2 ⟨rfl,hb2⟩;have Hb2:=hd_ (Hb1.out.trans (hb2.mono Hb1.out.size));clear hb2 H2 Hb1;go_wp2;go_ret;exact⟨by rw[Hvv.out];rfl,Hb2.out⟩
 ·have Hvv:Hid (v=p):=by show _=_;rw[Hv.out,if_neg h0]
  have hp0:(p==0)=false:=by rw[beq_eq_false_iff_ne];exact h0
  clear Hv h0;go_enter Tryz.func78,Tryz.ntmps78
  go_wp2_with fail
  refine cm_ H1.out ?_;rintro e w1 ⟨rfl,hb1⟩;have Hb1:=hd_ hb1;clear hb1 H1;go_wp2;go_ret;exact⟨by rw[Hvv.out];rfl,Hb1.out⟩
theorem Yc(w:World)(a1 a2:Option Addr)(c1 c2:Nat)(ps:List Int)(ls:List Zch)(hp:Rd w a1 (Qw ps))(hi:Zf3 ps)(hl1:ps.length≤1000000)
  (hr:RdL w a2 ls) (hl:ls.length≤1000000) (hl2:∀ l∈ls,l.length≤1000000∧Ssz l) (L:Qx w) :
  Kc Tryz.prog 20 #[.slice a1 ps.length c1,.slice a2 ls.length c2] w (.int .i64 (Zj4 ps ls)):=by
 unfold Kc;have H1:=hd_ (Zq w a1 c1 ps hp hi hl1);have H2:Hid (∀ W a c l,Below w.heap.size w W→l∈ls→Rd W a (Qf l)→Kc Tryz.prog 77 #[.slice a1 ps.length c1,.slice a l.length c] W (.int .i64 (Zck ps.length l))):=fun W a c l hW hm hrd =>
  Zik W a1 a c1 c ps.length l hrd (hl2 l hm).1 hl1 (hl2 l hm).2 (L.below hW)
 have Hv:Hid (Zj4 ps ls=if Qv ps=0 then lgo ps.length ls else Qv ps):=rfl
 have Hr:=hd_ hr;clear hp hi hl1 hl2 L hr;generalize Zj4 ps ls=v at *
 generalize Qv ps=p at *
 generalize ps.length=n at *
 by_cases h0:p=0
 ·subst h0;have Hvv:Hid (v=lgo n ls):=by show _=_;rw[Hv.out,if_pos rfl]
  clear Hv;generalize hm:ls.length=m at *
  have Hm:=hd_ hm;clear hm;go_enter Tryz.func20,Tryz.ntmps20
  go_wp2_with fail
  refine cm_ H1.out ?_;rintro e w1 ⟨rfl,hb1⟩;have Hb1:=hd_ hb1;clear hb1 H1
  go_wp2_with fail
  go_loopw [16] (fun i wr=>∃ k:Nat,k≤m∧i = .int .i64 k∧Hid (lgo n ls=lgo n (ls.drop k))∧Hid (Below w.heap.size w wr)) (fun i _=>m-(intOf i).toNat)
  case atStart=>exact⟨0,Nat.zero_le _,rfl,rfl,Hb1⟩
  case round =>
   obtain⟨k,hk,rfl,Hg,Hb⟩:=hrel
   by_cases hlt:k<m
   ·have hlt':(k:Int)<m:=by omega
    have hkl:k<ls.length:=by rw[Hm.out];exact hlt
    rcases Hr.out with hnil|⟨b,off,rfl,hb,hcells⟩
    ·rw[hnil] at hkl;exact absurd hkl (Nat.not_lt_zero _)
    obtain⟨a',c',cx,hrd⟩:=hcells k hkl;have hgl:ls.getD k []=ls[k]:=by rw[List.getD_eq_getElem?_getD,List.getElem?_eq_getElem hkl];rfl
    rw[← Hb.out.cell (p:=⟨b,off+k,none⟩) hb,hgl] at cx;rw[hgl] at hrd;have Hd:Hid (ls.drop k=ls[k]::ls.drop (k+1)):=List.drop_eq_getElem_cons hkl;have hmem:ls[k]∈ls:=List.getElem_mem hkl;have hc:=H2.out wr a' c' ls[k] Hb.out hmem (hrd.below Hb.out nr_);clear hgl hcells hrd hmem;generalize ls[k]=l at *
    generalize l.length=q at *
    by_cases hs:Zck n l=0
    ·have Hgg:Hid (lgo n ls=lgo n (ls.drop (k+1))):=by
      show _=_
      rw[Hg.out,Hd.out]
      show (if _ then _ else _)=_
      rw[if_pos hs]
     rw[hs] at hc;clear hs Hg Hd
     go_wp2_with fail
     refine cm_ hc ?_;rintro e w2 ⟨rfl,hb2⟩;have Hb2:=hd_ (Hb.out.trans (hb2.mono Hb.out.size));clear hb2 hc Hb;go_wp2
     go_roundw
     case rel=>exact⟨k+1,by omega,by go_num,Hgg,Hb2⟩
     case measure=>simp[intOf];omega
    ·have Hgg:Hid (lgo n ls=Zck n l):=by
      show _=_
      rw[Hg.out,Hd.out]
      show (if _ then _ else _)=_
      rw[if_neg hs]
     have hs0:(Zck n l==0)=false:=by rw[beq_eq_false_iff_ne];exact hs
     clear hs Hg Hd;generalize Zck n l=z at *
     go_wp2_with fail
     refine cm_ hc ?_;rintro e w2 ⟨rfl,hb2⟩;have Hb2:=hd_ (Hb.out.trans (hb2.mono Hb.out.size));clear hb2 hc Hb;go_wp2;go_ret;exact⟨by rw[Hvv.out,Hgg.out];rfl,Hb2.out⟩
   ·have hlt':¬ (k:Int)<m:=by omega
    have Hgg:Hid (lgo n ls=0):=by
     show _=_
     rw[Hg.out,List.drop_of_length_le (by rw[Hm.out];omega)]
     rfl
    go_wp2;go_ret;exact⟨by rw[Hvv.out,Hgg.out];rfl,Hb.out⟩
 ·have Hvv:Hid (v=p):=by show _=_;rw[Hv.out,if_neg h0]
  have hp0:(p==0)=false:=by rw[beq_eq_false_iff_ne];exact h0
  clear Hv h0;generalize ls.length=m at *
  go_enter Tryz.func20,Tryz.ntmps20
  go_wp2_with fail
  refine cm_ H1.out ?_;rintro e w1 ⟨rfl,hb1⟩;have Hb1:=hd_ hb1;clear hb1 H1;go_wp2;go_ret;exact⟨by rw[Hvv.out];rfl,Hb1.out⟩
def Zcl (acc x:List Rat) (f:Rat):List Rat:=List.zipWith (fun o y=>o+y*f) acc x
def Zh1 (n:Nat) (ls:List (List Rat)) (fs:List Rat) (k:Nat):List Rat:=((ls.zip fs).take k).foldl (fun acc p=>Zcl acc p.1 p.2) (List.replicate n 0)
def Zd (n:Nat) (ls:List (List Rat)) (fs:List Rat):List Rat:=(ls.zip fs).foldl (fun acc p=>Zcl acc p.1 p.2) (List.replicate n 0)
def Zqe (acc x:List Rat) (f:Rat) (j:Nat):List Rat:=(Zcl acc x f).take j++acc.drop j
theorem Yv(acc x:List Rat)(f:Rat)(h:x.length=acc.length):(Zcl acc x f).length=acc.length:=by simp[Zcl,h]
theorem Zb8(acc x:List Rat)(f:Rat)(j:Nat)(h:x.length=acc.length)(hj:j≤acc.length):(Zqe acc x f j).length=acc.length:=by
 simp only[Zqe,List.length_append,List.length_take,List.length_drop,Yv acc x f h];omega
theorem Zvf(acc x:List Rat)(f:Rat)(j:Nat)(h:x.length=acc.length)(hj:j<acc.length)(hh:j<(Zqe acc x f j).length):(Zqe acc x f j)[j]=acc[j]:=by
 simp only[Zqe];rw[List.getElem_append_right (by rw[List.length_take,Yv acc x f h];omega)]
 simp only[List.getElem_drop,List.length_take,Yv acc x f h];congr 1;omega
theorem Zve(acc x:List Rat)(f:Rat)(j:Nat)(h:x.length=acc.length)(hj:j<acc.length):(Zqe acc x f j).set j (acc[j]+x[j]*f)=Zqe acc x f (j+1):=by
 have hl:=Yv acc x f h;unfold Zqe;rw[List.set_append_right _ _ (by rw[List.length_take];omega),List.length_take,hl,Nat.min_eq_left (by omega),Nat.sub_self,List.drop_eq_getElem_cons hj,List.set_cons_zero,
  List.take_add_one,List.getElem?_eq_getElem (show j<(Zcl acc x f).length by omega),List.append_assoc]
 have:(Zcl acc x f)[j]=acc[j]+x[j]*f:=by simp[Zcl]
 rw[this];rfl
theorem Zsy(acc x:List Rat)(f:Rat):Zqe acc x f 0=acc:=by simp[Zqe]
theorem Zvg(acc x:List Rat)(f:Rat)(h:x.length=acc.length):Zqe acc x f acc.length=Zcl acc x f:=by
 unfold Zqe;rw[List.drop_length,List.append_nil,List.take_of_length_le (by rw[Yv acc x f h];exact Nat.le_refl _)]
theorem Zgn(n ls fs):Zh1 n ls fs 0=List.replicate n 0:=rfl
theorem Zgo(n:Nat)(ls:List (List Rat))(fs:List Rat)(k:Nat)(h1:k<ls.length)(h2:k<fs.length):Zh1 n ls fs (k+1)=Zcl (Zh1 n ls fs k) ls[k] fs[k]:=by
 unfold Zh1;rw[List.take_add_one,List.getElem?_eq_getElem (by rw[List.length_zip];omega),List.foldl_append]
 simp
theorem Zoe(n:Nat)(ls:List (List Rat))(fs:List Rat)(k:Nat)(h:ls.length≤k):Zh1 n ls fs k=Zd n ls fs:=by
 unfold Zh1 Zd;rw[List.take_of_length_le (by rw[List.length_zip];omega)]
theorem Yn(n:Nat)(ls:List (List Rat))(fs:List Rat)(hl:∀ l∈ls,l.length=n)(hf:fs.length=ls.length):∀ k,k≤ls.length→(Zh1 n ls fs k).length=n
 | 0,_=>by rw[Zgn,List.length_replicate]
 | k+1,h=>by
  have ih:=Yn n ls fs hl hf k (by omega)
  rw[Zgo n ls fs k (by omega) (by omega),Yv _ _ _ (by rw[ih];exact hl _ (List.getElem_mem _)),ih]
theorem Zb1(n:Nat)(ls:List (List Rat))(fs:List Rat)(hl:∀ l∈ls,l.length=n)(hf:fs.length=ls.length):(Zd n ls fs).length=n:=by
 rw[← Zoe n ls fs ls.length nr_];exact Yn n ls fs hl hf _ nr_
theorem Sm.zero:Sm 1 0:=⟨by decide,by decide⟩
theorem Zmt(n:Nat)(ls:List (List Rat))(fs:List Rat)(Dx Df:Nat)(hl:∀ l∈ls,∀ q∈l,Sm Dx q)(hfq:∀ q∈fs,Sm Df q)(hf:fs.length=ls.length):∀ k,k≤ls.length→∀ q∈Zh1 n ls fs k,Sm (1+k*(Dx+Df+1)) q
 | 0,_,q,hq=>by
  rw[Zgn] at hq;rw[List.eq_of_mem_replicate hq]
  simpa using Sm.zero
 | k+1,h,q,hq=>by
  have ih:=Zmt n ls fs Dx Df hl hfq hf k (by omega)
  rw[Zgo n ls fs k (by omega) (by omega)] at hq
  unfold Zcl at hq;obtain⟨i,hi,hqi⟩:=List.mem_iff_getElem.1 hq;rw[List.getElem_zipWith] at hqi;rw[← hqi];have h1:=ih _ (List.getElem_mem (show i<(Zh1 n ls fs k).length by simp at hi;omega))
  have h2:=hl _ (List.getElem_mem (show k<ls.length by omega)) _ (List.getElem_mem (show i<(ls[k]).length by simp at hi;omega))
  have h3:=hfq _ (List.getElem_mem (show k<fs.length by omega))
  exact(h1.add (h2.mul h3)).le (by rw[Nat.add_mul];omega)
theorem Zbd(l:List Rat)(k:Nat)(h:k<l.length):((l.map qs).getD k default)=qs l[k]:=by
 rw[List.getD_eq_getElem?_getD,List.getElem?_map,List.getElem?_eq_getElem h];rfl
theorem Zlj(w:World)(a b:Rat)(D E:Nat)(ha:Sm D a)(hb:Sm E b)(h6:D+E+2≤1000000)(L:Qx w):
  ∀ d os,Calls Tryz.prog 206 #[fr a,fr b] (Go.Sort.grow (redrawn w d) os) fun e w''=>e = .returned (fr (a*b))∧∃ p:Regrown,w''=Go.Sort.grow (redrawn w p.d) p.os:=fun d os =>
 Calls.regrown_of (Qb4 _ a b D E ha hb h6 (L.below (below_regrown w d os)))
theorem Zmh(w:World)(a b:Rat)(D E:Nat)(ha:Sm D a)(hb:Sm E b)(h6:D+E+2≤1000000)(L:Qx w):
  ∀ d os,Calls Tryz.prog 207 #[fr a,fr b] (Go.Sort.grow (redrawn w d) os) fun e w''=>e = .returned (fr (a+b))∧∃ p:Regrown,w''=Go.Sort.grow (redrawn w p.d) p.os:=fun d os =>
 Calls.regrown_of (Qb8 _ a b D E ha hb h6 (L.below (below_regrown w d os)))
theorem Zjk(w:World)(a2 a3:Option Addr)(c2 c3 n:Nat)(ls:List (List Rat))(fs:List Rat)(Dx Df:Nat)
  (hr:RdL w a2 (ls.map (List.map qs))) (hf:Rd w a3 (Kg fs)) (hlen:∀ l∈ls,l.length=n) (hfl:fs.length=ls.length) (hx:∀ l∈ls,∀ q∈l,Sm Dx q) (hfq:∀ q∈fs,Sm Df q)
  (hn:n≤1000) (hm:ls.length≤1000) (hD:3+(ls.length+1)*(Dx+Df+1)≤1000000) (L:Qx w) :
  Zbv 141 #[.int .i64 n,.slice a2 ls.length c2,.slice a3 fs.length c3] w (Zd n ls fs):=by
 unfold Zbv;have HL:=hd_ L;have Hr:=hd_ hr;have Hf:=hd_ hf;have Hlen:=hd_ hlen;have Hx:=hd_ hx;have Hfq:=hd_ hfq;have HD:=hd_ hD;have Hz:=hd_ (Zn5 w n hn L);have Hfl:=hd_ hfl;have Hvl:=hd_ (Zb1 n ls fs hlen hfl);rw[hfl];clear L hr hf hlen hx hfq hfl hD;generalize hmm:ls.length=m at *
 have Hm:=hd_ hmm;clear hmm;rw[Hvl.out];go_enter Tryz.func141,Tryz.ntmps141
 go_wp2_with fail
 refine cm_ Hz.out ?_;rintro e w1 ⟨a,c,rfl,hown,hb1⟩;rw[show (List.replicate n (0:Rat)).length=n from List.length_replicate]
 have Hown:=hd_ hown;have Hb1:=hd_ hb1;clear hown hb1 Hz
 go_wp2_with fail
 go_loopw [16] (fun i wr=>∃ k:Nat,k≤m∧i = .int .i64 k∧Hid (Zu wr w.heap.size a c (Zh1 n ls fs k))∧Hid (Below w.heap.size w wr)) (fun i _=>m-(intOf i).toNat)
 case atStart=>exact⟨0,Nat.zero_le _,rfl,by rw[Zgn];exact Hown,Hb1⟩
 case round =>
  obtain⟨k,hk,rfl,Hown,Hb⟩:=hrel
  by_cases hlt:k<m
  ·have hlt':(k:Int)<m:=by omega
   have hkl:k<ls.length:=by rw[Hm.out];exact hlt
   rcases Hr.out with hnil|⟨b,off,rfl,hb,hcells⟩
   ·rw[List.map_eq_nil_iff] at hnil;rw[hnil] at hkl;exact absurd hkl (Nat.not_lt_zero _)
   obtain⟨a',c',cx,hrd⟩:=hcells k (by rw[List.length_map];exact hkl)
   have hgl:(ls.map (List.map qs)).getD k []=ls[k].map qs:=by rw[List.getD_eq_getElem?_getD,List.getElem?_map,List.getElem?_eq_getElem hkl];rfl
   have hlk:=Hlen.out _ (List.getElem_mem hkl);rw[← Hb.out.cell (p:=⟨b,off+k,none⟩) hb,hgl,List.length_map,hlk] at cx;rw[hgl] at hrd;have Hrd:=hd_ hrd;have Hlk:=hd_ hlk;have hk0:(0:Int)≤k:=by omega
   clear hgl hcells hrd hlk
   go_wp2_with fail
   have How:=hd_ Hb.out
   go_loopw [23] (fun j wr=>∃ i:Nat,i≤n∧j = .int .i64 i∧Hid (Zu wr w.heap.size a c (Zqe (Zh1 n ls fs k) ls[k] (fs.getD k 0) i))∧Hid (Below w.heap.size w wr)) (fun j _=>n-(intOf j).toNat)
   case atStart=>exact⟨0,Nat.zero_le _,rfl,by rw[Zsy];exact Hown,Hb⟩
   case round =>
    obtain⟨i,hi,rfl,Hown2,Hb2⟩:=hrel
    by_cases hli:i<n
    ·have hli':(i:Int)<n:=by omega
     have hacc:=Yn n ls fs Hlen.out (by rw[Hfl.out,Hm.out]) k (by omega)
     have hil:i<(ls[k]).length:=by rw[Hlk.out];exact hli
     have hia:i<(Zh1 n ls fs k).length:=by rw[hacc];exact hli
     have hxl:(ls[k]).length=(Zh1 n ls fs k).length:=by rw[hacc];exact Hlk.out
     have hkf:k<fs.length:=by rw[Hfl.out];exact hlt
     have hfk:fs.getD k 0=fs[k]:=by rw[List.getD_eq_getElem?_getD,List.getElem?_eq_getElem hkf];rfl
     -- the element of the row
     obtain⟨bx,ox,rfl,hbx,hcx⟩:=Hrd.out.open (by rw[Qp,List.length_map,Hlk.out];omega)
     obtain⟨x0,x1⟩:=Zy hcx i (by rw[List.length_map];exact hil)
     rw[← Hb2.out.cell (p:=⟨bx,ox+i*2,none⟩) hbx,Zbd _ i hil] at x0;rw[← Hb2.out.cell (p:=⟨bx,ox+i*2+1,none⟩) hbx,Zbd _ i hil] at x1
     -- the factor
     obtain⟨bf,of,rfl,hbf,hcf⟩:=Hf.out.open (by rw[Yy];omega)
     obtain⟨y0,y1⟩:=Zy hcf k (by rw[List.length_map];exact hkf)
     rw[← Hb2.out.cell (p:=⟨bf,of+k*2,none⟩) hbf,Zbd _ k hkf] at y0;rw[← Hb2.out.cell (p:=⟨bf,of+k*2+1,none⟩) hbf,Zbd _ k hkf] at y1
     -- the sum so far
     have hml:=Zb8 (Zh1 n ls fs k) ls[k] (fs.getD k 0) i hxl (by omega)
     obtain⟨g,rfl,hBg,hgl,-,hco,hfr⟩:=Hown2.out.open (by rw[hml,hacc];omega)
     obtain⟨o0,o1⟩:=hco i (by rw[hml];exact hia)
     rw[Zvf _ _ _ i hxl hia (by rw[hml];exact hia)] at o0 o1
     have f0:=hfr (i*2);have f1:=hfr (i*2+1);have sx:=Hx.out _ (List.getElem_mem hkl) _ (List.getElem_mem hil);have sf:=Hfq.out _ (List.getElem_mem hkf);have sa:=Zmt n ls fs Dx Df Hx.out Hfq.out (by rw[Hfl.out,Hm.out]) k (by omega) _ (List.getElem_mem hia)
     have hDk:(k+1)*(Dx+Df+1)≤(m+1)*(Dx+Df+1):=Nat.mul_le_mul_right _ (by omega)
     have hDk2:(k+1)*(Dx+Df+1)=k*(Dx+Df+1)+(Dx+Df+1):=by rw[Nat.add_mul,Nat.one_mul]
     have hDD:=HD.out;have hD1:(m+1)*(Dx+Df+1)=m*(Dx+Df+1)+(Dx+Df+1):=by rw[Nat.add_mul,Nat.one_mul]
     have HLr:=hd_ (HL.out.below Hb2.out);have Hset:=hd_ (Zve (Zh1 n ls fs k) ls[k] fs[k] i hxl hia);rw[hfk] at Hown2;have Hfk:=hd_ hfk;have HM:Hid (∀ W,Below wr.heap.size wr W→∀ d os,Calls Tryz.prog 206 #[fr (ls[k])[i],fr fs[k]] (Go.Sort.grow (redrawn W d) os) fun e w''=>e = .returned (fr ((ls[k])[i]*fs[k]))∧∃ p:Regrown,w''=Go.Sort.grow (redrawn W p.d) p.os):=fun W hW =>
      Zlj W _ _ Dx Df sx sf (by omega) (HLr.out.below hW)
     have HA:Hid (∀ W,Below wr.heap.size wr W→∀ d os,Calls Tryz.prog 207 #[fr (Zh1 n ls fs k)[i],fr ((ls[k])[i]*fs[k])] (Go.Sort.grow (redrawn W d) os) fun e w''=>e = .returned (fr ((Zh1 n ls fs k)[i]+(ls[k])[i]*fs[k]))∧∃ p:Regrown,w''=Go.Sort.grow (redrawn W p.d) p.os):=fun W hW =>
      Zmh W _ _ (1+k*(Dx+Df+1)) (Dx+Df) sa (sx.mul sf) (by omega) (HLr.out.below hW)
     unfold fr fv at HM HA;clear sx sf sa hDk hDk2 hDD hD1 hcx hcf hco hfr hfk hml;generalize (Zh1 n ls fs k)[i]=oq at *
     generalize (ls[k])[i]=xq at *
     generalize fs[k]=fq at *
     simp only[qs] at x0 x1 y0 y1;have Hb0:=hd_ (Hb2.out.alloc Hb2.out.size (.cells #[.string (itx xq.num),.string (dec xq.den)] 101));have Hwr:=hd_ ((Below.refl wr.heap.size wr).alloc nr_ (.cells #[.string (itx xq.num),.string (dec xq.den)] 101));have Hnew:Hid ((wr.alloc (.cells #[.string (itx xq.num),.string (dec xq.den)] 101)).heap[wr.heap.size]?=some (.cells #[.string (itx xq.num),.string (dec xq.den)] 101 (0,0))):=heap_alloc_new wr _;have hM:=HM.out _ Hwr.out;have hA:=HA.out _ Hwr.out;have hown3:=Hown2.out.below Hwr.out nr_;have Ho0:=hd_ ((Hwr.out.cell (p:=⟨g,i*2,none⟩) hgl).trans o0);have Ho1:=hd_ ((Hwr.out.cell (p:=⟨g,i*2+1,none⟩) hgl).trans o1);have Hy0:=hd_ ((Hwr.out.cell (p:=⟨bf,of+k*2,none⟩) (Nat.lt_of_lt_of_le hbf Hb2.out.size)).trans y0);have Hy1:=hd_ ((Hwr.out.cell (p:=⟨bf,of+k*2+1,none⟩) (Nat.lt_of_lt_of_le hbf Hb2.out.size)).trans y1);have Hf0:=hd_ f0;have Hf1:=hd_ f1;have Hown3:=hd_ hown3;clear o0 o1 y0 y1 f0 f1 hown3 HM HA Hown2 Hb2
     go_wp2_with fail
     generalize wr.alloc (.cells #[.string (itx xq.num),.string (dec xq.den)] 101)=W0 at *
     obtain⟨k0,k1,-,-⟩:=Ka Hnew.out;have q0:=cell_regrown k0;have q1:=cell_regrown k1;have q2:=cell_regrown Ho0.out;have q3:=cell_regrown Ho1.out;have q4:=cell_regrown Hy0.out;have q5:=cell_regrown Hy1.out;clear k0 k1 x0 x1;refine Kz 13 (by kernel_rfl) (by kernel_rfl) ?_
     simp only[List.take_succ_cons,List.take_zero,List.drop_succ_cons,List.drop_zero]
     repeat (first | go_big_quiet_step (first | with_reducible exact hM _ _ | with_reducible exact hA _ _) | quiet_step (first | with_reducible exact hM _ _ | with_reducible exact hA _ _))
     refine wpQuiet_nil ?_;intro w8 hw8;obtain⟨⟨dq,osq⟩,rfl⟩:=hw8;have hb8:=below_regrown W0 dq osq;have c0:=(hb8.cell (p:=⟨g,i*2,none⟩) (block_lt_of_cell Ho0.out)).trans Ho0.out;have c1:=(hb8.cell (p:=⟨g,i*2+1,none⟩) (block_lt_of_cell Ho1.out)).trans Ho1.out;have Hown4:=hd_ (Hown3.out.below hb8 nr_);have Hb8:=hd_ (Hb0.out.trans (hb8.mono Hb0.out.size));clear hb8 hM hA q0 q1 q2 q3 q4 q5 Hb0 Hown3 Ho0 Ho1 Hy0 Hy1 Hnew;generalize Go.Sort.grow (redrawn W0 dq) osq=w8 at *
     have f0:w8.frozen? ⟨g,i*2,none⟩=false:=by
      obtain⟨g',hg',-,-,-,-,h5⟩:=Zu.open Hown4.out (by rw[Zb8 _ _ _ _ (by rw[Hlk.out];exact(Yn n ls fs Hlen.out (by rw[Hfl.out,Hm.out]) k (by omega)).symm) (by omega)];omega)
      simp only[Option.some.injEq,Addr.mk.injEq,and_true] at hg';rw[hg'];exact h5 _
     have f1:w8.frozen? ⟨g,i*2+1,none⟩=false:=by
      obtain⟨g',hg',-,-,-,-,h5⟩:=Zu.open Hown4.out (by rw[Zb8 _ _ _ _ (by rw[Hlk.out];exact(Yn n ls fs Hlen.out (by rw[Hfl.out,Hm.out]) k (by omega)).symm) (by omega)];omega)
      simp only[Option.some.injEq,Addr.mk.injEq,and_true] at hg';rw[hg'];exact h5 _
     go_wp2
     go_roundw
     case rel =>
      refine⟨i+1,by omega,by go_num,?_,?_⟩
      ·have:=Zu.store Hown4.out i (by rw[Zb8 _ _ _ _ (by rw[Hlk.out];exact(Yn n ls fs Hlen.out (by rw[Hfl.out,Hm.out]) k (by omega)).symm) (by omega)];omega) (oq+xq*fq)
       rw[Hset.out] at this;rw[Hfk.out];exact this
      ·exact(Hb8.out.setCell (p:=⟨g,i*2,none⟩) hBg _).setCell (p:=⟨g,i*2+1,none⟩) hBg _
     case measure=>simp[intOf];omega
    ·have hli':¬ (i:Int)<n:=by omega
     have hin:i=n:=by omega
     have Hown3:Hid (Zu wr w.heap.size a c (Zh1 n ls fs (k+1))):=by
      have hacc:=Yn n ls fs Hlen.out (by rw[Hfl.out,Hm.out]) k (by omega)
      have hkf:k<fs.length:=by rw[Hfl.out];exact hlt
      have:=Hown2.out
      have hall:=Zvg (Zh1 n ls fs k) ls[k] (fs.getD k 0) (by rw[hacc];exact Hlk.out)
      rw[hacc] at hall;rw[hin,hall] at this
      show Zu _ _ _ _ _
      rw[Zgo n ls fs k hkl hkf];rw[List.getD_eq_getElem?_getD,List.getElem?_eq_getElem hkf] at this;exact this
     clear Hown2 hin;go_wp2
     go_roundw
     case rel=>exact⟨k+1,by omega,by go_num,Hown3,Hb2⟩
     case measure=>simp[intOf];omega
  ·have hlt':¬ (k:Int)<m:=by omega
   have Hown2:Hid (Zu wr w.heap.size a c (Zd n ls fs)):=by
    have:=Hown.out
    rw[Zoe n ls fs k (by rw[Hm.out];omega)] at this
    exact this
   go_wp2;go_ret;exact⟨a,c,rfl,Hown2.out,Hb.out⟩
end Go.Proofs.YtbielfplgbammaaGreatDoor
