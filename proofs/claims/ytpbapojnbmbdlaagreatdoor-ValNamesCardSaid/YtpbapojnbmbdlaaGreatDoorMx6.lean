/- For the primes of a number and any val over them with a first element from -1 to 2000, and elements near the places, Name returns its name, and Parse the val, or the first error. No condition: the statement holds for every input. -/
import Derived.Deep.CutRange
import Derived.BigQuiet
import Derived.Test.YtpbapojnbmbdlaaGreatDoorCards
import Derived.Test.YtpbapojnbmbdlaaGreatDoorTie
import Derived.SevenTiedAt
import Derived.Test.YtpbapojnbmbdlaaGreatDoorMx5
namespace Go.Proofs.YtpbapojnbmbdlaaGreatDoor
open Go.RowKit
theorem tmod_14 (z:Int) : -13≤z.tmod 14∧z.tmod 14≤13:=by
 have h1:=Int.tmod_lt_of_pos z (show (0:Int) < 14 by decide)
 have h2:=Int.lt_tmod_of_pos z (show (0:Int) < 14 by decide)
 omega
theorem tmod_2001 (z:Int) : -2000≤z.tmod 2001∧z.tmod 2001≤2000:=by
 have h1:=Int.tmod_lt_of_pos z (show (0:Int) < 2001 by decide)
 have h2:=Int.lt_tmod_of_pos z (show (0:Int) < 2001 by decide)
 omega
noncomputable def xW (ps:List Int) (s:Int) (a:Nat→Int) (j:Nat):Int:=rnd ps (2 * s) j + (a ((j - 1) % 3)).tmod 14
noncomputable def rowW (ps:List Int) (first s:Int) (a:Nat→Int) (k:Nat):List Int:=(List.range k).map fun j=>if j=0 then first else xW ps s a j
noncomputable def mW (ps:List Int) (s:Int) (a:Nat→Int) (j:Nat):Int:=wartsV ps s j (xW ps s a j)
theorem rowW_length (ps:List Int) (first s:Int) (a:Nat→Int) (k:Nat):(rowW ps first s a k).length=k:=by simp [rowW]
theorem rowW_succ (ps:List Int) (first s:Int) (a:Nat→Int) {k:Nat} (h:1≤k):rowW ps first s a (k + 1)=rowW ps first s a k ++ [xW ps s a k]:=by
 unfold rowW
 rw [List.range_succ,List.map_append,List.map_singleton,if_neg (by omega)]
theorem rowW_getD (ps:List Int) (first s:Int) (a:Nat→Int) {j k:Nat} (h:j < k):(rowW ps first s a k).getD j 0=if j=0 then first else xW ps s a j:=by
 unfold rowW
 rw [List.getD_eq_getElem?_getD,List.getElem?_map,List.getElem?_range h]
 rfl
theorem mW_le (ps:List Int) (s:Int) (a:Nat→Int) (j:Nat):0≤mW ps s a j∧mW ps s a j≤26:=by
 unfold mW wartsV xW
 have:=wartN_le (rnd ps (2 * s) j + (a ((j - 1) % 3)).tmod 14 - rnd ps (2 * s) j) (lessV ps s j (rnd ps (2 * s) j) 0)
 have:=tmod_14 (a ((j - 1) % 3))
 omega
theorem rowW_code {ps:List Int} (V:VP ps) (first s:Int) (a:Nat→Int) (hf:first.natAbs≤2000) (hs:1≤s∧s≤2000):vcode ps (rowW ps first s a ps.length)=0:=by
 refine vcode_small V (rowW_length _ _ _ _ _) fun x hx=>?_
 obtain ⟨j,hj,rfl⟩:=List.mem_map.1 hx
 have hj':=List.mem_range.1 hj
 split
 ·omega
 ·have:=rnd_bound V (show 0≤2 * s by omega) (by omega) hj'
  have:=tmod_14 (a ((j - 1) % 3))
  unfold xW
  omega
def wantR (w0:Int) (m:Nat→Int):Nat→Int
 | 0=>w0
 | k + 1=>if 1≤k∧wantR w0 m k=0∧20 < m k then 4 else wantR w0 m k
theorem wantR_one (w0:Int) (m:Nat→Int):wantR w0 m 1=w0:=if_neg fun h=>Nat.not_succ_le_zero 0 h.1
theorem wantR_three (m:Nat→Int):∀ k,wantR 3 m k=3
 | 0=>rfl
 | k + 1=>by
  have:=wantR_three m k
  unfold wantR
  rw [if_neg (by omega),this]
theorem wantR_ok {m:Nat→Int}:∀ k,(wantR 0 m k=0∧∀ j,0 < j→j < k→m j≤20)∨(wantR 0 m k=4∧∃ j,0 < j∧j < k∧20 < m j∧∀ i,0 < i→i < j→m i≤20)
 | 0 => .inl ⟨rfl,fun j _ h=>absurd h (Nat.not_lt_zero j)⟩
 | k + 1=>by
  unfold wantR
  rcases wantR_ok k with ⟨h1,h2⟩ | ⟨h1,j,h2,h3,h4,h5⟩
  ·by_cases h:1≤k∧20 < m k
   ·rw [if_pos ⟨h.1,h1,h.2⟩]
    exact .inr ⟨rfl,k,h.1,Nat.lt_succ_self k,h.2,fun i a b=>h2 i a b⟩
   ·rw [if_neg (fun q=>h ⟨q.1,q.2.2⟩)]
    refine .inl ⟨h1,fun j a b=>?_⟩
    by_cases e:j=k
    ·subst e; omega
    ·exact h2 j a (by omega)
  ·rw [if_neg (by omega)]
   exact .inr ⟨h1,j,h2,by omega,h4,h5⟩
theorem nameW {ps:List Int} (V:VP ps) {s:Int} (a:Nat→Int) (hs:1≤s∧s≤2000) (hm:∀ j,0 < j→j < ps.length→mW ps s a j≤20) :
  ¬ BadN ps.length (lb (nameB s (mW ps s a) (ps.length - 1)))∧((dval (digitsL (lb (nameB s (mW ps s a) (ps.length - 1)))):Nat):Int)=s∧(∀ i,1≤i→i < ps.length→cntL (letters (lb (nameB s (mW ps s a) (ps.length - 1)))) i≤20) ∧
   parseL ps s (letters (lb (nameB s (mW ps s a) (ps.length - 1))))=rowW ps s s a ps.length:=by
 have hn:=V.len
 obtain ⟨N,rfl⟩:=Int.eq_ofNat_of_zero_le (show 0≤s by omega)
 have hl:=lb_nameB (N:Int) (mW ps N a) (ps.length - 1) (by omega)
 rw [itx_nat,lb_dec] at hl
 obtain ⟨p1,p2⟩:=parts_of (dec_digs N) (B:=conc (fun i=>(mW ps N a i).toNat) (ps.length - 1)) fun c hc=>(conc_mem (by omega) c hc).1
 rw [← hl] at p1 p2
 have hc:∀ i,1≤i→i < ps.length→cntL (conc (fun i=>(mW ps N a i).toNat) (ps.length - 1)) i=mW ps N a i:=fun i h1 h2=>by
  have:=mW_le ps N a i
  unfold cntL
  rw [show Lib.countByte (conc (fun i=>(mW ps N a i).toNat) (ps.length - 1)) (UInt8.ofNat (97 + i))=(conc (fun i=>(mW ps N a i).toNat) (ps.length - 1)).count (UInt8.ofNat (97 + i)) from rfl,conc_count _ _ _ (by omega),letter_nat (by omega),if_pos (by omega),show 97 + i - 97=i by omega]
  omega
 rw [p1,p2,dval_dec]
 refine ⟨?_,rfl,fun i h1 h2=>by rw [hc i h1 h2]; exact hm i h1 h2,?_⟩
 ·obtain ⟨hd,hne,h1⟩:=dec_canon N
  rintro (h | h | h | ⟨c,hcm,h⟩)
  ·rw [p1] at h; exact hne h
  ·rw [p1] at h
   rcases h1 with h1 | h1
   ·have e:Lib.decDigits N=[48]:=by
     cases hq:Lib.decDigits N with
     | nil=>exact absurd hq hne
     | cons x r =>
      rw [hq] at h h1
      have:r=[]:=by cases r with
       | nil=>rfl
       | cons y z=>simp at h1
      rw [this]
      exact congrArg (fun x=>[x]) (Option.some.inj h)
    have:=dval_dec N
    rw [e] at this
    have h0:dval [48]=0:=rfl
    omega
   ·exact h1 h
  ·rw [p2,pair_sorted (conc_pair _ _ (by omega))] at h
   cases h
  ·rw [p2] at hcm
   have:=conc_mem (by omega) c hcm
   omega
 ·apply List.ext_getElem
  ·rw [parseL_length,rowW_length]
  ·intro j h1 h2
   have hj:j < ps.length:=by rw [parseL_length] at h1; exact h1
   have e1:(parseL ps N (conc (fun i=>(mW ps N a i).toNat) (ps.length - 1)))[j]=(parseL ps N (conc (fun i=>(mW ps N a i).toNat) (ps.length - 1))).getD j 0:=by rw [List.getD_eq_getElem?_getD,List.getElem?_eq_getElem]; rfl
   have e2:(rowW ps N N a ps.length)[j]=(rowW ps N N a ps.length).getD j 0:=by rw [List.getD_eq_getElem?_getD,List.getElem?_eq_getElem]; rfl
   rw [e1,e2,parseL_getD _ _ _ hj,rowW_getD _ _ _ _ hj]
   unfold parseAt
   by_cases e:j=0
   ·subst e
    rw [if_pos rfl,if_pos rfl,rnd_zero V.b _ hn.1]
    omega
   ·rw [if_neg e,if_neg e,hc j (by omega) hj]
    have ho:=off_wart (xW ps N a j - rnd ps (2 * N) j) (lessV ps N j (rnd ps (2 * N) j) 0)
    unfold mW wartsV
    rw [ho]
    omega
end Go.Proofs.YtpbapojnbmbdlaaGreatDoor

namespace Go.Proofs.YtpbapojnbmbdlaaGreatDoor
open Go.RowKit
structure Tells (b:Bool) (P:Prop):Prop where
 iff:b=true↔P
theorem Tells.yes {P:Prop} (h:P):Tells true P:=⟨⟨fun _=>h,fun _=>rfl⟩⟩
theorem Tells.no {P:Prop} (h:¬ P):Tells false P:=⟨⟨fun q=>(nomatch q),fun q=>absurd q h⟩⟩
theorem Tells.is {P:Prop} {b:Bool} (h:Tells b P) (p:P):b=true:=h.iff.2 p
theorem Tells.of {P:Prop} (h:Tells true P):P:=h.iff.1 rfl
theorem Tells.off {P:Prop} (h:Tells false P):¬ P:=fun p=>by have:=h.iff.2 p; cases this
end Go.Proofs.YtpbapojnbmbdlaaGreatDoor

namespace Go.Proofs.YtpbapojnbmbdlaaGreatDoor
open Go.RowKit
theorem wartB_step (i:Nat) (hi:i < 20) (t:Nat) (nb:ByteArray):nb ++ wartB i (t:Int) ++ ⟨#[UInt8.ofNat (97 + i)]⟩=nb ++ wartB i ((t + 1:Nat):Int):=by
 rw [ByteArray.append_assoc]
 have h1:lb (wartB i (t:Int) ++ ⟨#[UInt8.ofNat (97 + i)]⟩)=lb (wartB i ((t + 1:Nat):Int)):=by
  rw [lb_add,lb_wart i hi,lb_wart i hi,Int.toNat_natCast,Int.toNat_natCast,List.replicate_succ']
  rfl
 have h2:wartB i (t:Int) ++ ⟨#[UInt8.ofNat (97 + i)]⟩=wartB i ((t + 1:Nat):Int):=by
  rw [← bs_lb (wartB i (t:Int) ++ _),h1,bs_lb]
 rw [h2]
theorem wartB_none (i:Nat) (nb:ByteArray):nb ++ wartB i ((0:Nat):Int)=nb:=by
 have:wartB i ((0:Nat):Int)=⟨#[]⟩:=rfl
 rw [this]
 exact ByteArray.append_empty
theorem one_letter (w:World) (g c:Nat) (u:UInt8) (x:Int) (hx:x=(u.toNat:Int)) (h:w.cell? ⟨g,0,none⟩=some (.int .u8 x)) (hf:w.frozen? ⟨g,0,none⟩=false) :
  (convert 79 9 (.slice (some ⟨g,0,none⟩) 1 c)).run Tryz.prog w = .ok (.string ⟨#[u]⟩) w:=by
 have:=conv_holds w g c 1 #[u] rfl (fun j hj=>by
  have hj':j < 1:=hj
  obtain rfl:j=0:=by omega
  rw [Nat.add_zero,h,hx]
  exact ⟨rfl,hf⟩)
 exact this
set_option maxRecDepth 100000 in
set_option maxHeartbeats 32000000 in
theorem lawNam (w:World) (pn:Nat) (z:Int) (a:Nat→Int) (hpn:pn < 256) (ha:∀ k,-128≤a k∧a k≤127) (L:Laid w) :
  Gives Tryz.prog 11 #[.int .u8 pn,.int .i16 z,.agg #[.int .i8 (a 0),.int .i8 (a 1),.int .i8 (a 2)]] w (.bool true):=by
 unfold Gives
 have hk:pn % 10 < 10:=Nat.mod_lt _ (by decide)
 have HPr:=Lib.hid (fun W=>primes_any W pn hpn)
 have V:=primesL_vp _ hk
 have h4:=primesL_len4 _ hk
 have HK:Hid (∀ W,Below w.heap.size w W→Gives Tryz.prog 13 #[] W (.bool true)):=fun W hW=>known17_ok W (L.below hW)
 generalize primesL (pn % 10)=ps at *
 have hf:=tmod_2001 z
 obtain ⟨fi,hfi⟩:∃ fi,z.tmod 2001=fi:=⟨_,rfl⟩
 rw [hfi] at hf
 obtain ⟨s1,hs1⟩:∃ s1,max fi 1=s1:=⟨_,rfl⟩
 obtain ⟨sF,hsF⟩:∃ sF,max fi 0=sF:=⟨_,rfl⟩
 have hb1:1≤s1∧s1≤2000:=by omega
 have hbF:0≤sF∧sF≤2000:=by omega
 obtain ⟨w0,hw0⟩:∃ w0:Int,(if fi < 1 then 3 else 0)=w0:=⟨_,rfl⟩
 obtain ⟨code,hcode⟩:∃ code,wantR w0 (mW ps s1 a) ps.length=code:=⟨_,rfl⟩
 obtain ⟨nm,hnm⟩:∃ nm,nameB sF (mW ps s1 a) (ps.length - 1)=nm:=⟨_,rfl⟩
 have HO:Hid (∀ W,Gives Tryz.prog 25 #[.int .u64 sF] W (.string (itx sF))):=fun W=>by
  obtain ⟨N,rfl⟩:=Int.eq_ofNat_of_zero_le hbF.1
  rw [itx_nat]
  exact refOf_any W N (by omega)
 have HPl:Hid (∀ W a0 c0 (j:Nat),j < ps.length→Below w.heap.size w W→Rd W a0 (ints ps)→Gives Tryz.prog 30 #[.slice a0 ps.length c0,.int .i64 j,.int .i64 s1,.int .i64 1] W (.int .i64 (rnd ps (2 * s1) j))):=fun W a0 c0 j hj hW hr =>
  place_any W ps a0 c0 j s1 1 (2 * s1) V hr hj (by rw [mkRat_one,Int.mul_comm,Rat.intCast_mul]; rfl) (by decide) (by decide) (by omega) (by omega) (by omega) (L.below hW)
 have hxb:∀ j,j < ps.length → -100000≤xW ps s1 a j∧xW ps s1 a j≤100000:=fun j hj=>by
  have h1:=rnd_bound V (show 0≤2 * s1 by omega) (by omega) hj
  have h2:=tmod_14 (a ((j - 1) % 3))
  unfold xW
  omega
 have HNu:Hid (∀ W a0 c0 (j:Nat),1≤j→j < ps.length→Below w.heap.size w W→Rd W a0 (ints ps)→Gives Tryz.prog 38 #[.slice a0 ps.length c0,.int .i64 s1,.int .i64 j,.int .i64 (xW ps s1 a j)] W (.int .i64 (mW ps s1 a j))):=fun W a0 c0 j h0 hj hW hr=>by
  have:=hxb j hj
  exact number17_any W a0 c0 ps s1 _ j V hr (by omega) hj (by omega) (by omega) (L.below hW)
 have hvc:=rowW_code V fi s1 a (by omega) hb1
 have hlr:=rowW_length ps fi s1 a ps.length
 have HN:Hid (∀ W a0 c0 b d,Below w.heap.size w W→Rd W a0 (ints ps)→Rd W b (ints (rowW ps fi s1 a ps.length))→Gives Tryz.prog 22 #[.slice a0 ps.length c0,.slice b ps.length d] W (.tuple #[.string (if code=0 then nm else ⟨#[]⟩),.int .i64 code])):=fun W a0 c0 b d hW hr h1=>by
  have h00:(rowW ps fi s1 a ps.length).getD 0 0=fi:=by rw [rowW_getD _ _ _ _ h4.1]; rfl
  by_cases hlo:fi < 1
  ·have e0:w0=3:=by rw [← hw0,if_pos hlo]
   have e1:code=3:=by rw [← hcode,e0,wantR_three]
   have:=name_range W a0 b c0 d ps _ hr V.i64 (by omega) h1 (by omega) (by omega) hvc fi h00 (by omega)
   rw [hlr] at this
   rw [e1,if_neg (by decide)]
   exact this
  ·have e0:w0=0:=by rw [← hw0,if_neg hlo]
   have es:s1=fi:=by omega
   have eF:sF=fi:=by omega
   have hmw:∀ i,i < (rowW ps fi s1 a ps.length).length→(fun i=>if i=0 then (0:Int) else mW ps s1 a i) i=wartsV ps fi i ((rowW ps fi s1 a ps.length).getD i 0):=fun i hi=>by
    rw [hlr] at hi
    rw [rowW_getD _ _ _ _ hi]
    by_cases e:i=0
    ·subst e
     show (0:Int)=_
     rw [if_pos rfl]
     unfold wartsV
     rw [rnd_zero V.b _ h4.1,show fi - (2 * fi + 1) / 2=0 by omega]
     cases lessV ps fi 0 ((2 * fi + 1) / 2) 0 <;> rfl
    ·show (if i=0 then (0:Int) else mW ps s1 a i)=_
     rw [if_neg e,if_neg e]
     unfold mW
     rw [es]
   have hwk:=wantR_ok (m:=mW ps s1 a) ps.length
   have hcc:wantR 0 (mW ps s1 a) ps.length=code:=by rw [← hcode,e0]
   rw [hcc] at hwk
   rcases hwk with ⟨h2,h3⟩ | ⟨h2,j0,h3,h5,h6,h7⟩
   ·have:=name_ok W a0 b c0 d ps _ V hr h1 hlr hvc fi h00 (by omega) _ hmw (fun i h0 hi=>by
     rw [hlr] at hi
     show (if i=0 then (0:Int) else mW ps s1 a i)≤20
     rw [if_neg (by omega)]
     exact h3 i h0 hi) (L.below hW)
    rw [hlr] at this
    rw [h2,if_pos rfl,← hnm,eF]
    rw [show nameB fi (mW ps s1 a) (ps.length - 1)=nameB fi (fun i=>if i=0 then (0:Int) else mW ps s1 a i) (ps.length - 1) from nameB_congr fi _ fun i h1 _=>by rw [if_neg (by omega)]]
    exact this
   ·have:=name_limit W a0 b c0 d ps _ V hr h1 hlr hvc fi h00 (by omega) _ hmw j0 h3 (by rw [hlr]; exact h5) (by show 20 < (if j0=0 then (0:Int) else mW ps s1 a j0); rw [if_neg (by omega)]; exact h6) (fun i h0 hi=>by
     show (if i=0 then (0:Int) else mW ps s1 a i)≤20
     rw [if_neg (by omega)]
     exact h7 i h0 hi) (L.below hW)
    rw [hlr] at this
    rw [h2,if_neg (by decide)]
    exact this
 have HP:Hid (code=0→∀ W a0 c0,Below w.heap.size w W→Rd W a0 (ints ps)→Calls Tryz.prog 35 #[.slice a0 ps.length c0,.string nm] W fun e w'=>∃ b d,e = .returned (.tuple #[.slice b ps.length d,.int .i64 0])∧OwnI w' W.heap.size b d (rowW ps fi s1 a ps.length)∧Below W.heap.size W w'):=fun h0 W a0 c0 hW hr=>by
  have hlo:¬ fi < 1:=fun h=>by
   have e0:w0=3:=by rw [← hw0,if_pos h]
   have e1:code=3:=by rw [← hcode,e0,wantR_three]
   omega
  have e0:w0=0:=by rw [← hw0,if_neg hlo]
  have es:s1=fi:=by omega
  have eF:sF=fi:=by omega
  have hwk:=wantR_ok (m:=mW ps s1 a) ps.length
  have hcc:wantR 0 (mW ps s1 a) ps.length=code:=by rw [← hcode,e0]
  rw [hcc] at hwk
  have hm:∀ j,0 < j→j < ps.length→mW ps s1 a j≤20:=by
   rcases hwk with ⟨h2,h3⟩ | ⟨h2,h3⟩
   ·exact h3
   ·omega
  obtain ⟨n1,n2,n3,n4⟩:=nameW V a (s:=s1) (by omega) hm
  rw [← hnm,eF,← es]
  have hsz:(nameB s1 (mW ps s1 a) (ps.length - 1)).size≤1000000:=by
   have:=nameB_size s1 (by omega) (mW ps s1 a) (ps.length - 1) fun i h1 h2=>hm i h1 (by omega)
   omega
  refine (parse_any W a0 c0 ps _ V hr hsz (L.below hW)).mono ?_
  rintro e w' ⟨hb,h | h | h | h⟩
  ·exact absurd h.1 n1
  ·have:=h.2.1; omega
  ·obtain ⟨-,-,-,⟨i,i1,i2,i3⟩,-⟩:=h
   have:=n3 i i1 i2
   omega
  ·obtain ⟨-,-,-,-,b,d,rfl,ho⟩:=h
   rw [n2,n4] at ho
   exact ⟨b,d,rfl,ho,hb⟩
 have HEq:Hid (∀ W b d b' d',Rd W b (ints (rowW ps fi s1 a ps.length))→Rd W b' (ints (rowW ps fi s1 a ps.length))→Gives Tryz.prog 31 #[.slice b ps.length d,.slice b' ps.length d'] W (.bool true)):=fun W b d b' d' h1 h2=>by
  have:=rowEqual_any W b b' d d' _ _ h1 h2 (by omega)
  rw [hlr,decide_eq_true rfl] at this
  exact this
 have Hone:Hid (rowW ps fi s1 a 1=[fi]):=rfl
 have Hsucc:Hid (∀ k,1≤k→rowW ps fi s1 a (k + 1)=rowW ps fi s1 a k ++ [xW ps s1 a k]):=fun k h=>rowW_succ ps fi s1 a h
 have Hlen:Hid (∀ k,(rowW ps fi s1 a k).length=k):=rowW_length ps fi s1 a
 have Hm:Hid (∀ j,0≤mW ps s1 a j∧mW ps s1 a j≤26):=mW_le ps s1 a
 have Hxe:Hid (∀ j,xW ps s1 a j=rnd ps (2 * s1) j + (a ((j - 1) % 3)).tmod 14):=fun _=>rfl
 have Hrb:Hid (∀ j,j < ps.length→0≤rnd ps (2 * s1) j∧rnd ps (2 * s1) j≤10000):=fun j hj=>by
  have:=rnd_bound V (show 0≤2 * s1 by omega) (by omega) hj
  omega
 have Hcode:=Lib.hid hcode
 have Hnm:=Lib.hid hnm
 have Hw1:Hid (wantR w0 (mW ps s1 a) 1=w0):=wantR_one _ _
 have Hws:Hid (∀ k,1≤k→wantR w0 (mW ps s1 a) (k + 1)=if wantR w0 (mW ps s1 a) k=0∧20 < mW ps s1 a k then 4 else wantR w0 (mW ps s1 a) k):=fun k h=>by
  show (if 1≤k∧_∧_ then 4 else _)=_
  by_cases q:wantR w0 (mW ps s1 a) k=0∧20 < mW ps s1 a k
  ·rw [if_pos ⟨h,q⟩,if_pos q]
  ·rw [if_neg (fun r=>q r.2),if_neg q]
 have Hnb:Hid (∀ k,k≤5→(nameB sF (mW ps s1 a) k).size≤700):=fun k hk=>by
  have h1:∀ k,(nameB sF (mW ps s1 a) k).size≤20 + 104 * k:=fun k=>by
   induction k with
   | zero =>
    have:=itx_size sF 9 (by decide) (Nat.lt_of_le_of_lt (show sF.natAbs≤2000 by omega) (by decide))
    unfold nameB
    omega
   | succ k ih =>
    have h1:=wartB_size (k + 1) (mW ps s1 a (k + 1))
    have h2:=Hm.out (k + 1)
    unfold nameB
    rw [ByteArray.size_append]
    omega
  have:=h1 k
  omega
 have Hnstep:Hid (∀ k,nameB sF (mW ps s1 a) (k + 1)=nameB sF (mW ps s1 a) k ++ wartB (k + 1) (mW ps s1 a (k + 1))):=fun _=>rfl
 have P0:=Lib.hid (heap_at w #[.int .i8 (a 0),.int .i8 (a 1),.int .i8 (a 2)] 78 _ rfl)
 have B0:=Lib.hid ((Below.refl w.heap.size w).alloc nr_ (.cells #[.int .i8 (a 0),.int .i8 (a 1),.int .i8 (a 2)] 78))
 have wq1:IntKind.i64.wrap fi=fi:=IntWalk.i64_in _ (by omega)
 have wq2:IntKind.u64.wrap sF=sF:=IntWalk.u64_in _ (by omega)
 have hp0:0 < ps.length∧ps.length≤4:=h4
 have Hhw0:Hid ((fi < 1→w0=3)∧(¬ fi < 1→w0=0)):=⟨fun h=>by rw [← hw0,if_pos h],fun h=>by rw [← hw0,if_neg h]⟩
 have Hit:Hid (nameB sF (mW ps s1 a) 0=itx sF):=rfl
 clear L V hk hpn hlr h4 hvc hxb hcode hnm hw0
 generalize rowW ps fi s1 a=R at *
 generalize mW ps s1 a=m at *
 generalize rnd ps (2 * s1)=rn at *
 generalize xW ps s1 a=xs at *
 generalize itx sF=tx at *
 generalize ps.length=n at *
 go_enter Tryz.func11,Tryz.ntmps11
 go_wp2_with fail
 generalize w.alloc (.cells #[.int .i8 (a 0),.int .i8 (a 1),.int .i8 (a 2)] 78)=wA at *
 refine Calls.mono (HK.out _ B0.out) ?_
 rintro e_ w1 ⟨rfl,hb_⟩
 have B1:=Lib.hid (B0.out.trans (hb_.mono B0.out.size))
 replace P0:=Lib.hid (heap_kept P0.out hb_ nr_)
 clear hb_ B0 HK
 go_wp2_with fail
 refine Calls.mono (HPr.out _) ?_
 rintro e_ w2 ⟨gp,rfl,rp_,hb_⟩
 have B:=Lib.hid (B1.out.trans (hb_.mono B1.out.size))
 replace P0:=Lib.hid (heap_kept P0.out hb_ nr_)
 have Rp:=Lib.hid rp_
 have hlp:w.heap.size < w2.heap.size:=(Array.getElem?_eq_some_iff.1 P0.out).1
 clear hb_ rp_ HPr B1
 have hsz2:=B.out.size
 have O0:=Lib.hid (own_madeI w2 [fi] (by simp))
 have W0:=Lib.hid ((Below.refl w2.heap.size w2).alloc nr_ (.cells (ints [fi]).toArray 3))
 rw [show (ints [fi]).toArray = #[.int .i64 fi] from rfl] at O0 W0
 go_wp2_with fail
 generalize w2.alloc (.cells #[.int .i64 fi] 3)=w3 at *
 refine Calls.mono (HO.out _) ?_
 rintro e_ w4 ⟨rfl,hb_⟩
 replace O0:=Lib.hid (O0.out.below hb_ nr_)
 replace W0:=Lib.hid (W0.out.trans (hb_.mono W0.out.size))
 clear hb_ HO
 go_upto_if 34 with fail
 go_cut [10] from 33 to 34 (fun x wx=>x = .int .i64 w0∧w4=wx)
 case first =>
  by_cases hlo:fi < 1
  ·have e:=Hhw0.out.1 hlo
   subst e
   go_wp2_with fail
   go_meet
   exact ⟨rfl,rfl⟩
  ·have e:=Hhw0.out.2 (by omega)
   subst e
   go_wp2_with fail
   go_meet
   exact ⟨rfl,rfl⟩
 case rest =>
  obtain ⟨rfl,rfl⟩:=hcut
  go_wp2_with fail
  go_loopw [9,10,11,12] (fun v wt nx x wr=>∃ (k:Nat) (b:Option Addr) (d:Nat),1≤k∧k≤n∧x = .int .i64 k∧v = .slice b k d∧wt = .int .i64 (wantR w0 m k)∧nx = .string (nameB sF m (k - 1))∧Hid (OwnI wr w2.heap.size b d (R k))∧Hid (Below w2.heap.size w2 wr)) (fun _ _ _ x _=>n - (intOf x).toNat)
  case atStart=>exact ⟨1,some ⟨w2.heap.size,0,none⟩,1,Nat.le_refl _,by omega,rfl,rfl,by rw [Hw1.out],by rw [← Hit.out],by rw [Hone.out]; exact O0,W0⟩
  case round =>
   clear O0 W0
   obtain ⟨k,b,d,hk1,hkn,rfl,rfl,rfl,rfl,O,W⟩:=hrel
   by_cases hlt:k < n
   ·have hlt':(k:Int) < n:=by omega
    obtain ⟨c,hc⟩:∃ c,(k - 1) % 3=c:=⟨_,rfl⟩
    have hc3:c < 3:=by omega
    have hkc:((k:Int) - 1).tmod 3=(c:Int):=by
     rw [Int.tmod_eq_emod_of_nonneg (by omega)]
     omega
    have x0:wr.cell? ⟨w.heap.size,c,none⟩=some (.int .i8 (a c)):=by
     rw [cell_of_row _ _ _ _ _ _ (heap_kept P0.out W.out nr_)]
     match c,hc3 with
     | 0,_=>rfl
     | 1,_=>rfl
     | 2,_=>rfl
     | c + 3,h=>exact absurd h (by omega)
    have hxe:=Hxe.out k
    rw [hc] at hxe
    have hrb:=Hrb.out k hlt
    have h14:=tmod_14 (a c)
    have hP:=Lib.hid fun W a0 c0=>HPl.out W a0 c0 k hlt
    have hN:=Lib.hid fun W a0 c0=>HNu.out W a0 c0 k hk1 hlt
    have hss:=Lib.hid (Hsucc.out k hk1)
    have hll:=Lib.hid (Hlen.out k)
    have hwst:=Lib.hid (Hws.out k hk1)
    have hnst:Hid (nameB sF m k=nameB sF m (k - 1) ++ wartB k (m k)):=by
     obtain ⟨j,rfl⟩:∃ j,k=j + 1:=⟨k - 1,by omega⟩
     exact Hnstep.out j
    have hnsz:=Hnb.out (k - 1) (by omega)
    have hmb:=Hm.out k
    have Hmb:Hid (0≤m k∧m k≤26):=hmb
    have hac:=ha c
    generalize a c=u at *
    generalize hrk:rn k=r at *
    generalize hxk:xs k=x at *
    generalize hmk:m k=mk at *
    have HI:=Lib.hid hlt
    have HC:=Lib.hid hc
    have HRK:=Lib.hid hrk
    have HMK:=Lib.hid hmk
    clear hc hrk hxk hmk
    have g1:IntKind.i64.wrap (u.tmod 14)=u.tmod 14:=IntWalk.i64_in _ (by omega)
    have g2:IntKind.i64.wrap (r + u.tmod 14)=r + u.tmod 14:=IntWalk.i64_in _ (by omega)
    have g3:IntKind.i64.wrap ((k:Int) - 1)=(k:Int) - 1:=IntWalk.i64_in _ (by omega)
    have hxe':r + u.tmod 14=x:=hxe.symm
    clear hxe
    have Hxe':=Lib.hid hxe'
    clear hxe'
    have hc3':(c:Int) < 3:=by omega
    have q0:=BW.cell x0
    have hnon:Nonempty (BW wr):=⟨⟨wr,Below.refl _ _⟩⟩
    have I:Hid (Below wr.heap.size wr wr.drew):=(Below.refl _ _).drew
    have Bw:=Lib.hid (B.out.trans (W.out.mono hsz2))
    have Rw:=Lib.hid (Rp.out.below W.out nr_)
    go_wp2_with fail
    clear x0
    refine RX.wp_region_readers 13 [(1,0),(1,1),(1,2),(1,5),(1,6),(1,7),(1,8),(1,9),(1,10),(1,11),(0,3),(0,4),(0,12),(0,13)] (fun w'=>∃ p:BW wr,w'=p.w) (by kernel_rfl) (by kernel_rfl) ?_ ?_
    ·exact ⟨⟨_,I.out⟩,rfl⟩
    iterate 10 (refine RX.walkR_read ?_; simp only [dsc_,dz_,tsc_,tz_]; go_big_quiet_step (fail); refine wpQuiet_nil ?_)
    clear hnon q0
    refine RX.walkR_move ?_
    simp only [dsc_,dz_,tsc_,tz_]
    go_wp2_with fail
    refine ⟨⟨⟨_,I.out⟩,rfl⟩,?_⟩
    refine RX.walkR_move ?_
    simp only [dsc_,dz_,tsc_,tz_]
    go_wp2_with fail
    refine Calls.mono (hP.out _ _ _ (Bw.out.trans (I.out.mono Bw.out.size)) (Rw.out.below I.out nr_)) ?_
    rintro e_ w5 ⟨rfl,hb_⟩
    have D5:Hid (Below wr.heap.size wr w5):=I.out.trans (hb_.mono I.out.size)
    have W5:=Lib.hid (W.out.trans (D5.out.mono W.out.size))
    have O5:Hid (w5.ownsRow w2.heap.size 3 1 (.slice b k d) k (ints (R k))):=by
     have:=O.out.below D5.out nr_
     unfold OwnI at this
     rw [hll.out] at this
     exact this
    clear hb_ I O
    go_wp2_with fail
    refine ⟨⟨⟨_,D5.out⟩,rfl⟩,?_⟩
    refine RX.walkR_move ?_
    simp only [dsc_,dz_,tsc_,tz_]
    have hxe:=Hxe'.out
    rw [hxe] at g2
    go_wp2_with fail
    refine ⟨⟨⟨_,D5.out⟩,rfl⟩,?_⟩
    refine RX.walkR_move ?_
    simp only [dsc_,dz_,tsc_,tz_]
    go_wp2_with fail
    simp only [RX.walkR]
    clear hP hrb h14 g1
    go_upto_region 14 with fail
    have hsw:=W5.out.size
    have Hx2:=Lib.hid hxe
    clear hxe
    go_wp2_with (at_builtin; refine wpList_append_new rfl (.tmp 54) (.tmp 56) 23 rfl elRow _ 1 [.int .i64 x] rfl rfl O5.out hsw rfl (by simp [Value.oneCell']) (by omega) (by omega) ?_)
    intro v2 w6 hown2 hg2 hat2
    have W6:Hid (Below w2.heap.size w2 w6):=(W5.out.alloc hsw _).grown hg2 (by rw [World.size_alloc]; omega) (fun j hj=>(O5.out.lt j hj).1)
    obtain ⟨b3,d3,rfl⟩:=own_form hown2
    have O6:Hid (OwnI w6 w2.heap.size b3 d3 (R (k + 1))):=by
     show OwnI _ _ _ _ _
     unfold OwnI
     rw [Hlen.out,hss.out,ints_append]
     exact hown2
    clear hown2 hg2 hat2 O5 W5 W D5
    go_wp2_with fail
    refine Calls.mono (hN.out _ _ _ (B.out.trans (W6.out.mono hsz2)) (Rp.out.below W6.out nr_)) ?_
    rintro e_ w7 ⟨rfl,hb_⟩
    have O7:=Lib.hid (O6.out.below hb_ nr_)
    have W7:=Lib.hid (W6.out.trans (hb_.mono W6.out.size))
    clear hb_ O6 W6 hN
    generalize wantR w0 m k=wk at *
    go_upto_region 16 with fail
    go_cut [69] from 35 to 81 (fun y wx=>∃ q:Bool,y = .bool q∧Tells q (wk=0∧20 < mk)∧w7=wx)
    case first =>
     by_cases h0:wk=0
     ·have h0':(wk == 0)=true:=by rw [h0]; rfl
      by_cases h20:20 < mk
      ·have HT:Tells true (wk=0∧20 < mk) := .yes ⟨h0,h20⟩
       clear h0
       go_wp2_with fail
       go_meet
       exact ⟨true,rfl,HT,rfl⟩
      ·have HT:Tells false (wk=0∧20 < mk) := .no fun h=>h20 h.2
       clear h0
       go_wp2_with fail
       go_meet
       exact ⟨false,rfl,HT,rfl⟩
     ·have h0':(wk == 0)=false:=by rw [beq_eq_false_iff_ne]; exact h0
      have HT:Tells false (wk=0∧20 < mk) := .no fun h=>h0 h.1
      clear h0
      go_wp2_with fail
      go_meet
      exact ⟨false,rfl,HT,rfl⟩
    case rest =>
     obtain ⟨q,rfl,hq,rfl⟩:=hcut
     go_upto_if 69 with fail
     go_cut [10] from 35 to 81 (fun y wx=>y = .int .i64 (wantR w0 m (k + 1))∧w7=wx)
     case first =>
      cases q
      ·have e:=hwst.out
       rw [if_neg hq.off] at e
       have E:=Lib.hid e
       clear e hq
       go_wp2_with fail
       go_meet
       exact ⟨by rw [E.out],rfl⟩
      ·have e:=hwst.out
       rw [if_pos hq.of] at e
       have E:=Lib.hid e
       clear e hq
       go_wp2_with fail
       go_meet
       exact ⟨by rw [E.out],rfl⟩
     case rest =>
      obtain ⟨rfl,rfl⟩:=hcut
      have Hfin:Hid (nameB sF m (k + 1 - 1)=nameB sF m (k - 1) ++ wartB k mk):=by
       show _=_
       rw [Nat.add_sub_cancel,hnst.out]
      have hwz:=wartB_size k
      have u1:IntKind.u8.wrap (k:Int)=k:=by
       have:IntKind.u8.wrap (k:Int)=(k:Int) % 256:=rfl
       rw [this]; omega
      have u2:IntKind.u8.wrap (97 + (k:Int))=97 + (k:Int):=by
       have:IntKind.u8.wrap (97 + (k:Int))=(97 + (k:Int)) % 256:=rfl
       rw [this]; omega
      have hk20:k < 20:=by omega
      clear hwst hq hss hll hnst Hxe' Hx2 g2 g3 hkc
      generalize nameB sF m (k - 1)=nb at *
      generalize hwk1:wantR w0 m (k + 1)=wk1 at *
      have HWK:=Lib.hid hwk1
      clear hwk1
      have Hmk0:Hid (nb ++ wartB k ((0:Nat):Int)=nb):=wartB_none k nb
      go_wp2_with fail
      go_loopw [11,15] (fun nx y wr2=>∃ tt:Nat,(tt:Int)≤mk∧y = .int .i64 tt∧nx = .string (nb ++ wartB k (tt:Int))∧Hid (Below w7.heap.size w7 wr2)) (fun _ y _=>(mk - intOf y).toNat)
      case atStart=>exact ⟨0,by omega,rfl,by rw [Hmk0.out],Below.refl _ _⟩
      case round =>
       obtain ⟨tt,htt,rfl,rfl,D⟩:=hrel
       by_cases hlt2:(tt:Int) < mk
       ·have hwz2:(wartB k (tt:Int)).size≤104:=by
         have:=hwz (tt:Int)
         omega
        have hst:=Lib.hid (wartB_step k hk20 tt nb)
        obtain ⟨l0,l1⟩:=one_cell (heap_at wr #[.int .u8 (97 + (k:Int))] 5 _ rfl)
        have hcv:=one_letter _ _ 1 (UInt8.ofNat (97 + k)) (97 + (k:Int)) (by rw [letter_nat (by omega)]; omega) l0 l1
        generalize UInt8.ofNat (97 + k)=lu at *
        have D2:=Lib.hid (D.out.alloc (Nat.le_trans nr_ D.out.size) (.cells #[.int .u8 (97 + (k:Int))] 5))
        go_wp2_with fail
        go_roundw
        case rel=>exact ⟨tt + 1,by omega,by go_num,by rw [hst.out],D2⟩
        case measure=>simp [intOf]; omega
       ·have hmm:(tt:Int)=mk:=by omega
        have hnn:Hid (Value.string (nb ++ wartB k (tt:Int)) = .string (nameB sF m (k + 1 - 1))):=by show _=_; rw [hmm,Hfin.out]
        have O8:=Lib.hid (O7.out.below D.out nr_)
        have W8:=Lib.hid (W7.out.trans (D.out.mono W7.out.size))
        clear hmm
        go_wp2_with fail
        go_roundw
        case rel=>exact ⟨k + 1,b3,d3,by omega,HI.out,by go_num,rfl,by rw [HWK.out],hnn.out,O8,W8⟩
        case measure=>simp [intOf]; omega
   ·obtain rfl:k=n:=by omega
    have hcd:Hid (wantR w0 m k=code):=Hcode
    have hlt':¬ ((k:Nat):Int) < (k:Nat):=by omega
    rw [hcd.out,Hnm.out]
    have Bw:=Lib.hid (B.out.trans (W.out.mono hsz2))
    have Rw:=Lib.hid (Rp.out.below W.out nr_)
    have Ow:=Lib.hid O.out.rd
    go_wp2_with fail
    refine Calls.mono (HN.out _ _ _ _ _ Bw.out Rw.out Ow.out) ?_
    rintro e_ w5 ⟨rfl,hb_⟩
    replace Rw:=Lib.hid (Rw.out.below hb_ nr_)
    replace Ow:=Lib.hid (Ow.out.below hb_ nr_)
    replace Bw:=Lib.hid (Bw.out.trans (hb_.mono Bw.out.size))
    clear hb_ HN
    by_cases h0:code=0
    ·have HP2:=Lib.hid fun W a0 c0 hW hr=>HP.out h0 W a0 c0 hW hr
     clear HP hcd Hcode
     subst h0
     rw [if_pos rfl]
     go_wp2_with fail
     refine Calls.mono (HP2.out _ _ _ Bw.out Rw.out) ?_
     rintro e_ w6 ⟨b5,d5,rfl,ho,hb_⟩
     replace Ow:=Lib.hid (Ow.out.below hb_ nr_)
     replace Bw:=Lib.hid (Bw.out.trans (hb_.mono Bw.out.size))
     have Oq:=Lib.hid ho.rd
     have hq:=Lib.hid fun b d b' d' h1 h2=>HEq.out w6 b d b' d' h1 h2
     clear hb_ HP2 ho
     go_wp2_with fail
     refine Calls.mono (hq.out _ _ _ _ Oq.out Ow.out) ?_
     rintro e_ w7 ⟨rfl,hb_⟩
     replace Bw:=Lib.hid (Bw.out.trans (hb_.mono Bw.out.size))
     clear hb_ hq
     go_wp2_with fail
     go_ret
     exact ⟨rfl,Bw.out⟩
    ·have h0':(code == 0)=false:=by rw [beq_eq_false_iff_ne]; exact h0
     rw [if_neg h0]
     clear h0 HP hcd Hcode
     go_wp2_with fail
     go_ret
     exact ⟨rfl,Bw.out⟩
end Go.Proofs.YtpbapojnbmbdlaaGreatDoor

namespace Go.Proofs.YtpbapojnbmbdlaaGreatDoor
open Go.ChangeShapes Go.WideShapes Go.ChangeAt Go.RowKit
set_option maxRecDepth 100000 in
theorem valNames_lifted (os:Os) (started:os.Started) (H:Type) (enc:TypeId×Value→H) :
  ReturnsInHanded {} Tryz.checked os 11 .any (fun w args=>(Rows.valNamesSpec.pre enc Tryz.prog Tryz.f11 [] false w args∧laidMetH Tryz.prog laidM7 w)∧sizedMet enc Tryz.prog Tryz.f11 (OpenSpec.ofChange Rows.valNamesSpec) false w args)
   (Rows.valNamesSpec.post enc Tryz.prog Tryz.f11 false true false false):=by
 refine returnsInHanded_of_change_and (C:=Tryz.checked) (X:=fun w _=>laidMetH Tryz.prog laidM7 w) (fun _ _ _ hh h=>h.of_heap hh) own started (by kernel_rfl) Tryz.func11
  (ChangeSpec.witness_shaped (enc:=enc) (C:=Tryz.checked) (os:=os) (X:=fun w _=>laidMetH Tryz.prog laidM7 w) false (World.laidAll Tryz.prog os laidM7) #[.int .u8 0,.int .i16 0,.agg #[.int .i8 0,.int .i8 0,.int .i8 0]] 8 (World.laidAll_os _ _ _) (World.shaped_of_ZipB (by kernel_rfl) (by kernel_rfl)) (by kernel_rfl) (by kernel_rfl) (by kernel_rfl) (by rw [MakeChecks.laidMetH_plain _ _ _ (by kernel_rfl)]; exact laidMet_laidAll _ (by kernel_rfl) (by kernel_rfl))) ?_
 intro W base args ds gs before hval0 hW _ _ hL _
 have hval:∀ (j:Nat) t v,Tryz.f11.params[j]?=some t→args[j]?=some v→Value.okWide Tryz.prog W .any base t v:=hval0
 have hW':=hW
 obtain ⟨p,q,hA0,hV,rfl,hfz,hnd⟩:=hW
 have hA:DataW.TrodAll enc Tryz.prog W 0 (fun _=>true) true Tryz.f11.params.toList args.toList ds p:=hA0
 rw [Tryz.params11] at hA hval
 obtain ⟨v0,vs0,d0,ds0,p0,q0,hargs,rfl,rfl,h0,r0⟩:=trodAll_cons hA
 obtain ⟨v1,vs1,d1,ds1,p1,q1,rfl,rfl,rfl,h1,r1⟩:=trodAll_cons r0
 obtain ⟨v2,vs2,d2,ds2,p2,q2,rfl,rfl,rfl,h2,r2⟩:=trodAll_cons r1
 obtain ⟨rfl,rfl,rfl⟩:=trodAll_nil r2
 obtain rfl:args = #[v0,v1,v2]:=by cases args; simp_all
 obtain ⟨rfl,rfl⟩:=trodVars_none hV
 have k0:=h0
 have lt0:∀ x∈p0,x.block < W.heap.size:=by obtain ⟨m,hm⟩:=k0; exact DataW.trod_lt m _ _ _ hm
 have k1:=h1
 have lt1:∀ x∈p1,x.block < W.heap.size:=by obtain ⟨m,hm⟩:=k1; exact DataW.trod_lt m _ _ _ hm
 have k2:=h2
 have lt2:∀ x∈p2,x.block < W.heap.size:=by obtain ⟨m,hm⟩:=k2; exact DataW.trod_lt m _ _ _ hm
 obtain ⟨nn,rfl,rfl,rfl,wnn⟩:=open_int Tryz.underlying5 (hval 0 5 v0 rfl rfl) h0
 have bnn:=bounds_u8 wnn
 obtain ⟨z,rfl,rfl,rfl,wz⟩:=open_int Tryz.underlying61 (hval 1 61 v1 rfl rfl) h1
 obtain ⟨a,rfl,ha⟩:=open_three (hval 2 78 v2 rfl rfl) h2
 obtain ⟨m,rfl⟩:∃ m:Nat,nn=m:=⟨nn.toNat,by omega⟩
 clear hA0 hval0
 refine (lawNam W m z a (by omega) ha (laid_of7 hL)).mono fun e W' ⟨he,bel⟩=>?_
 subst he
 exact ⟨_,rfl,_,_,_,[],_,[],hW',trodAll_mk1 (shut_bool Tryz.underlying4 _),(trodAll_cons_mk (Below.trod laidOut (by kernel_rfl) (of_decide_eq_true (by kernel_rfl)) k0 bel lt0) (trodAll_cons_mk (Below.trod laidOut (by kernel_rfl) (of_decide_eq_true (by kernel_rfl)) k1 bel lt1) (trodAll_cons_mk (Below.trod laidOut (by kernel_rfl) (of_decide_eq_true (by kernel_rfl)) k2 bel lt2) trodAll_mk0))),rfl,bel.frame _,fun h=>by cases h⟩
theorem valNames_row:Rows.ValNamesSaid :=
 OpenClaim.holds_of_wide 11 Tryz.f11 rfl rfl rfl rfl rfl rfl rfl ⟨rfl,rfl,rfl,rfl,rfl⟩ rfl rfl rfl rfl rfl (by kernel_rfl) Tryz.func11 (by kernel_rfl)
  (of_decide_eq_true (by kernel_rfl)) (by unfold Func.isWrapper; first | (rw [if_pos (by decide +kernel)]; kernel_rfl) | (rw [if_neg (by decide +kernel)]; exact ⟨rfl,rfl⟩))
  (fun os started H enc _=>valNames_lifted os started H enc)
theorem valNames_holds:Rows.ValNamesCardSaid :=
 Claim7.holds_tied_plain_at .later [] [.data, .data, .data, .data, .sentinel, .sentinel, .pinned] true (true, "fdd5cf16a0dfa912f21ac7df3c3821fe8636e355fa4475fc24e324710bbe61d6") true
  valNames_row (fun _ h=>by cases h) (by kernel_rfl) (fun _ h=>by cases h) valNames_row_tie rfl ⟨rfl,rfl⟩ (by kernel_rfl) rfl
  (fun f fn hf hfn=>by
   obtain rfl : f = 11 := Option.some.inj ((show Tryz.prog.funcNamed "schisma/schismalaw17.ValNames" = some 11 by kernel_rfl).symm.trans hf) |>.symm
   obtain rfl:fn=Tryz.f11:=(Option.some.inj (Tryz.func11.symm.trans hfn)).symm
   exact ⟨by kernel_rfl,fun j t ht=>by
    rw [Tryz.params11] at ht
    have hm:t∈[5,61,78]:=by simpa using Array.mem_of_getElem? ht
    have hall:([5,61,78].all fun u => !Tryz.prog.wantsStandIn u)=true:=by kernel_rfl
    exact (show Tryz.prog.wantsStandIn t=false by simpa using List.all_eq_true.1 hall t hm)⟩)
  (by kernel_rfl)
#print axioms valNames_holds
end Go.Proofs.YtpbapojnbmbdlaaGreatDoor
