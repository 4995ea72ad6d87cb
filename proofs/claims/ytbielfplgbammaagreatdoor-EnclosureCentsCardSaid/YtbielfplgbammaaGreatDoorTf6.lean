/- Lemmas for the laws of this seat, part 6. -/
import Derived.Shelf.Strings.Repeat
import Derived.Test.YtbielfplgbammaaGreatDoorCards
import Derived.Test.YtbielfplgbammaaGreatDoorTie
import Derived.SevenTiedAt
import Derived.Test.YtbielfplgbammaaGreatDoorTf5
set_option maxRecDepth 100000
set_option maxHeartbeats 16000000
namespace Go.Proofs.YtbielfplgbammaaGreatDoor
open Go.RowKit
theorem Zly.cap2{w:World}{B c:Nat}{a:OA_}{l:List Int}(h:Zly w B a c l):l.length<=c:=by
 rcases h.2 with⟨h1,h0⟩|⟨g,cap,cur,h1,h2,h3,h4,h5⟩
 ·rw[h0];exact Nat.zero_le _
 ·simp only[Value.slice.injEq] at h1;obtain⟨-,-,rfl⟩:=h1;exact h4
def Zib (f:FuncId) (args:Array Value) (w:World) (n:Nat):Prop :=
 Calls Tryz.prog f args w fun e w'=>∃ a c,e = .returned (.slice a (Kf n).length c)/\Rd w' a (Qw (nI (Kf n)))/\(Kf n).length<=c/\Bw_ w w'
structure Qgb (d j:Nat) (a:OA_) (c:Nat) (w wr:World):Prop where
 own:Zly wr w.heap.size a c (nI (Za8 d j))
 bel:Bw_ w wr
theorem Zsv(s:ByteArray)(w:World)(hd:Zbd (lb s))(hl:s.size<=9000000):
  Zib 200 #[.string s] w (Qt (lb s)):=by
 unfold Zib;have Hd:=hd_ hd;clear hd;have Gz:=hd_ (Yi s);obtain⟨S,hS⟩:∃ S,S=s.size:=⟨_,rfl⟩;have HS:=hd_ hS;rw[<- hS] at hl;clear hS;go_enter Tryz.func200,Tryz.ntmps200;go_wp2_with fail
 go_loopw [0,3] (fun x o wr=>∃ (j e:Nat) (X:ByteArray) (a:OA_) (c:Nat),9*j<S+9/\e=S-9*j/\X.size=e/\x = .string X/\o = .slice a j c/\Hid (lb X=(lb s).take e)/\Hid (Qgb (Qt (lb s)) j a c w wr)) (fun x _ _=>match x with | .string X=>X.size | _=>0)
 case atStart =>
  refine⟨0,S,s,none,0,by omega,by omega,HS.o.symm,rfl,rfl,?_,⟨Zly.nil w w.heap.size,Below.refl _ _⟩⟩
  show _=_
  rw[HS.o,<- Gz.o,List.take_length]
 case round =>
  obtain⟨j,e,X,a,c,hj,he,hX,rfl,rfl,HX,HC⟩:=hrel
  by_cases ft:0<e
  ·obtain⟨lo,fu⟩:∃ lo,lo=e-9:=⟨_,rfl⟩;obtain⟨K,hK⟩:∃ K,K=min 9 e:=⟨_,rfl⟩;have lW:e=lo+K:=by omega
   have oL:0<K:=by omega
   have dO:K<=9:=by omega
   have CL:Hid (Qt (((lb s).drop lo).take K)=Qt (lb s)/1000000000^j%1000000000):=by
    show _=_
    have h:=Zhx (lb s) Hd.o j (by rw[Gz.o,<- HS.o];omega);rw[Gz.o,<- HS.o,<- he,<- fu,<- hK] at h;exact h
   have l9:(lb X).length=e:=by rw[Yi,hX]
   have Do:Hid (∀ t,t<K->∃ h:lo+t<X.size,(((lb s).drop lo).take K).getD t 0=X[lo+t]'h):=fun t ht=>by
    have h0:lo+t<X.size:=by omega
    refine⟨h0,?_⟩;have e1:X[lo+t]'h0=(lb X).getD (lo+t) 0:=by
     rw[List.getD_eq_getElem?_getD,List.getElem?_eq_getElem (by rw[l9];omega)];rfl
    rw[e1,HX.o];simp only[List.getD_eq_getElem?_getD,List.getElem?_take,List.getElem?_drop];rw[if_pos ht,if_pos (by omega)]
   have Dn:Hid (Zbd (((lb s).drop lo).take K)):=(Hd.o.drop _).take _;have ej:Hid ((((lb s).drop lo).take K).length=K):=by
    show _=_
    simp only[List.length_take,List.length_drop,Gz.o,<- HS.o];omega
   have gN:Hid ((X.extract 0 lo).size=lo/\lb (X.extract 0 lo)=(lb s).take lo/\lo=S-9*(j+1)):=by
    refine⟨by rw[ByteArray.size_extract];omega,?_,by omega⟩;rw[Zfa,HX.o,List.drop_zero,List.take_take];congr 1;omega
   have lS:9*(j+1)<S+9:=by omega
   have oz:(0:Int)<e:=by omega
   clear l9 HX;generalize ((lb s).drop lo).take K=ch at *;have IH:=hd_ lW;have oA:e<=9000000:=by omega
   have cF:Hid (lo=e-9):=fu;clear he fu hK lW;have JS:=hd_ hX
   -- the digits of one piece
   have aD:Hid (∀ t,t<=K->(t<K↔((lo:Int)+t<e))):=fun t ht=>by have:=IH.o;constructor<;>intro h<;>omega
   by_cases h9:(9:Int)<e
   ·have hw:IntKind.i64.wrap ((e:Int)-9)=(lo:Nat):=by
     have:=cF.o
     rw[show (e:Int)-9=(lo:Nat) by omega];exact iw_ _ (by omega)
    go_wp2_with fail
    go_loopw [5,6] (fun n i w2=>∃ t:Nat,t<=K/\i = .int .i64 ((lo:Int)+t)/\n = .int .i64 (Qt (ch.take t):Nat)/\Hid (w2=wr)) (fun _ i _=>e-(intOf i).toNat)
    case atStart=>exact⟨0,Nat.zero_le _,by simp,rfl,rfl⟩
    case round =>
     obtain⟨t,ht,rfl,rfl,Ek⟩:=hrel;have Cq:=Ek.o;subst Cq;clear Ek;have hD:=Zbm Dn.o t (by omega)
     by_cases gd:t<K
     ·obtain⟨hlo2,hcx⟩:=Do.o t gd;have Fs:=Yq ch t (by rw[ej.o];exact gd);have dL:=Dn.o (ch.getD t 0) (by rw[List.getD_eq_getElem?_getD,List.getElem?_eq_getElem (by rw[ej.o];exact gd)];exact List.getElem_mem _);have fC:=hd_ Fs;clear Fs;generalize Qt (ch.take t)=D at *;rw[hcx] at dL fC;clear hcx;generalize hb:(X[lo+t]'hlo2).toNat=b at *;obtain⟨Ga,Gp⟩:=dL;have gu:(lo:Int)+t<e:=(aD.o t ht).1 gd;have e1:IntKind.u8.wrap ((b:Int)-48)=(b:Int)-48:=IntKind.wrap_u8 _ ▸ by omega
      have e2:IntKind.i64.wrap (10*(D:Int))=10*(D:Int):=iw_ _ (by omega);have e3:IntKind.i64.wrap (10*(D:Int)+((b:Int)-48))=10*(D:Int)+((b:Int)-48):=iw_ _ (by omega);have e4:IntKind.i64.wrap ((lo:Int)+t+1)=(lo:Int)+t+1:=iw_ _ (by omega);go_wp2_with fail;refine⟨⟨t+1,by omega,by go_num,by rw[fC.o];congr 1;omega,trivial⟩,by simp[intOf];omega⟩
     ·obtain rfl:t=K:=by omega
      have DT:Qt (ch.take t)=Qt (lb s)/1000000000^j%1000000000:=by
       rw[<- ej.o,List.take_length];exact CL.o
      have BT:=hd_ DT;clear DT;generalize Qt (ch.take t)=D at *;have gu:¬ (lo:Int)+t<e:=fun h=>gd ((aD.o t ht).2 h)
      have gR:wr.ownsRow w.heap.size 3 1 (.slice a j c) j (Qw (nI (Za8 (Qt (lb s)) j))):=by have:=HC.o.own;unfold Zly at this;rw[Yc,Qs] at this;exact this
      have Gh:=hd_ gR;clear gR;have MG:((lo:Nat):Int)<=e:=by have:=IH.o;omega
      have MI:(0:Int)<=lo:=by omega
      have MH:lo<=e:=by have:=IH.o;omega
      go_wp2_with (at_builtin;refine Kz rfl (.tmp 31) (.tmp 33) 30 rfl Qeu _ 1 [.int .i64 D] rfl rfl Gh.o HC.o.bel.size rfl ?c1 (by omega) (by omega) ?_)
      case c1=>first | rfl | (intro u hu;obtain rfl:=List.mem_singleton.1 hu;rfl)
      intro v' w3 gn hg3 _;obtain⟨a3,c3,rfl⟩:=Vk gn;have CR:Hid (Qgb (Qt (lb s)) (j+1) a3 c3 w w3):=by
       refine⟨?_,(HC.o.bel.alloc HC.o.bel.size _).grown hg3 (by have:=HC.o.bel.size;simp;omega) (fun k hk=>(Gh.o.lt k hk).1)⟩;unfold Zly;rw[Yc,Qs,Zb4,Zm0,Zdx];have:=gn
       rw[BT.o] at this;exact this
      clear gn hg3 HC;go_wp2_with fail;obtain⟨m1,m2,m3⟩:=gN.o;refine⟨⟨j+1,lo,X.extract 0 lo,a3,c3,lS,m3,m1,rfl,rfl,m2,CR⟩,?_⟩
      show (X.extract 0 lo).size<X.size
      have:=IH.o
      omega
   ·have eM:lo=0:=by have:=cF.o;omega
    subst eM;replace Do:Hid (∀ t,t<K->∃ h:t<X.size,ch.getD t 0=X[t]'h):=fun t ht=>by
     obtain⟨h,e1⟩:=Do.o t ht;simp only[Nat.zero_add] at h e1;exact⟨h,e1⟩
    replace aD:Hid (∀ t:Nat,t<=K->(t<K↔((t:Int)<e))):=fun t ht=>by
     have:=aD.o t ht
     rw[show ((0:Nat):Int)+(t:Int)=t by omega] at this;exact this
    go_wp2_with fail
    go_loopw [5,6] (fun n i w2=>∃ t:Nat,t<=K/\i = .int .i64 (t:Int)/\n = .int .i64 (Qt (ch.take t):Nat)/\Hid (w2=wr)) (fun _ i _=>e-(intOf i).toNat)
    case atStart=>exact⟨0,Nat.zero_le _,by simp,rfl,rfl⟩
    case round =>
     obtain⟨t,ht,rfl,rfl,Ek⟩:=hrel;have Cq:=Ek.o;subst Cq;clear Ek;have hD:=Zbm Dn.o t (by omega)
     by_cases gd:t<K
     ·obtain⟨hlo2,hcx⟩:=Do.o t gd;have Fs:=Yq ch t (by rw[ej.o];exact gd);have dL:=Dn.o (ch.getD t 0) (by rw[List.getD_eq_getElem?_getD,List.getElem?_eq_getElem (by rw[ej.o];exact gd)];exact List.getElem_mem _);have fC:=hd_ Fs;clear Fs;generalize Qt (ch.take t)=D at *;rw[hcx] at dL fC;clear hcx;generalize hb:(X[t]'hlo2).toNat=b at *;obtain⟨Ga,Gp⟩:=dL;have gu:(t:Int)<e:=(aD.o t ht).1 gd;have e1:IntKind.u8.wrap ((b:Int)-48)=(b:Int)-48:=IntKind.wrap_u8 _ ▸ by omega
      have e2:IntKind.i64.wrap (10*(D:Int))=10*(D:Int):=iw_ _ (by omega);have e3:IntKind.i64.wrap (10*(D:Int)+((b:Int)-48))=10*(D:Int)+((b:Int)-48):=iw_ _ (by omega);have e4:IntKind.i64.wrap ((t:Int)+1)=(t:Int)+1:=iw_ _ (by omega);go_wp2_with fail;refine⟨⟨t+1,by omega,by go_num,by rw[fC.o];congr 1;omega,trivial⟩,by simp[intOf];omega⟩
     ·obtain rfl:t=K:=by omega
      have DT:Qt (ch.take t)=Qt (lb s)/1000000000^j%1000000000:=by
       rw[<- ej.o,List.take_length];exact CL.o
      have BT:=hd_ DT;clear DT;generalize Qt (ch.take t)=D at *;have gu:¬ (t:Int)<e:=fun h=>gd ((aD.o t ht).2 h)
      have gR:wr.ownsRow w.heap.size 3 1 (.slice a j c) j (Qw (nI (Za8 (Qt (lb s)) j))):=by have:=HC.o.own;unfold Zly at this;rw[Yc,Qs] at this;exact this
      have Gh:=hd_ gR;clear gR
      go_wp2_with (at_builtin;refine Kz rfl (.tmp 31) (.tmp 33) 30 rfl Qeu _ 1 [.int .i64 D] rfl rfl Gh.o HC.o.bel.size rfl ?c1 (by omega) (by omega) ?_)
      case c1=>first | rfl | (intro u hu;obtain rfl:=List.mem_singleton.1 hu;rfl)
      intro v' w3 gn hg3 _;obtain⟨a3,c3,rfl⟩:=Vk gn;have CR:Hid (Qgb (Qt (lb s)) (j+1) a3 c3 w w3):=by
       refine⟨?_,(HC.o.bel.alloc HC.o.bel.size _).grown hg3 (by have:=HC.o.bel.size;simp;omega) (fun k hk=>(Gh.o.lt k hk).1)⟩;unfold Zly;rw[Yc,Qs,Zb4,Zm0,Zdx];have:=gn
       rw[BT.o] at this;exact this
      clear gn hg3 HC;go_wp2_with fail;obtain⟨m1,m2,m3⟩:=gN.o;refine⟨⟨j+1,0,ByteArray.empty,a3,c3,lS,m3,rfl,rfl,rfl,(show lb ByteArray.empty=List.take 0 (lb s) from by rw[List.take_zero];rfl),CR⟩,?_⟩
      show (ByteArray.empty).size<X.size
      have:(ByteArray.empty).size=0:=rfl
      omega
  ·have hz:¬ (0:Int)<e:=by omega
   have hv:val (Za8 (Qt (lb s)) j)=Qt (lb s):=by
    rw[Zni,Nat.mod_eq_of_lt];have h1:=Zab Hd.o;rw[Gz.o] at h1;have h2:10^s.size<=10^(9*j):=Nat.pow_le_pow_right (by decide) (by have:=HS.o;omega);rw[show (1000000000:Nat)^j=10^(9*j) by rw[Nat.pow_mul]];omega
   have dl:(Za8 (Qt (lb s)) j).length=j:=Qs _ _;have ER:=HC.o.own.cap2;rw[Yc,dl] at ER;have HT:=hd_ (Zgv wr a c (Za8 (Qt (lb s)) j) HC.o.own.rd (Zb5 _ _) (by rw[dl];omega) (by rw[dl];exact ER));rw[hv,dl] at HT;have HR:Hid (Rd wr a (Qw (nI (Kf (Qt (lb s)))))):=by
    show Rd _ _ _
    have h1:=Qv (Za8 (Qt (lb s)) j) (Zb5 _ _);rw[hv] at h1;have h2:=HC.o.own.rd;rw[<- h1,<- Zo1,show ∀ (L:List Int) (k:Nat),Qw (L.take k)=(Qw L).take k from fun L k=>List.map_take];exact Zol h2 _
   have dS:Hid ((Kf (Qt (lb s))).length<=c):=by
    show _<=_
    have h1:=Vg (Za8 (Qt (lb s)) j) (Zb5 _ _);rw[hv,dl] at h1;omega
   have HB:=hd_ HC.o.bel;clear hv dl ER he HX HC;go_wp2_with fail;refine cm_ HT.o ?_;rintro e_ w1 ⟨rfl,hb⟩;have B1:=bt_ HB hb;have R1:=hd_ (HR.o.below hb nr_);clear hb HT;go_wp2_with fail;go_ret;exact⟨a,c,rfl,R1.o,dS.o,B1.o⟩
theorem Zzu{y u:Nat}{x:List UInt8}(hy:0<y)(hd:Zbd x)(hl:x.length=9)(hv:Qt x=u):Lib.decDigits (u+1000000000*y)=Lib.decDigits y++x:=by
 have h1:=Znl y;have hc:Zcv (Lib.decDigits y++x):=by
  refine⟨fun c hc=>?_,fun e=>h1.2.1 (List.append_eq_nil_iff.1 e).1,.inr ?_⟩
  ·rcases List.mem_append.1 hc with h | h
   ·exact h1.1 c h
   ·exact hd c h
  ·rcases h1.2.2 with h2 | h2
   ·have h3:Lib.decDigits y=[UInt8.ofNat (48+y)]:=by
     refine Yk ?_;have:=(Ks y 1 (by decide)).1 (by omega)
     simpa using this
    have h4:y<10:=by
     have:=(Ks y 1 (by decide)).1 (by omega)
     simpa using this
    rw[h3];intro h5;simp only[List.singleton_append,List.head?_cons,Option.some.injEq] at h5;have h6:=congrArg UInt8.toNat h5;simp only[UInt8.toNat_ofNat'] at h6;have h7:(48:UInt8).toNat=48:=rfl;omega
   ·cases e:Lib.decDigits y with
    | nil=>exact absurd e h1.2.1
    | cons c t=>rw[e] at h2;exact h2
 rw[Znu hc,Za6,Yw,hl,hv];congr 1;omega
theorem Zuk{L:List Nat}(h:L=[]\/L.getD (L.length-1) 0≠0):∀ d k,L.length=k+d+1->0<val (L.drop k)
 | 0,k,hk=>by
  have h1:=Zcc L k (by omega);rcases h with h|h
  ·rw[h] at hk;simp at hk
  ·rw[show L.length-1=k by omega] at h;omega
 | d+1,k,hk=>by
  have h1:=Zcc L k (by omega);have h2:=Zuk h d (k+1) (by omega);omega
theorem Zp3{y u:Nat}{X:ByteArray}(hy:0<y)(hd:Zbd (lb X))(hl:X.size=9)(hv:Qt (lb X)=u):dec y++X=dec (u+1000000000*y):=by
 have h:=Zzu hy hd (by rw[Yi];exact hl) hv;have e:lb (dec y++X)=lb (dec (u+1000000000*y)):=by
  rw[Yf,h];unfold lb;rw[ByteArray.data_append,Array.toList_append];rw[show (dec y).data.toList=Lib.decDigits y from Yf y]
 rw[<- bs_lb (dec y++X),e,bs_lb]
theorem Znk{L:List Nat}(hp:Pcs L)(k:Nat):(dec (val (L.drop k))).size<=9*L.length+1:=by
 rw[Qc];refine(Ks _ _ (by omega)).2 ?_;have h1:=Zqk (l:=L.drop k) (fun x hx=>hp x (List.mem_of_mem_drop hx));refine Nat.lt_of_lt_of_le h1 ?_;rw[show (1000000000:Nat)^(L.drop k).length=10^(9*(L.drop k).length) by rw[Nat.pow_mul]];exact Nat.pow_le_pow_right (by decide) (by rw[List.length_drop];omega)
theorem Zwh(w:World)(a:OA_)(c:Nat)(l:List Nat)(hr:Rd w a (Qw (nI l)))(hp:Pcs l)(hl:l.length<=1000000)(hz:l=[]\/l.getD (l.length-1) 0≠0)(L:Qg w):
  Kc Tryz.prog 256 #[.slice a l.length c] w (.string (dec (val l))):=by
 unfold Kc
 by_cases h0:l.length=0
 ·obtain rfl:l=[]:=List.length_eq_zero_iff.1 h0;rw[show dec (val [])=⟨#[48]⟩ by rw[<- Zj2.1];exact(Kg 0).symm];rw[List.length_nil];clear hr;go_enter Tryz.func256,Tryz.ntmps256;go_wp2_with fail;go_ret;exact⟨rfl,Below.refl _ _⟩
 ·obtain⟨n,hn⟩:∃ n,l.length=n+1:=⟨l.length-1,by omega⟩;obtain⟨b,off,rfl,hb,hcells⟩:=Zkw hr 0 (by omega);have Hc:=hd_ (fun W (hW:Bw_ w W) i (hi:i<n+1)=>show W.cell? ⟨b,off+i,none⟩=some (.int .i64 (l.getD i 0:Nat)) from by
   rw[hW.cell (p:=⟨b,off+i,none⟩) hb];exact hcells i (by omega))
  have HI:=hd_ (fun W (hW:Bw_ w W) i=>show Kc Tryz.prog 53 #[.int .i64 (l.getD i 0:Nat)] W (.string (dec (l.getD i 0))) from by
   have h9:=hp.getD i;have:=Zrj W ((l.getD i 0:Nat):Int) (by omega) (by omega) (L.below hW)
   rw[Kg] at this;exact this)
  have Br:Hid (val (l.drop n)=l.getD n 0):=by
   show _=_
   rw[Zcc l n (by omega),List.drop_eq_nil_of_le (by omega)]
   show _+1000000000*0=_
   omega
  have nT:=hd_ (fun k (hk:k<n+1)=>Zcc l k (by omega));have nU:=hd_ (fun k (hk:k<n+1)=>Zuk hz (n-k) k (by omega));have Ff:=hd_ (fun k=>Znk hp k);have Nc:=hd_ (fun i=>hp.getD i);have No:Hid (l.drop 0=l):=List.drop_zero;rw[hn] at Ff hl ⊢;have Fb:(((n+1:Nat):Int)==0)=false:=by rw[beq_eq_false_iff_ne];omega
  have MF:(((n:Int)+1)==0)=false:=by rw[beq_eq_false_iff_ne];omega
  have ew:IntKind.i64.wrap ((n:Int)+1-1)=(n:Nat):=by rw[show (n:Int)+1-1=n by omega];exact iw_ _ (by omega)
  have oR:IntKind.i64.wrap ((n:Int)+1-2)=(n:Int)-1:=by rw[show (n:Int)+1-2=(n:Int)-1 by omega];exact iw_ _ (by omega)
  have cx:=Hc.o w (Below.refl _ _) n (by omega);have J':=hd_ (fun W hW=>HI.o W hW n);clear hr hp hz L h0 hcells hn;obtain⟨u0,hu0⟩:∃ u0,l.getD n 0=u0:=⟨_,rfl⟩;rw[hu0] at cx J' Br;clear hu0;go_enter Tryz.func256,Tryz.ntmps256;go_wp2_with fail;refine cm_ (J'.o _ (Below.refl _ _)) ?_;rintro e_ w1 ⟨rfl,HU⟩;have B1:=hd_ HU;clear HU cx J';go_wp2_with fail;have Fm:dec u0=dec (val (l.drop n)):=by rw[Br.o]
  rw[Fm];clear Fm Br
  go_loopw [3,4] (fun s i wr=>∃ k:Nat,k<=n/\s = .string (dec (val (l.drop k)))/\i = .int .i64 ((k:Int)-1)/\Hid (Bw_ w wr)) (fun _ i _=>(intOf i+1).toNat)
  case atStart=>exact⟨n,Nat.le_refl _,rfl,rfl,B1⟩
  case round =>
   obtain⟨k,hk,rfl,rfl,B⟩:=hrel
   by_cases EF:k=0
   ·subst EF;have G4:¬ (0:Int)<=((0:Nat):Int)-1:=by omega
    have lK:¬ (0:Int) <= -1:=by omega
    rw[No.o];go_wp2_with fail;go_ret;exact⟨rfl,B.o⟩
   ·obtain⟨q,rfl⟩:∃ q,k=q+1:=⟨k-1,by omega⟩;have ei:((q+1:Nat):Int)-1=(q:Int):=by omega
    rw[ei];have cq:=Hc.o wr B.o q (by omega);have oQ:IntKind.i64.wrap ((q:Int)-1)=(q:Int)-1:=iw_ _ (by omega);have lD:=nT.o q (by omega);have LK:=hd_ lD;have LH:=hd_ (nU.o (q+1) (by omega));have Mx:=Ff.o (q+1);have Mt:=Nc.o q;have Lg:=hd_ (fun W hW=>HI.o W hW q);clear lD ei;generalize l.getD q 0=u at *;obtain⟨y,hy⟩:∃ y,val (l.drop (q+1))=y:=⟨_,rfl⟩;rw[hy] at LH Mx LK ⊢;have jf:(dec u).size<=9:=by
     rw[Qc];exact(Ks u 9 (by decide)).2 Mt
    have nY:Hid (Zbd (lb (dec u))):=by show Zbd _;rw[Yf];exact Zs u
    have nW:Hid (Qt (lb (dec u))=u):=by show _=_;rw[Yf];exact Yw u
    clear hy;go_wp2_with fail;refine cm_ (Lg.o _ B.o) ?_;rintro e_ w2 ⟨rfl,H7⟩;have B2:=bt_ B H7;clear H7 B cq Lg;go_wp2_with fail
    go_loopw [5] (fun x w'=>∃ X:ByteArray,x = .string X/\X.size<=9/\Hid (Zbd (lb X))/\Hid (Qt (lb X)=u)/\Hid (w'=w2)) (fun x _=>match x with | .string X=>9-X.size | _=>0)
    case atStart=>exact⟨dec u,rfl,jf,nY,nW,rfl⟩
    case round =>
     obtain⟨X,rfl,hX,Hxd,Hxv,Ek⟩:=hrel;have Cq:=Ek.o;subst Cq;clear Ek
     by_cases h9:X.size<9
     ·have Cj:(X.size:Int)<9:=by omega
      have ak:lb (⟨#[48]⟩++X)=48::lb X:=by
       unfold lb;rw[ByteArray.data_append,Array.toList_append];rfl
      have l8:(⟨#[48]⟩++X:ByteArray).size=X.size+1:=by rw[<- Yi,ak,List.length_cons,Yi]
      have GO:=hd_ ak;have JS:=hd_ l8;clear ak l8;go_wp2_with fail;refine⟨⟨⟨#[48]⟩++X,rfl,by rw[JS.o];omega,?_,?_,trivial⟩,?_⟩
      ·show Zbd _
       rw[GO.o];intro c hc;rcases List.mem_cons.1 hc with rfl|h
       ·exact⟨by decide,by decide⟩
       ·exact Hxd.o c h
      ·show _=_
       rw[GO.o,Zaj,Hxv.o]
       show (48-48)*_+u=u
       omega
      ·show 9-(⟨#[48]⟩++X:ByteArray).size<9-X.size
       rw[JS.o];omega
     ·have Cj:¬ (X.size:Int)<9:=by omega
      have HT:Hid (dec y++X=dec (val (l.drop q))):=by
       show _=_
       rw[LK.o];exact Zp3 LH.o Hxd.o (by omega) Hxv.o
      go_wp2_with fail;refine⟨⟨q,by omega,by rw[HT.o],rfl,B2⟩,by simp[intOf]⟩
theorem Zth(n:Nat):Kf n=[]\/(Kf n).getD ((Kf n).length-1) 0≠0:=by
 induction n using Nat.strongRecOn with
 | ind n ih =>
  by_cases h:n=0
  ·left;subst h;exact Qy
  ·right;have e:Kf n=n%1000000000::Kf (n/1000000000):=by rw[Kf,dif_neg h]
   have h1:=ih (n/1000000000) (Nat.div_lt_self (by omega) (by decide));rw[e];rcases h1 with h2|h2
   ·rw[h2];have h3:=Kp (n/1000000000);rw[h2] at h3;have h4:n/1000000000=0:=h3.symm
    show n%1000000000≠0
    omega
   ·cases e2:Kf (n/1000000000) with
    | nil=>rw[e2] at h2;exact absurd rfl h2
    | cons x t=>rw[e2] at h2;exact h2
theorem Zoa(w:World)(a:OA_)(c:Nat)(l:List Nat)(hr:Rd w a (Qw (nI l)))(hp:Pcs l)(hl:l.length<=1000000)(hc:l.length<=c)(L:Qg w):
  Kc Tryz.prog 197 #[.bool false,.slice a l.length c] w (.string (dec (val l))):=by
 unfold Kc;have HT:=hd_ (Zgv w a c l hr hp hl hc);have HJ:=hd_ (fun W (hW:Bw_ w W)=>show Kc Tryz.prog 256 #[.slice a (Kf (val l)).length c] W (.string (dec (val l))) from by
  have h1:=Qv l hp;have h2:Rd w a (Qw (nI (Kf (val l)))):=by
   rw[<- h1,<- Zo1,show ∀ (L:List Int) (k:Nat),Qw (L.take k)=(Qw L).take k from fun L k=>List.map_take];exact Zol hr _
  have h3:=Vg l hp;have h4:=Zwh W a c (Kf (val l)) (h2.below hW nr_) (Kn _) (by omega) (Zth _) (L.below hW);rw[Kp] at h4;exact h4)
 clear hr hp hl hc L;generalize (Kf (val l)).length=m at *;generalize l.length=n at *;generalize dec (val l)=s at *;go_enter Tryz.func197,Tryz.ntmps197;go_wp2_with fail;refine cm_ HT.o ?_;rintro e_ w1 ⟨rfl,hb⟩;have B1:=hd_ hb;clear hb HT;go_wp2_with fail;refine cm_ (HJ.o _ B1.o) ?_;rintro e_ w2 ⟨rfl,hb⟩;have B2:=bt_ B1 hb;clear hb HJ B1;go_wp2_with fail;go_ret;exact⟨rfl,B2.o⟩
def Zsj (w:World) (B:Nat) (a:OA_) (c:Nat) (l:List Nat):Prop:=Zly w B a c (nI l)
theorem Zsj.open{w:World}{B c:Nat}{a:OA_}{l:List Nat}(h:Zsj w B a c l)(hn:0<l.length):
  ∃ g,a=some ⟨g,0,none⟩/\B<=g/\g<w.heap.size/\l.length<=c/\(∀ j,j<l.length->w.cell? ⟨g,j,none⟩=some (.int .i64 (l.getD j 0:Nat)))/\(∀ j,w.frozen? ⟨g,j,none⟩=false):=by
 obtain⟨g,cap,hv,h1,h2,h3,h4,h5⟩:=Ye h (by rw[Yc];exact hn);simp only[Value.slice.injEq] at hv;obtain⟨rfl,-,rfl⟩:=hv;rw[Yc] at h3 h4;refine⟨g,rfl,h1,h2,h3,fun j hj=>?_,h5⟩;have h6:j<(nI l).length:=by rw[Yc];exact hj
 rw[h4 j (by omega),Zaf (nI l) j h6,Qas l j hj h6]
theorem Zsj.store{w:World}{B c g:Nat}{l:List Nat}(h:Zsj w B (some ⟨g,0,none⟩) c l)(j x:Nat):
  Zsj (w.setCell ⟨g,j,none⟩ (.int .i64 (x:Nat))) B (some ⟨g,0,none⟩) c (l.set j x):=by
 have:=(World.ownsRow.stored h j (.int .i64 (x:Nat))).1
 unfold Zsj Zly;rw[<- Qd1,List.length_set,show Qw ((nI l).set j (x:Int))=(Qw (nI l)).set j (.int .i64 x) by simp[Qw,List.map_set]];exact this
theorem Zsj.below{w w':World}{B c:Nat}{a:OA_}{l:List Nat}(h:Zsj w B a c l){D:Nat}(hb:Below D w w')(hD:w.heap.size<=D):Zsj w' B a c l:=Zly.below h hb hD
theorem Zsj.rd{w:World}{B c:Nat}{a:OA_}{l:List Nat}(h:Zsj w B a c l):Rd w a (Qw (nI l)):=Zly.rd h
theorem Zvo(w:World)(l:List Nat)(hl:l.length<=100000000):Zsj (w.alloc (.cells (Qw (nI l)).toArray 3)) w.heap.size (some ⟨w.heap.size,0,none⟩) l.length l :=
 ⟨by simp[Qn],.inr ⟨w.heap.size,(nI l).length,(Qw (nI l)).toArray,by rw[Yc],Nat.le_refl _,heap_alloc_new _ _,Nat.le_refl _,by rw[Yc];unfold maxLen;omega,by simp[Qn],by rw[Nat.mul_one];exact List.take_of_length_le (by simp[Qn])⟩⟩
theorem Zo3(n:Nat):(madeCells #[.int .i64 0] n)=(Qw (nI (List.replicate n 0))).toArray:=by
 apply Array.ext';rw[toList_madeCells_one];simp[Qw,nI]
theorem Qd6(n:Nat)(w:World)(hn:n<=100000000):
  (Instr.makeSlice 30 (.int .i64 (n:Int)) (.int .i64 (n:Int))).run Tryz.prog w = .ok (.slice (some ⟨w.heap.size,0,none⟩) n n) (w.alloc (.cells (Qw (nI (List.replicate n 0))).toArray 3)):=by
 have:=run_make_row' (P:=Tryz.prog) 30 3 (.int .i64 0) 8 Tryz.underlying30 Qck rfl .i64 .i64 n (by omega) (by omega) w
 rw[Zo3] at this;exact this
structure TuO (p q:List Nat) (B k:Nat) (L:List Nat) (w wr:World):Prop where
 len:L.length=p.length+q.length+1
 pcs:Pcs L
 v:val L=val (p.take k)*val q
 z:∀ j,k+q.length<=j->L.getD j 0=0
 own:Zsj wr B (some ⟨B,0,none⟩) (p.length+q.length+1) L
 bel:Below B w wr
structure TuI (p q L:List Nat) (B i m cc:Nat) (M:List Nat) (w wr:World):Prop where
 len:M.length=p.length+q.length+1
 pcs:Pcs M
 v:val M+1000000000^(i+m)*cc=val L+1000000000^i*(p.getD i 0*val (q.take m))
 z:∀ j,i+q.length<=j->M.getD j 0=0
 own:Zsj wr B (some ⟨B,0,none⟩) (p.length+q.length+1) M
 bel:Below B w wr
theorem Zsq(w:World)(a1 a2:OA_)(c1 c2:Nat)(p q:List Nat)(h1:Rd w a1 (Qw (nI p)))(h2:Rd w a2 (Qw (nI q)))(p1:Pcs p)(p2:Pcs q)(l1:p.length<=400000)(l2:q.length<=400000):
  Zib 199 #[.slice a1 p.length c1,.slice a2 q.length c2] w (val p*val q):=by
 unfold Zib;have H1:=hd_ h1;have H2:=hd_ h2;have P1:=hd_ p1;have P2:=hd_ p2;clear h1 h2 p1 p2;obtain⟨n,hn⟩:∃ n,p.length=n:=⟨_,rfl⟩;obtain⟨m,hm⟩:∃ m,q.length=m:=⟨_,rfl⟩;rw[hn] at l1 ⊢;rw[hm] at l2 ⊢;have Hn:=hd_ hn;have Hm:=hd_ hm;clear hn hm;have eA:=Qd6 (n+m+1) w (by omega);have gA:=hd_ (Zvo w (List.replicate (n+m+1) 0) (by simp;omega));have Hb:=hd_ ((Below.refl w.heap.size w).alloc nr_ (.cells (Qw (nI (List.replicate (n+m+1) 0))).toArray 3))
 push_cast at eA
 have e1:IntKind.i64.wrap ((n:Int)+m)=(n:Int)+m:=iw_ _ (by omega);have e2:IntKind.i64.wrap ((n:Int)+m+1)=(n:Int)+m+1:=iw_ _ (by omega);generalize w.alloc (.cells (Qw (nI (List.replicate (n+m+1) 0))).toArray 3)=w5 at *;go_enter Tryz.func199,Tryz.ntmps199;go_wp2_with fail
 go_loopw [6] (fun i wr=>∃ (k:Nat) (L:List Nat),k<=n/\i = .int .i64 k/\Hid (TuO p q w.heap.size k L w wr)) (fun i _=>n-(intOf i).toNat)
 case atStart =>
  refine⟨0,List.replicate (n+m+1) 0,Nat.zero_le _,rfl,?_⟩;refine⟨by simp[Hn.o,Hm.o],Pcs.zeros _,by simp[Zd6,val],fun j _=>?_,?_,Hb.o⟩
  ·rw[List.getD_eq_getElem?_getD,List.getElem?_replicate];split<;>rfl
  ·have:=gA.o
   rw[List.length_replicate] at this;rw[Hn.o,Hm.o];exact this
 case round =>
  obtain⟨k,L,hk,rfl,HT⟩:=hrel;clear gA Hb eA
  by_cases gd:k<n
  ·obtain⟨b1,o1,rfl,HU,Ga⟩:=Zkw H1.o k (by rw[Hn.o];exact gd);have gu:(k:Int)<n:=by omega
   go_wp2_with fail
   go_loopw [7,8] (fun c j wr=>∃ (t cc:Nat) (M:List Nat),cc<1000000000/\j = .int .i64 t/\c = .int .i64 cc/\((t<=m/\Hid (TuI p q L w.heap.size k t cc M w wr))\/(t=m+1/\cc=0/\Hid (TuO p q w.heap.size (k+1) M w wr)))) (fun _ j _=>m+1-(intOf j).toNat)
   case atStart =>
    refine⟨0,0,L,by omega,rfl,rfl,.inl ⟨Nat.zero_le _,?_⟩⟩;exact⟨HT.o.len,HT.o.pcs,by simp[val],fun j hj=>HT.o.z j hj,HT.o.own,HT.o.bel⟩
   case round =>
    obtain⟨t,cc,M,FO,rfl,rfl,jr⟩:=hrel;rcases jr with⟨ht,HI⟩|⟨rfl,rfl,HO⟩
    ·obtain⟨g,hg,Fn,hg2,hg3,hg4,hg5⟩:=HI.o.own.open (by rw[HI.o.len];omega);obtain rfl:w.heap.size=g:=by simpa using hg
     clear hg
     by_cases Gf:t<m
     ·have cx:=Ga k (by rw[Hn.o];exact gd);rw[<- HI.o.bel.cell (p:=⟨b1,o1+k,none⟩) HU] at cx;have hx:=P1.o.getD k;obtain⟨x,hxx⟩:∃ x,p.getD k 0=x:=⟨_,rfl⟩;rw[hxx] at cx hx;have du:=hd_ hxx;clear hxx;obtain⟨b2,o2,rfl,H7,Gp⟩:=Zkw H2.o t (by rw[Hm.o];exact Gf);have cy:=Gp t (by rw[Hm.o];exact Gf);rw[<- HI.o.bel.cell (p:=⟨b2,o2+t,none⟩) H7] at cy;have hy:=P2.o.getD t;have ce:=hg4 (k+t) (by rw[HI.o.len,Hn.o,Hm.o];omega);have he:=HI.o.pcs.getD (k+t);have fe:=hg5 (k+t);have ep:=Zra hx hy;have gG:=Zit M q k t x cc (val L) (by rw[Hm.o];exact Gf) (by rw[HI.o.len,Hn.o,Hm.o];omega) (by have:=HI.o.v;rw[du.o] at this;exact this);have gv:Hid (∀ nq,TuI p q L w.heap.size k (t+1) ((cc+(M.getD (k+t) 0+x*q.getD t 0))/1000000000) (M.set (k+t) ((cc+(M.getD (k+t) 0+x*q.getD t 0))%1000000000)) w ((wr.drewN nq).setCell ⟨w.heap.size,k+t,none⟩ (.int .i64 ((cc+(M.getD (k+t) 0+x*q.getD t 0))%1000000000:Nat)))) :=
       fun nq=>⟨by rw[List.length_set];exact HI.o.len,HI.o.pcs.set _ _ (Nat.mod_lt _ (by decide)),by rw[du.o];exact gG,fun j hj=>by rw[Zb _ _ _ _ (by have:=Hm.o;omega)];exact HI.o.z j hj,(HI.o.own.below (Qb (Below.refl _ _) nq) nr_).store (k+t) _,(Qb HI.o.bel nq).setCell (p:=⟨w.heap.size,k+t,none⟩) nr_ _⟩
      clear gG Gp hg4 hg5;generalize M.getD (k+t) 0=e at *;generalize q.getD t 0=y at *;have Mf:(x:Int)*(y:Int)=((x*y:Nat):Int):=by rw[Int.natCast_mul]
      generalize x*y=xy at *;have Fc:IntKind.i64.wrap (xy:Int)=(xy:Int):=iw_ _ (by omega);have dY:IntKind.i64.wrap ((e:Int)+(cc:Int))=(e:Int)+(cc:Int):=iw_ _ (by omega);have ot:IntKind.i64.wrap ((e:Int)+(cc:Int)+(xy:Int))=(e:Int)+(cc:Int)+(xy:Int):=iw_ _ (by omega);have EN:IntKind.i64.wrap ((k:Int)+(t:Int))=((k+t:Nat):Int):=by rw[<- Int.natCast_add];exact iw_ _ (by have:=Hn.o;omega)
      have fX:IntKind.i64.wrap ((t:Int)+1)=((t+1:Nat):Int):=by rw[<- Int.natCast_succ];exact iw_ _ (by omega)
      have G9:Int.tmod ((e:Int)+(cc:Int)+(xy:Int)) 1000000000=(((cc+(e+xy))%1000000000:Nat):Int):=by rw[Int.tmod_eq_emod_of_nonneg (by omega)];omega
      have jO:((e:Int)+(cc:Int)+(xy:Int))%1000000000=(((cc+(e+xy))%1000000000:Nat):Int):=by omega
      have Fo:Int.tdiv ((e:Int)+(cc:Int)+(xy:Int)) 1000000000=(((cc+(e+xy))/1000000000:Nat):Int):=by rw[Int.tdiv_eq_ediv_of_nonneg (by omega)];omega
      have jN:((e:Int)+(cc:Int)+(xy:Int))/1000000000=(((cc+(e+xy))/1000000000:Nat):Int):=by omega
      have Cg:(cc+(e+xy))/1000000000<1000000000:=by omega
      have lY:(cc+(e+xy))%1000000000<1000000000:=Nat.mod_lt _ (by decide);generalize (cc+(e+xy))/1000000000=cd at *;generalize (cc+(e+xy))%1000000000=d at *;have om:IntKind.i64.wrap (cd:Int)=(cd:Int):=iw_ _ (by omega);have ol:IntKind.i64.wrap (d:Int)=(d:Int):=iw_ _ (by omega);have Fx:(t:Int)<m:=by omega
      clear HT HI;go_wp2_with fail
      go_quiet (fail)
      go_wp2_with fail;refine⟨⟨t+1,cd,_,Cg,by go_num,rfl,.inl ⟨by omega,gv.o _⟩⟩,by simp[intOf];omega⟩
     ·obtain rfl:t=m:=by omega
      have fe:=hg5 (k+t);have ce:=hg4 (k+t) (by rw[HI.o.len,Hn.o,Hm.o];omega);have eM:M.getD (k+t) 0=0:=HI.o.z _ (by rw[Hm.o];exact Nat.le_refl _);rw[eM] at ce;have gR:=Zl7 L M p q k cc (by rw[Hn.o];exact gd) (by rw[HI.o.len,Hn.o,Hm.o];omega) (by rw[Hm.o];exact eM) HT.o.v (by rw[Hm.o];exact HI.o.v);rw[Hm.o] at gR;have Fx:¬ (t:Int)<t:=by omega
      by_cases fZ:cc=0
      ·subst fZ;have G3:M.set (k+t) 0=M:=by
        refine List.ext_getElem (by simp) fun i h1 h2=>?_
        by_cases hi:k+t=i
        ·subst hi;rw[List.getElem_set_self];rw[List.getD_eq_getElem?_getD,List.getElem?_eq_getElem h2] at eM;exact eM.symm
        ·rw[List.getElem_set_ne hi]
       rw[G3] at gR;have HO:Hid (TuO p q w.heap.size (k+1) M w wr):=⟨HI.o.len,HI.o.pcs,gR,fun j hj=>HI.o.z j (by omega),HI.o.own,HI.o.bel⟩;have e9:¬ (0:Int)<0:=by omega
       clear gR hg4 hg5 Gf HT eM G3 HI;go_wp2_with fail;refine⟨⟨k+1,M,by omega,by go_num,HO⟩,by simp[intOf];omega⟩
      ·have jQ:(0:Int)<cc:=by omega
       have EN:IntKind.i64.wrap ((k:Int)+(t:Int))=((k+t:Nat):Int):=by rw[<- Int.natCast_add];exact iw_ _ (by have:=Hn.o;omega)
       have fX:IntKind.i64.wrap ((t:Int)+1)=((t+1:Nat):Int):=by rw[<- Int.natCast_succ];exact iw_ _ (by omega)
       have dY:IntKind.i64.wrap (cc:Int)=(cc:Int):=iw_ _ (by omega);have G9:Int.tmod (cc:Int) 1000000000=(cc:Int):=by rw[Int.tmod_eq_emod_of_nonneg (by omega)];omega
       have jO:(cc:Int)%1000000000=(cc:Int):=by omega
       have Fo:Int.tdiv (cc:Int) 1000000000=0:=by rw[Int.tdiv_eq_ediv_of_nonneg (by omega)];omega
       have jN:(cc:Int)/1000000000=0:=by omega
       have HO:Hid (TuO p q w.heap.size (k+1) (M.set (k+t) cc) w (wr.setCell ⟨w.heap.size,k+t,none⟩ (.int .i64 (cc:Nat)))) :=
        ⟨by rw[List.length_set];exact HI.o.len,HI.o.pcs.set _ _ FO,gR,fun j hj=>by rw[Zb _ _ _ _ (by have:=Hm.o;omega)];exact HI.o.z j (by omega),HI.o.own.store (k+t) cc,HI.o.bel.setCell (p:=⟨w.heap.size,k+t,none⟩) nr_ _⟩
       clear gR hg4 hg5 Gf HT eM HI;go_wp2_with fail;refine⟨⟨t+1,0,_,by omega,by go_num,rfl,.inr ⟨rfl,rfl,HO⟩⟩,by simp[intOf]⟩
    ·have Gf:¬ ((m:Int)+1<m):=by omega
     clear HT;go_wp2_with fail;refine⟨⟨k+1,M,by omega,by go_num,HO⟩,by simp[intOf];omega⟩
  ·obtain rfl:k=n:=by omega
   have gu:¬ (k:Int)<k:=by omega
   have hv:val L=val p*val q:=by
    have:=HT.o.v
    rw[<- Hn.o,List.take_length] at this;exact this
   have gh:L.length=k+m+1:=by rw[HT.o.len,Hn.o,Hm.o]
   have GV:=Zgv wr (some ⟨w.heap.size,0,none⟩) (k+m+1) L HT.o.own.rd HT.o.pcs (by omega) (by omega);rw[gh,hv] at GV;have fS:=hd_ GV;have h3:=Vg L HT.o.pcs;have h4:=Qv L HT.o.pcs;rw[hv,gh] at h3;rw[hv] at h4;have HR:Hid (Rd wr (some ⟨w.heap.size,0,none⟩) (Qw (nI (Kf (val p*val q))))):=by
    show Rd _ _ _
    rw[<- h4,<- Zo1,show ∀ (L:List Int) (k:Nat),Qw (L.take k)=(Qw L).take k from fun L k=>List.map_take];exact Zol HT.o.own.rd _
   have HB:=hd_ HT.o.bel;have H3:=hd_ h3;clear GV hv gh h3 h4 HT
   push_cast at fS
   go_wp2_with fail;refine cm_ fS.o ?_;rintro e_ w6 ⟨rfl,hb6⟩;have B6:=bt_ HB hb6;have R6:=hd_ (HR.o.below hb6 nr_);clear hb6 fS;go_wp2_with fail;go_ret;exact⟨some ⟨w.heap.size,0,none⟩,k+m+1,rfl,R6.o,H3.o,B6.o⟩
theorem Ziz(w:World)(n:Nat)(hn:Num n):Zib 200 #[.string (dec n)] w n:=by
 have h1:(dec n).size<=1000000:=hn;have:=Zsv (dec n) w (by rw[Yf];exact Zs n) (by omega)
 rw[show Qt (lb (dec n))=n from by rw[Yf];exact Yw n] at this;exact this
theorem Zek(n:Nat)(hn:Num n):(Kf n).length<=400000:=by
 have h:(dec n).size<=1000000:=hn;obtain⟨k,hk⟩:∃ k,k=400000:=⟨_,rfl⟩;rw[<- hk,Kl];have h1:=(Yz n (9*k) (by omega)).1 (by omega)
 rwa [Nat.pow_mul] at h1
theorem Zky(w:World)(x y:Nat)(hx:Num x)(hy:Num y)(L:Qg w):
  Kc Tryz.prog 114 #[.string (dec x),.string (dec y)] w (.string (dec (x*y))):=by
 unfold Kc;have E':(dec x).size<=1000000:=hx;have Md:(dec y).size<=1000000:=hy;have D1:=hd_ fun w:World=>Zcr w x
 have D2:=hd_ fun w:World=>Zcr w y
 by_cases hs:(dec x).size+(dec y).size<=18
 ·have Q1:=hd_ fun w:World=>Zja w x
  have Q2:=hd_ fun w:World=>Zja w y
  rw[if_pos (by omega)] at Q1 Q2;have d1:=(Ks x (dec x).size (by rw[Qc];exact Zr x)).1 (by rw[Qc];exact Nat.le_refl _);have d2:=(Ks y (dec y).size (by rw[Qc];exact Zr y)).1 (by rw[Qc];exact Nat.le_refl _);have d3:x*y<10^((dec x).size+(dec y).size):=by rw[Nat.pow_add];exact Nat.mul_lt_mul_of_lt_of_lt d1 d2
  have d4:10^((dec x).size+(dec y).size)<=10^18:=Nat.pow_le_pow_right (by decide) hs;have d5:x*y<1000000000000000000:=by omega
  have fH:IntKind.i64.wrap ((x:Int)*(y:Int))=((x*y:Nat):Int):=by rw[<- Int.natCast_mul];exact iw_ _ (by omega)
  have mQ:=hd_ fun (W:World) (hW:Bw_ w W)=>Qb4 W ((x*y:Nat):Int) (by omega) (by omega) (L.below hW)
  rw[Kg] at mQ;have ed:((dec x).size:Int)+(dec y).size<=18:=by omega
  clear d1 d2 d3 d4 d5 hx hy E' Md L;generalize dec (x*y)=r at *;generalize x*y=u at *;generalize dec x=s1 at *;generalize dec y=s2 at *;go_enter Tryz.func114,Tryz.ntmps114;go_wp2_with fail;refine cm_ (D1.o _) ?_;rintro e w1 ⟨rfl,HU⟩;have H6:=hd_ HU;clear HU;go_wp2_with fail;refine cm_ (D2.o _) ?_;rintro e w2 ⟨rfl,H7⟩;have H9:=bt_ H6 H7;clear H7 H6;go_wp2_with fail;refine Calls.mono (Q1.o _) ?_;rintro e w3 ⟨rfl,hb3⟩;have gk:=bt_ H9 hb3;clear hb3 H9;go_wp2_with fail;refine Calls.mono (Q2.o _) ?_;rintro e w4 ⟨rfl,gz⟩;have gq:=bt_ gk gz;clear gz gk;go_wp2_with fail;refine cm_ (mQ.o _ gq.o) ?_;rintro e w5 ⟨rfl,hb5⟩;have gD:=bt_ gq hb5;clear hb5 gq;go_wp2_with fail;go_ret;exact⟨rfl,gD.o⟩
 ·have ed:¬ ((dec x).size:Int)+(dec y).size<=18:=by omega
  have S1:=hd_ fun w:World=>Zmi w x
  have S2:=hd_ fun w:World=>Zmi w y
  have j':=hd_ fun w:World=>Ziz w x hx
  have j9:=hd_ fun w:World=>Ziz w y hy
  unfold Zib at j' j9;have HT:=hd_ fun (W:World) (a1 a2:OA_) (c1 c2:Nat) (h1:Rd W a1 (Qw (nI (Kf x)))) (h2:Rd W a2 (Qw (nI (Kf y))))=>Zsq W a1 a2 c1 c2 (Kf x) (Kf y) h1 h2 (Kn _) (Kn _) (Zek x hx) (Zek y hy)
  rw[Kp,Kp] at HT;unfold Zib at HT;have jt:(Kf (x*y)).length<=1000000:=by
   have h1:=Zft x y;have h2:=Zek x hx;have h3:=Zek y hy;omega
  have HG:=hd_ fun (W:World) (a:OA_) (c:Nat) (h:Rd W a (Qw (nI (Kf (x*y))))) (hc:(Kf (x*y)).length<=c) (LW:Qg W)=>Zoa W a c (Kf (x*y)) h (Kn _) jt hc LW
  rw[Kp] at HG;have HL:=hd_ L;clear hx hy L jt;generalize dec (x*y)=r at *;generalize dec x=s1 at *;generalize dec y=s2 at *;obtain⟨lp,hlp⟩:∃ lp,(Kf x).length=lp:=⟨_,rfl⟩;obtain⟨lq,jA⟩:∃ lq,(Kf y).length=lq:=⟨_,rfl⟩;obtain⟨lr,jy⟩:∃ lr,(Kf (x*y)).length=lr:=⟨_,rfl⟩;rw[hlp] at j' HT;rw[jA] at j9 HT;rw[jy] at HT HG;clear hlp jA jy;go_enter Tryz.func114,Tryz.ntmps114;go_wp2_with fail;refine cm_ (D1.o _) ?_;rintro e w1 ⟨rfl,HU⟩;have H6:=hd_ HU;clear HU;go_wp2_with fail;refine cm_ (D2.o _) ?_;rintro e w2 ⟨rfl,H7⟩;have H9:=bt_ H6 H7;clear H7 H6;go_wp2_with fail;refine cm_ (S1.o _) ?_;rintro e w3 ⟨rfl,hb3⟩;have gk:=bt_ H9 hb3;clear hb3 H9;go_wp2_with fail;refine cm_ (S2.o _) ?_;rintro e w4 ⟨rfl,gz⟩;have gq:=bt_ gk gz;clear gz gk;go_wp2_with fail;refine cm_ (D1.o _) ?_;rintro e w5 ⟨rfl,hb5⟩;have gD:=bt_ gq hb5;clear hb5 gq;go_wp2_with fail;refine cm_ (j'.o _) ?_;rintro e w6 ⟨a1,c1,rfl,r1,Ga,hb6⟩;have Gc:=bt_ gD hb6;have R1:=hd_ r1;clear hb6 gD r1 Ga;go_wp2_with fail;refine cm_ (D2.o _) ?_;rintro e w7 ⟨rfl,hb7⟩;have Fr:=bt_ Gc hb7;replace R1:=hd_ (R1.o.below hb7 nr_);clear hb7 Gc;go_wp2_with fail;refine cm_ (j9.o _) ?_;rintro e w8 ⟨a2,c2,rfl,r2,Gp,GT⟩;have CM:=bt_ Fr GT;replace R1:=hd_ (R1.o.below GT nr_);have R2:=hd_ r2;clear GT Fr r2 Gp;go_wp2_with fail;refine cm_ (HT.o _ a1 a2 c1 c2 R1.o R2.o) ?_;rintro e w9 ⟨a3,c3,rfl,r3,Gk,De⟩;have iB:=bt_ CM De;have R3:=hd_ r3;have CR:=hd_ Gk;clear De CM r3 Gk R1 R2 HT;go_wp2_with fail;refine cm_ (HG.o _ a3 c3 R3.o CR.o (HL.o.below iB.o)) ?_;rintro e w10 ⟨rfl,hb10⟩;have JP:=bt_ iB hb10;clear hb10 iB;go_wp2_with fail;go_ret;exact⟨rfl,JP.o⟩
theorem Zjc(w:World)(b n:Nat)(hb:1<=b)(hN:Num (b^(2*n+2)))(hn:n<=1000000)(L:Qg w):
  Kc Tryz.prog 115 #[.string (dec b),.int .i64 n] w (.string (dec (b^n))):=by
 unfold Kc;have HN:Hid (∀ k,k<=2*n+2->Num (b^k)):=fun k hk=>Nat.le_trans (Zr5 (Nat.pow_le_pow_right hb hk)) hN
 have HM:=hd_ fun (W:World) (x y:Nat) (hx:x<=2*n+2) (hy:y<=2*n+2) (hW:Bw_ w W)=>Zky W (b^x) (b^y) (HN.o x hx) (HN.o y hy) (L.below hW)
 have H1:Hid (dec (b^0)=⟨#[49]⟩):=by show _=_;rw[Nat.pow_zero,Yo]
 have H6:Hid (dec b=dec (b^1)):=by show _=_;rw[Nat.pow_one]
 clear hN L;go_enter Tryz.func115,Tryz.ntmps115;go_wp2_with fail
 go_loopw [0,1,5] (fun A m o wr=>∃ (k x y:Nat),A = .string (dec (b^y))/\m = .int .i64 k/\o = .string (dec (b^x))/\k<=n/\Hid (x+y*k=n)/\Hid (y<=2*n+2)/\Hid (Bw_ w wr)) (fun _ m _ _=>(intOf m).toNat)
 case atStart =>
  refine⟨n,0,1,by rw[H6.o],rfl,by rw[H1.o],Nat.le_refl _,?_,?_,Below.refl _ _⟩
  ·show _=_;omega
  ·show _<=_;omega
 case round =>
  obtain⟨k,x,y,rfl,rfl,rfl,hk,Hxy,Hy,HB⟩:=hrel
  by_cases EF:k=0
  ·subst EF;have EN:¬ (0:Int)<((0:Nat):Int):=by omega
   have bc:Hid (x=n):=by show _=_;have:=Hxy.o;omega
   go_wp2_with fail;go_ret;exact⟨by rw[bc.o];rfl,HB.o⟩
  ·have EN:(0:Int)<k:=by omega
   have Hx:Hid (x<=2*n+2):=by show _<=_;have:=Hxy.o;omega
   have LI:Hid (y<=n):=by
    show _<=_
    have:=Hxy.o
    have h2:y*1<=y*k:=Nat.mul_le_mul_left _ (by omega);omega
   have MY:Int.tdiv (k:Int) 2=((k/2:Nat):Int):=by rw[Int.tdiv_eq_ediv_of_nonneg (by omega)];omega
   have lX:(k:Int)/2=((k/2:Nat):Int):=by omega
   have NS:IntKind.i64.wrap ((k/2:Nat):Int)=((k/2:Nat):Int):=iw_ _ (by omega);have Ji:Hid (Kc Tryz.prog 114 #[.string (dec (b^y)),.string (dec (b^y))] wr (.string (dec (b^(y+y))))):=by
    have:=HM.o wr y y Hy.o Hy.o HB.o
    rw[<- Nat.pow_add] at this;exact this
   have JG:Hid (x+(y+y)*(k/2)=n\/k%2=1):=by
    by_cases h:k%2=1
    ·exact .inr h
    ·refine .inl ?_;have h1:=Hxy.o;obtain⟨u,rfl⟩:∃ u,k=2*u:=⟨k/2,by omega⟩;rw[show (2*u)/2=u by omega,Nat.add_mul];rw[Nat.mul_left_comm] at h1;omega
   have A9:Hid (k%2=1->x+y+(y+y)*(k/2)=n):=fun h=>by
    have h1:=Hxy.o;obtain⟨u,rfl⟩:∃ u,k=2*u+1:=⟨k/2,by omega⟩;rw[show (2*u+1)/2=u by omega,Nat.add_mul];rw[Nat.mul_add,Nat.mul_left_comm] at h1;omega
   have eT:Hid (k/2<k/\k/2<=n):=⟨by omega,by omega⟩;have o6:Hid (0<k/2->2*y<=n):=fun h=>by
    have:=Hxy.o
    have h2:y*2<=y*k:=Nat.mul_le_mul_left _ (by omega);omega
   have Hz:Hid (¬ 0<k/2->k=1):=fun h=>by omega
   by_cases Fa:k%2=1
   ·have bN:Int.tmod (k:Int) 2=1:=by rw[Int.tmod_eq_emod_of_nonneg (by omega)];omega
    have aZ:(k:Int)%2=1:=by omega
    have FD:Hid (Kc Tryz.prog 114 #[.string (dec (b^x)),.string (dec (b^y))] wr (.string (dec (b^(x+y))))):=by
     have:=HM.o wr x y Hx.o Hy.o HB.o
     rw[<- Nat.pow_add] at this;exact this
    have AR:Hid (∀ W,Bw_ w W->Kc Tryz.prog 114 #[.string (dec (b^y)),.string (dec (b^y))] W (.string (dec (b^(y+y))))):=fun W hW=>by
     have:=HM.o W y y Hy.o Hy.o hW
     rw[<- Nat.pow_add] at this;exact this
    replace A9:=hd_ (A9.o Fa);clear Fa Ji JG;generalize hh:k/2=h at *;clear hh;have dz:=HB;go_wp2_with fail;refine cm_ FD.o ?_;rintro e w5 ⟨rfl,hb5⟩;have B5:=bt_ HB hb5;clear hb5 HB dz FD
    by_cases MQ:0<h
    ·have C0:(0:Int)<h:=by omega
     have IA:Hid (y+y<=2*n+2):=by show _<=_;have:=LI.o;omega
     go_wp2_with fail;refine cm_ (AR.o _ B5.o) ?_;rintro e w6 ⟨rfl,hb6⟩;have B6:=bt_ B5 hb6;clear hb6 B5 AR;go_wp2_with fail;refine⟨⟨h,x+y,y+y,rfl,rfl,rfl,eT.o.2,A9,IA,B6⟩,?_⟩;have:=eT.o.1
     simp[intOf];omega
    ·have C0:¬ (0:Int)<h:=by omega
     have EV:Hid (x+y+y*h=n):=by
      show _=_
      have h1:=A9.o;obtain rfl:h=0:=by omega
      rw[Nat.mul_zero] at h1 ⊢;exact h1
     go_wp2_with fail;refine⟨⟨h,x+y,y,rfl,rfl,rfl,eT.o.2,EV,Hy,B5⟩,?_⟩;have:=eT.o.1
     simp[intOf];omega
   ·have bN:Int.tmod (k:Int) 2=0:=by rw[Int.tmod_eq_emod_of_nonneg (by omega)];omega
    have aZ:(k:Int)%2=0:=by omega
    have EV:Hid (x+(y+y)*(k/2)=n):=by
     rcases JG.o with h|h
     ·exact h
     ·exact absurd h Fa
    have MQ:0<k/2:=by omega
    have C0:(0:Int)<((k/2:Nat):Int):=by omega
    have IA:Hid (y+y<=2*n+2):=by show _<=_;have:=LI.o;omega
    clear Fa JG A9;generalize hh:k/2=h at *;clear hh;go_wp2_with fail;refine cm_ Ji.o ?_;rintro e w6 ⟨rfl,hb6⟩;have B6:=bt_ HB hb6;clear hb6 HB Ji;go_wp2_with fail;refine⟨⟨h,x,y+y,rfl,rfl,rfl,eT.o.2,EV,IA,B6⟩,?_⟩;have:=eT.o.1
    simp[intOf];omega
def Qa7 (l:List Nat):Prop:=∀ x∈l,x<4294967296
theorem Qa7.getD{l:List Nat}(h:Qa7 l)(i:Nat):l.getD i 0<4294967296:=by
 rw[List.getD_eq_getElem?_getD];cases hk:l[i]? with
 | none=>simp
 | some x=>exact h x (List.mem_of_getElem? hk)
theorem Qa7.set{l:List Nat}(h:Qa7 l)(i x:Nat)(hx:x<4294967296):Qa7 (l.set i x):=fun y hy=>by
 rcases List.mem_or_eq_of_mem_set hy with hy|hy
 ·exact h y hy
 ·rw[hy];exact hx
theorem Qa7.take{l:List Nat}(h:Qa7 l)(k:Nat):Qa7 (l.take k):=fun x hx=>h x (List.mem_of_mem_take hx)
theorem Zq6{p k:Nat}(hp:p<=97)(hk:k<=4000):Num (p^k):=by
 show (dec (p^k)).size<=1000000
 obtain⟨D,hD⟩:∃ D:Nat,D=8001:=⟨_,rfl⟩;refine Nat.le_trans ((Yz (p^k) D (by omega)).2 ?_) (by omega);have h1:p^k<=(10^2)^k:=Nat.pow_le_pow_left (by omega) k;rw[<- Nat.pow_mul] at h1;exact Nat.lt_of_le_of_lt h1 (Nat.pow_lt_pow_right (by decide) (by omega))
theorem Qd0{n D:Nat}(h:n<10^D)(h1:1<10^D):Sm D ((n:Nat):Rat):=⟨by rw[Rat.num_natCast,Int.natAbs_natCast];exact h,by rw[Rat.den_natCast];exact h1⟩
theorem Qar(n:Nat):fr ((n:Nat):Rat) = .agg #[.string (dec n),.string ⟨#[49]⟩]:=by
 unfold fr fv;rw[Rat.num_natCast,Rat.den_natCast,Kg,Yo]
theorem Qaq{n:Nat}(h:n<10^30):Num n:=Ku (D:=30) h (by decide) (by decide)
structure RsI (w:World) (ga gb:Nat) (lo hi:Rat) (wr:World):Prop where
 r0:∃ x y,wr.heap[w.heap.size]?=some (.cells #[x,y] 101 (0,0))
 r1:∃ x y,wr.heap[w.heap.size+1]?=some (.cells #[x,y] 101 (0,0))
 a:Zc1 wr ga lo
 b:Zc1 wr gb hi
 na:w.heap.size+2<=ga
 nb:w.heap.size+2<=gb
 bel:Bw_ w wr
theorem RsI.put0{w wr:World}{ga gb:Nat}{lo hi:Rat}(h:RsI w ga gb lo hi wr)(x y:Value):RsI w ga gb lo hi ((wr.setCell ⟨w.heap.size,0,none⟩ x).setCell ⟨w.heap.size,1,none⟩ y):=by
 obtain⟨⟨x0,y0,h0⟩,⟨x1,y1,h1⟩,h2,h3,h4,h5,h6⟩:=h;refine⟨⟨_,_,Zq5 h0 x y⟩,⟨_,_,Zds h1 (by omega) x y⟩,Zc1.set h2 (by omega) _ _,Zc1.set h3 (by omega) _ _,h4,h5,(h6.setCell (p:=⟨w.heap.size,0,none⟩) nr_ _).setCell (p:=⟨w.heap.size,1,none⟩) nr_ _⟩
theorem RsI.drew{w wr:World}{ga gb:Nat}{lo hi:Rat}(h:RsI w ga gb lo hi wr)(n:Nat):RsI w ga gb lo hi (wr.drewN n):=⟨h.r0,h.r1,h.a,h.b,h.na,h.nb,Qb h.bel n⟩

end Go.Proofs.YtbielfplgbammaaGreatDoor
namespace Go.Proofs.YtbielfplgbammaaGreatDoor
open Go.RowKit
structure Zsl (rs:List Int) (t0:Rat) (ts:List Rat):Prop where
 ps:∀ p∈2::rs,p∈Vm
 nd:(2::rs).Nodup
 n6:(2::rs).length<=6
 p0:Vd (2::rs)=0
 len:ts.length=rs.length
 sm:Sml 480 12 (t0::ts)
theorem Zsl.i64{rs:List Int}{t0:Rat}{ts:List Rat}(C:Zsl rs t0 ts):Zgm (2::rs):=fun x hx=>by
 have Ge:∀ q∈Vm,2<=q/\q<=97:=by decide
 have:=Ge x (C.ps x hx)
 omega
theorem Zsl.ok{rs:List Int}{t0:Rat}{ts l:List Rat}(C:Zsl rs t0 ts){W:World}{aq al:OA_}(r0:Rd W aq (Qw (2::rs)))(rl:Rd W al (Km l))(hl:l.length=(2::rs).length)(hm:∀ q∈l,Sm 30 q):Vj W (2::rs) aq al l 30 :=
 ⟨r0,rl,hl,by have:=C.n6;omega,fun p hp=>by
  have Ge:∀ q∈Vm,2<=q/\q<=97:=by decide
  exact Ge p (C.ps p hp),hm,by decide⟩
theorem Zxe{k:Nat}(hk:k<=9):Sm 13 ((1200*10^k:Nat):Rat):=Qd0 (by have:=(Zlq hk).2;omega) (by decide)
theorem Zsl.mul_len{rs:List Int}{t0:Rat}{ts:List Rat}(C:Zsl rs t0 ts)(N:Rat):(wmQ (t0::ts) N).length=(2::rs).length:=by rw[Zbz,List.length_cons,List.length_cons,C.len]
theorem Zsl.mul_sm{rs:List Int}{t0:Rat}{ts:List Rat}(C:Zsl rs t0 ts){k:Nat}(hk:k<=9):∀ q∈wmQ (t0::ts) ((1200*10^k:Nat):Rat),Sm 30 q:=(Qam hk C.sm).sm (by decide) (by decide)
theorem Znm{rs:List Int}{t0:Rat}{ts:List Rat}(C:Zsl rs t0 ts)(W:World)(aq:OA_)(cq:Nat)(r0:Rd W aq (Qw (2::rs)))(L:Qg W):
  Calls Tryz.prog 116 #[.slice aq (2::rs).length cq] W fun e w'=>∃ a c,e = .returned (.tuple #[.slice a (2::rs).length c,.int .i64 0])/\Rd w' a (Km (Zz ts.length))/\Bw_ W w':=by
 have h:=Zwr W aq cq (2::rs) r0 C.i64 C.p0 L;unfold Zia at h;have e:(List.replicate (2::rs).length (0:Rat)).set 0 1=Zz ts.length:=by rw[List.length_cons,<- C.len];exact Zym _
 have hl:(Zz ts.length).length=(2::rs).length:=by rw[Zy,C.len,List.length_cons]
 rw[e,hl] at h;refine cm_ h ?_;rintro e w' ⟨a,c,rfl,ho,hb⟩;exact⟨a,c,rfl,ho.rd,hb⟩
theorem Zr7{rs:List Int}{t0:Rat}{ts:List Rat}(C:Zsl rs t0 ts){k:Nat}(hk:k<=9)(W:World)(aq al:OA_)(cq cl:Nat)(r0:Rd W aq (Qw (2::rs)))(rl:Rd W al (Km (t0::ts)))(L:Qg W):
  Calls Tryz.prog 117 #[.slice aq (2::rs).length cq,.slice al (2::rs).length cl,fr ((1200*10^k:Nat):Rat)] W fun e w'=>∃ a c,e = .returned (.tuple #[.slice a (2::rs).length c,.int .i64 0])/\Rd w' a (Km (wmQ (t0::ts) ((1200*10^k:Nat):Rat)))/\Bw_ W w':=by
 have hl:(t0::ts).length=(2::rs).length:=by rw[List.length_cons,List.length_cons,C.len]
 have e:Zao (2::rs).length [t0::ts] [((1200*10^k:Nat):Rat)]=wmQ (t0::ts) ((1200*10^k:Nat):Rat):=by rw[Zg1 _ _ _ hl,Zf0]
 have h:=Zs0 W (2::rs) aq al cq cl (t0::ts) ((1200*10^k:Nat):Rat) (C.ok r0 rl hl (C.sm.sm (by decide) (by decide))) C.p0 L (Zxe hk) (by rw[e];exact C.mul_sm hk);rw[e,C.mul_len,hl] at h;refine cm_ h ?_;rintro e w' ⟨a,c,rfl,ho,hb⟩;exact⟨a,c,rfl,ho.rd,hb⟩
theorem Zr8{rs:List Int}{t0:Rat}{ts:List Rat}(C:Zsl rs t0 ts){k:Nat}(hk:k<=9){z:Int}(hz:LN.FloorOf (2::rs) (Ki (wmQ (t0::ts) ((1200*10^k:Nat):Rat)) (Zz ts.length) 2 1) (Ki (Zz ts.length) (Zz ts.length) 2 0) z)(W:World)(aq al ao:OA_)(cq cl co:Nat)(r0:Rd W aq (Qw (2::rs)))(rl:Rd W al (Km (wmQ (t0::ts) ((1200*10^k:Nat):Rat))))(ro:Rd W ao (Km (Zz ts.length)))(L:Qg W):
  Kc Tryz.prog 118 #[.slice aq (2::rs).length cq,.slice al (2::rs).length cl,.slice ao (2::rs).length co] W (.tuple #[.string (itx z),.int .i64 0]):=by
 have l1:=C.mul_len ((1200*10^k:Nat):Rat);have l2:(Zz ts.length).length=(2::rs).length:=by rw[Zy,C.len,List.length_cons]
 have A:=C.ok r0 rl l1 (C.mul_sm hk);have B:=C.ok r0 ro l2 ((Zge ts.length).sm (by decide) (by decide));have F:=Zxb hk C.ps C.nd C.n6 C.len C.sm;have h:=Zsi W (2::rs) aq al ao cq cl co _ _ A B C.p0 L (Zl6 l2 ⟨1,List.mem_cons_self,by decide⟩) z fun W' a3 a4 c3 c4 A' B' L'=>by
  have e1:=Zke (2::rs).length _ _ 2 1 l1 l2;have e2:=Zg1 (2::rs).length _ 2 l2;rw[e1] at A' ⊢;rw[e2] at B' ⊢;exact Zhm W' (2::rs) aq a3 a4 cq c3 c4 (2*30+5) 52 _ _ A' B' (by decide) F L' hz
 rw[l1,l2] at h;exact h
theorem Zog(w:World)(a0 a1:OA_)(c0 c1 k:Nat)(rs:List Int)(t0:Rat)(ts:List Rat)(z:Int)(C:Zsl rs t0 ts)(hk:k<=9)(hz:LN.FloorOf (2::rs) (Ki (wmQ (t0::ts) ((1200*10^k:Nat):Rat)) (Zz ts.length) 2 1) (Ki (Zz ts.length) (Zz ts.length) 2 0) z)(r0:Rd w a0 (Qw (2::rs)))(r1:Rd w a1 (Km (t0::ts)))(L:Qg w):
  Kc Tryz.prog 46 #[.slice a0 (2::rs).length c0,.slice a1 (2::rs).length c1,.int .i64 k] w (.string (itx z)):=by
 unfold Kc;have HE:=hd_ (fun W aq cq (hW:Bw_ w W) r=>Znm C W aq cq r (L.below hW));have HS:=hd_ (fun W aq al cq cl (hW:Bw_ w W) r0 rl=>Zr7 C hk W aq al cq cl r0 rl (L.below hW));have HR:=hd_ (fun W aq al ao cq cl co (hW:Bw_ w W) r0 rl ro=>Zr8 C hk hz W aq al ao cq cl co r0 rl ro (L.below hW));have HP:=hd_ (fun W (hW:Bw_ w W)=>Zjc W 10 k (by decide) (Zq6 (by decide) (by omega)) (by omega) (L.below hW));have DU:dec 10=⟨#[49,48]⟩:=by
  have:(dec 10).data = #[49,48]:=by decide +kernel
  exact ByteArray.ext this
 have Ej:dec 1200=⟨#[49,50,48,48]⟩:=by
  have:(dec 1200).data = #[49,50,48,48]:=by decide +kernel
  exact ByteArray.ext this
 rw[DU] at HP;have HM:=hd_ (fun W (hW:Bw_ w W)=>Zky W 1200 (10^k) (Qaq (by decide)) (Zq6 (p:=10) (by decide) (by omega)) (L.below hW));rw[Ej] at HM;have ee:=Qar (1200*10^k);rw[ee] at HS;obtain⟨b,off,rfl,Dd,Gm⟩:=r0.open (by simp[Qw]);have fZ:=Gm 0 (.int .i64 2) rfl;rw[Nat.add_zero] at fZ;have H0:=hd_ (fun W (hW:Bw_ w W)=>(show W.cell? ⟨b,off,none⟩=some (.int .i64 2) from by rw[hW.cell (p:=⟨b,off,none⟩) Dd];exact fZ));have R0:=hd_ r0;have R1:=hd_ r1;have e9:(((2::rs).length:Int)==0)=false:=by rw[beq_eq_false_iff_ne,List.length_cons];omega
 have Fb:(0:Int)<((2::rs).length:Int):=by rw[List.length_cons];omega
 clear r0 r1 C hz L Gm fZ DU Ej ee;generalize dec (1200*10^k)=sN at *;generalize dec (10^k)=s10 at *;generalize wmQ (t0::ts) ((1200*10^k:Nat):Rat)=tm at *;generalize Zz ts.length=oc at *;generalize itx z=sz at *;generalize Qw (2::rs)=vs at *;generalize (2::rs).length=n at *;go_enter Tryz.func46,Tryz.ntmps46;go_wp2_with fail;refine cm_ (HP.o _ (Below.refl _ _)) ?_;rintro e_ w1 ⟨rfl,hb_⟩;have B1:=hd_ hb_;clear hb_ HP;go_wp2_with fail;refine cm_ (HM.o _ B1.o) ?_;rintro e_ w2 ⟨rfl,hb_⟩;have B2:=bt_ B1 hb_;clear hb_ HM B1;have K2:Hid ((w2.alloc (.cells #[.string sN,.string ⟨#[49]⟩] 101)).heap[w2.heap.size]?=some (.cells #[.string sN,.string ⟨#[49]⟩] 101 (0,0))):=heap_alloc_new w2 _;have B3:=hd_ (B2.o.alloc B2.o.size (.cells #[.string sN,.string ⟨#[49]⟩] 101));have Bh:=hd_ (R0.o.below B3.o nr_);have ax:=hd_ (R1.o.below B3.o nr_);have aw:=H0.o _ B3.o;clear R0 R1 H0;go_wp2_with fail;generalize w2.alloc (.cells #[.string sN,.string ⟨#[49]⟩] 101)=w3 at *;clear aw B2;refine cm_ (HE.o _ _ _ B3.o Bh.o) ?_;rintro e_ x1 ⟨ao,co,rfl,ro_,hb_⟩;have AH:=hd_ ro_;have Bi:=hd_ (Bh.o.below hb_ nr_);have AE:=hd_ (ax.o.below hb_ nr_);have K1:=hk_ K2 hb_;have D1:=bt_ B3 hb_;obtain⟨q0,q1,-,-⟩:=Ka K1.o;clear hb_ ro_ HE B3 Bh ax K2;go_wp2_with fail;refine cm_ (HS.o _ _ _ _ _ D1.o Bi.o AE.o) ?_;rintro e_ x2 ⟨at_,ct_,rfl,rt_,hb_⟩;have AD:=hd_ rt_;have AF:=hd_ (Bi.o.below hb_ nr_);have AG:=hd_ (AH.o.below hb_ nr_);have D2:=bt_ D1 hb_;clear hb_ rt_ HS D1 Bi AE AH K1 q0 q1;go_wp2_with fail;refine cm_ (HR.o _ _ _ _ _ _ _ D2.o AF.o AD.o AG.o) ?_;rintro e_ x3 ⟨rfl,hb_⟩;have D3:=bt_ D2 hb_;clear hb_ HR D2 AF AD AG;go_wp2_with fail;go_ret;exact⟨rfl,D3.o⟩
theorem Zy9(l:List Int):∀ u∈Qw l,u.oneCell'=true:=by
 intro u hu;obtain⟨x,_,rfl⟩:=List.mem_map.1 hu;rfl
theorem Zml(w:World)(a0 a1:OA_)(c0 c1 k:Nat)(rs:List Int)(t0:Rat)(ts:List Rat)(z:Int)(C:Zsl rs t0 ts)(hk:k<=9)(hz:LN.FloorOf (2::rs) (Ki (wmQ (t0::ts) ((1200*10^k:Nat):Rat)) (Zz ts.length) 2 1) (Ki (Zz ts.length) (Zz ts.length) 2 0) z)(Ic:t0=0)(Ca:∃ p rs2,rs=p::rs2/\p≠2)(r0:Rd w a0 (Qw rs))(r1:Rd w a1 (Km ts))(L:Qg w):
  Kc Tryz.prog 46 #[.slice a0 rs.length c0,.slice a1 rs.length c1,.int .i64 k] w (.string (itx z)):=by
 unfold Kc;have HE:=hd_ (fun W aq cq (hW:Bw_ w W) r=>Znm C W aq cq r (L.below hW));have HS:=hd_ (fun W aq al cq cl (hW:Bw_ w W) r0 rl=>Zr7 C hk W aq al cq cl r0 rl (L.below hW));have HR:=hd_ (fun W aq al ao cq cl co (hW:Bw_ w W) r0 rl ro=>Zr8 C hk hz W aq al ao cq cl co r0 rl ro (L.below hW));have HP:=hd_ (fun W (hW:Bw_ w W)=>Zjc W 10 k (by decide) (Zq6 (by decide) (by omega)) (by omega) (L.below hW));have DU:dec 10=⟨#[49,48]⟩:=by
  have:(dec 10).data = #[49,48]:=by decide +kernel
  exact ByteArray.ext this
 have Ej:dec 1200=⟨#[49,50,48,48]⟩:=by
  have:(dec 1200).data = #[49,50,48,48]:=by decide +kernel
  exact ByteArray.ext this
 rw[DU] at HP;have HM:=hd_ (fun W (hW:Bw_ w W)=>Zky W 1200 (10^k) (Qaq (by decide)) (Zq6 (p:=10) (by decide) (by omega)) (L.below hW));rw[Ej] at HM;have ee:=Qar (1200*10^k);rw[ee] at HS;obtain⟨p,rs2,hrs,gM⟩:=Ca;have lJ:0<rs.length:=by rw[hrs];exact Nat.succ_pos _
 obtain⟨b,off,rfl,Dd,Gm⟩:=r0.open (by rw[Qn];exact lJ);have fZ:=Gm 0 (.int .i64 p) (by rw[hrs];rfl);rw[Nat.add_zero] at fZ;have H0:=hd_ (fun W (hW:Bw_ w W)=>(show W.cell? ⟨b,off,none⟩=some (.int .i64 p) from by rw[hW.cell (p:=⟨b,off,none⟩) Dd];exact fZ));have HN:=hd_ (fun W (hW:Bw_ w W)=>Zpc W 0 1 0 (by decide +kernel) (by decide) (by decide) (by decide) (by decide) (L.below hW));have R0:=hd_ r0;have df:=C.len;have lM:=C.n6;rw[List.length_cons] at lM;obtain⟨b1,off1,rfl,-,-⟩:=r1.open (by rw[Kw,df];omega);have R1:=hd_ r1;have HT:Hid ([.string (itx 0),.string (dec 1)]++Km ts=Km (t0::ts)):=by show _=_;rw[Ic];rfl
 have HQ:Hid ([.int .i64 2]++Qw rs=Qw (2::rs)):=rfl;have O1:=hd_ (Zy9 rs);have O2:=hd_ (Zt6 (ts.map qs));have Gd:=hd_ (Qn rs);have gQ:Hid ((Km ts).length=rs.length*2):=by show _=_;rw[Kw,df]
 have MC:(p==2)=false:=by rw[beq_eq_false_iff_ne];exact gM
 have Dz:(p != 2)=true:=by rw[bne_iff_ne];exact gM
 obtain⟨n,hn⟩:∃ n,rs.length=n:=⟨_,rfl⟩;have gh:(2::rs).length=1+n:=by rw[List.length_cons,hn];omega
 rw[gh] at HE HS HR;rw[hn] at lJ lM Gd gQ ⊢;have e9:((n:Int)==0)=false:=by rw[beq_eq_false_iff_ne];omega
 have Fb:(0:Int)<(n:Int):=by omega
 unfold fr fv at HN;clear r0 r1 C hz L Gm fZ DU Ej ee hrs gM Ic df hn gh;generalize dec (1200*10^k)=sN at *;generalize dec (10^k)=s10 at *;generalize wmQ (t0::ts) ((1200*10^k:Nat):Rat)=tm at *;generalize Zz ts.length=oc at *;generalize itx z=sz at *;generalize Km (t0::ts)=vt at *;generalize Qw (2::rs)=vq at *;go_enter Tryz.func46,Tryz.ntmps46;go_wp2_with fail;refine cm_ (HP.o _ (Below.refl _ _)) ?_;rintro e_ w1 ⟨rfl,hb_⟩;have B1:=hd_ hb_;clear hb_ HP;go_wp2_with fail;refine cm_ (HM.o _ B1.o) ?_;rintro e_ w2 ⟨rfl,hb_⟩;have B2:=bt_ B1 hb_;clear hb_ HM B1;have K2:Hid ((w2.alloc (.cells #[.string sN,.string ⟨#[49]⟩] 101)).heap[w2.heap.size]?=some (.cells #[.string sN,.string ⟨#[49]⟩] 101 (0,0))):=heap_alloc_new w2 _;have B3:=hd_ (B2.o.alloc B2.o.size (.cells #[.string sN,.string ⟨#[49]⟩] 101));have Bh:=hd_ (R0.o.below B3.o nr_);have ax:=hd_ (R1.o.below B3.o nr_);have aw:=H0.o _ B3.o;obtain⟨w3,dX⟩:∃ w3,w2.alloc (.cells #[.string sN,.string ⟨#[49]⟩] 101)=w3:=⟨_,rfl⟩;rw[dX] at K2 B3 Bh ax aw;have U1:=hd_ (World.ownsRow_lit (base:=w3.heap.size) (size:=1) (e:=3) w3 #[.int .i64 2] 1 nr_ (by decide) rfl);have I1:=hd_ ((Below.refl w3.heap.size w3).alloc nr_ (.cells #[.int .i64 2] 3));have LE:=hd_ (Bh.o.below I1.o nr_);clear R0 R1 H0
 go_wp2_with (at_builtin;refine Zf3 rfl (.tmp 29) (.tmp 30) 31 rfl elP _ rfl U1.o (some ⟨b,off,none⟩) n c0 (Qw rs) rfl (fun h=>by cases h) Gd.o LE.o O1.o (by omega) (by omega) I1.o.size ?_)
 intro v' w5 gl hg;obtain⟨aq,cq,rfl⟩:=Vk gl;have I2:=hd_ (I1.o.grown hg I1.o.size (fun kk hk=>(U1.o.lt kk hk).1));have EA:=Zos gl;have mO:[Value.int .i64 2]++Qw rs=vq:=HQ.o;have LD:Hid (Rd w5 aq vq):=by show Rd _ _ _;rw[<- mO];exact EA
 have K5:=hk_ K2 I2.o;have LB:=hd_ (ax.o.below I2.o nr_);have B5:=bt_ B3 I2.o;clear gl hg EA U1 I1 I2 Bh LE ax K2 B3 HQ mO Gd O1 aw dX B2;go_wp2_with fail;refine cm_ (HN.o _ B5.o) ?_;rintro e_ w6 ⟨rfl,hb_⟩;have LC:=hd_ (LD.o.below hb_ nr_);have LA:=hd_ (LB.o.below hb_ nr_);have K6:=hk_ K5 hb_;have B6:=bt_ B5 hb_;clear hb_ HN LD LB K5 B5;have U2:=hd_ (World.ownsRow_lit (base:=w6.heap.size) (size:=2) (e:=101) w6 #[.string (itx 0),.string (dec 1)] 1 nr_ (by decide) rfl);have I1:=hd_ ((Below.refl w6.heap.size w6).alloc nr_ (.cells #[.string (itx 0),.string (dec 1)] 101));have Lz:=hd_ (LA.o.below I1.o nr_)
 go_wp2_with (at_builtin;refine Zez rfl (.tmp 33) (.tmp 34) 35 rfl elQ _ rfl U2.o (some ⟨b1,off1,none⟩) n c1 (Km ts) rfl (fun h=>by cases h) gQ.o Lz.o O2.o (by omega) (by omega) I1.o.size ?_)
 intro v' w8 gl hg;obtain⟨at0,ct0,rfl⟩:=Vk gl;have I2:=hd_ (I1.o.grown hg I1.o.size (fun kk hk=>(U2.o.lt kk hk).1));have EA:=Zos gl;have mH:[Value.string (itx 0),.string (dec 1)]++Km ts=vt:=HT.o;have Ly:Hid (Rd w8 at0 vt):=by show Rd _ _ _;rw[<- mH];exact EA
 have K8:=hk_ K6 I2.o;have Ja:=hd_ (LC.o.below I2.o nr_);have B8:=bt_ B6 I2.o;clear gl hg EA U2 I1 I2 LA Lz K6 B6 HT mH gQ O2 LC;go_wp2_with fail;refine cm_ (HE.o _ _ _ B8.o Ja.o) ?_;rintro e_ x1 ⟨ao,co,rfl,ro_,hb_⟩;have AH:=hd_ ro_;have Bi:=hd_ (Ja.o.below hb_ nr_);have AE:=hd_ (Ly.o.below hb_ nr_);have K1:=hk_ K8 hb_;have D1:=bt_ B8 hb_;obtain⟨q0,q1,-,-⟩:=Ka K1.o;clear hb_ ro_ HE B8 Ja Ly K8;go_wp2_with fail;refine cm_ (HS.o _ _ _ _ _ D1.o Bi.o AE.o) ?_;rintro e_ x2 ⟨at_,ct_,rfl,rt_,hb_⟩;have AD:=hd_ rt_;have AF:=hd_ (Bi.o.below hb_ nr_);have AG:=hd_ (AH.o.below hb_ nr_);have D2:=bt_ D1 hb_;clear hb_ rt_ HS D1 Bi AE AH K1 q0 q1;go_wp2_with fail;refine cm_ (HR.o _ _ _ _ _ _ _ D2.o AF.o AD.o AG.o) ?_;rintro e_ x3 ⟨rfl,hb_⟩;have D3:=bt_ D2 hb_;clear hb_ HR D2 AF AD AG;go_wp2_with fail;go_ret;exact⟨rfl,D3.o⟩
theorem Zs1(w:World)(s:ByteArray)(c:Nat)(hc:c<=9223372036854775807)(gh:s.size*c<=140737488355328):
  Calls Tryz.prog 111 #[.string s,.int .i64 c] w fun e w'=>e = .returned (.string ⟨(Lib.repeatL s.data.toList c).toArray⟩)/\Bw_ w w':=Tryz.strings_Repeat s c w hc gh
def Vi (n:Nat):ByteArray:=⟨(Lib.repeatL [48] n).toArray⟩
def Zn0 (k:Nat) (s:ByteArray):ByteArray:=Vi (k+1-s.size)++s
def Zb1 (k:Nat) (t:ByteArray):ByteArray:=if k=0 then t else t.extract 0 (t.size-k)++⟨#[46]⟩++t.extract (t.size-k) t.size
def Zh1 (k:Nat) (z:Int):ByteArray:=if z<0 then ⟨#[45]⟩++Zb1 k (Zn0 k (dec z.natAbs)) else Zb1 k (Zn0 k (dec z.natAbs))
theorem Zdu(s:ByteArray):Vi 0++s=s:=by
 show ByteArray.empty++s=s
 exact ByteArray.empty_append
theorem Zgo(n:Nat)(s:ByteArray):⟨#[48]⟩++(Vi n++s)=Vi (n+1)++s:=by
 have e:⟨#[48]⟩++Vi n=Vi (n+1):=by
  apply ByteArray.ext;rw[ByteArray.data_append];apply Array.ext';rw[Array.toList_append];rfl
 rw[<- ByteArray.append_assoc,e]
theorem Zgp(n:Nat):(Vi n).size=n:=by
 show (Lib.repeatL [48] n).toArray.size=n
 rw[List.size_toArray,Lib.repeatL_length];exact Nat.mul_one n
theorem Zm(n:Nat)(s:ByteArray):(Vi n++s).size=n+s.size:=by rw[ByteArray.size_append,Zgp]
theorem Zvl(k:Nat)(s:ByteArray):(Zn0 k s).size=k+1-s.size+s.size:=Zm _ _
theorem Zyi{k:Nat}{s:ByteArray}(h:k<s.size):Zn0 k s=s:=by
 unfold Zn0;rw[show k+1-s.size=0 by omega,Zdu]
theorem Zci(t:ByteArray):Zb1 0 t=t:=if_pos rfl
theorem Zau{k:Nat}(h:0<k)(t:ByteArray):Zb1 k t=t.extract 0 (t.size-k)++⟨#[46]⟩++t.extract (t.size-k) t.size:=by
 unfold Zb1;rw[if_neg (by omega)]
theorem Zs8{k:Nat}(h:0<k)(t:ByteArray):⟨#[45]⟩++t.extract 0 (t.size-k)++⟨#[46]⟩++t.extract (t.size-k) t.size=⟨#[45]⟩++Zb1 k t:=by
 rw[Zau h,ByteArray.append_assoc,ByteArray.append_assoc,ByteArray.append_assoc]
theorem Zs7{k:Nat}(h:0<k)(t:ByteArray):⟨#[]⟩++t.extract 0 (t.size-k)++⟨#[46]⟩++t.extract (t.size-k) t.size=Zb1 k t:=by
 rw[Zau h]
 show ByteArray.empty++_++_++_=_
 rw[ByteArray.empty_append]
theorem Zwv(t:ByteArray):(⟨#[]⟩:ByteArray)++t=t:=ByteArray.empty_append
theorem Zxg{k:Nat}{z:Int}(h:z<0):Zh1 k z=⟨#[45]⟩++Zb1 k (Zn0 k (dec z.natAbs)):=if_pos h
theorem Zxf{k:Nat}{z:Int}(h:¬ z<0):Zh1 k z=Zb1 k (Zn0 k (dec z.natAbs)):=if_neg h
theorem Zxd(w:World)(a1 a2:OA_)(c1 c2 n1 n2 k:Nat)(z:Int)(CY:k<=9)(G1:(dec z.natAbs).size<=1000000)(hc:Calls Tryz.prog 109 #[.slice a1 n1 c1,.slice a2 n2 c2,.int .i64 k] w fun e w'=>(∃ m:Int,e = .returned (.tuple #[.int .i64 m,.string (itx z),.int .i64 0]))/\Bw_ w w'):
  Kc Tryz.prog 44 #[.slice a1 n1 c1,.slice a2 n2 c2,.int .i64 k] w (.tuple #[.string (Zh1 k z),.int .i64 0]):=by
 unfold Kc;have HC:=hd_ hc;have HA:=hd_ (fun W=>Zd2 W z);have HS:=hd_ (fun W=>Ys W z);have GB:z.sign<0↔z<0:=Int.sign_neg_iff;have Hp:Hid (∀ t,Zn0 k (dec z.natAbs)=t->Zh1 k z=if z<0 then ⟨#[45]⟩++Zb1 k t else Zb1 k t):=fun t h=>by rw[<- h];rfl
 have Du:=Vy z.natAbs;generalize dec z.natAbs=s at *;generalize itx z=sz at *;generalize Zh1 k z=out at *;clear hc;have HR:Hid (∀ c:Nat,c<=10->∀ W,Calls Tryz.prog 111 #[.string ⟨#[48]⟩,.int .i64 c] W fun e w'=>e = .returned (.string (Vi c))/\Bw_ W w'):=fun c h W=>Zs1 W ⟨#[48]⟩ c (by omega) (by show 1*_<=_;omega)
 by_cases h1:s.size<=k
 ·have GM:(s.size:Int)<=k:=by omega
  have G5:0<k:=by omega
  have EF:(0:Int)<k:=by omega
  obtain⟨k1,EN⟩:∃ k1:Nat,k1=k+1:=⟨_,rfl⟩;obtain⟨c,hc⟩:∃ c:Nat,c=k+1-s.size:=⟨_,rfl⟩;have hR:=hd_ (HR.o c (by omega));have NU:IntKind.i64.wrap ((k:Int)+1)=(k1:Int):=by rw[show (k:Int)+1=(k1:Int) by omega];exact iw_ _ (by omega)
  have Mn:IntKind.i64.wrap ((k1:Int)-s.size)=(c:Int):=by rw[show (k1:Int)-s.size=(c:Int) by omega];exact iw_ _ (by omega)
  have ba:¬ (9223372036854775807<c+s.size):=by omega
  have hzs:=Zgp c;obtain⟨t,ht⟩:∃ t,Vi c++s=t:=⟨_,rfl⟩;have Ht:Hid (Zn0 k s=t):=by show _=_;rw[<- ht,hc];rfl
  have Fs:t.size=k+1:=by rw[<- ht,Zm];omega
  have hw:IntKind.i64.wrap ((t.size:Int)-k)=((t.size-k:Nat):Int):=by rw[show (t.size:Int)-k=((t.size-k:Nat):Int) by omega];exact iw_ _ (by omega)
  have Cy:((t.size-k:Nat):Int)<=t.size:=by omega
  have dt:¬ (9223372036854775807<t.size-k+1):=by omega
  have dp:¬ (9223372036854775807<t.size-k+1+(t.size-(t.size-k))):=by omega
  have fC:=hd_ Fs;clear HR Du G1 h1 Fs EN hc;go_enter Tryz.func44,Tryz.ntmps44;go_wp2_with fail;refine cm_ HC.o ?_;rintro e w1 ⟨⟨m,rfl⟩,hb⟩;have B1:=hd_ hb;clear hb HC;go_wp2_with fail;refine cm_ (HA.o _) ?_;rintro e w2 ⟨rfl,hb⟩;have B2:=bt_ B1 hb;clear hb HA B1;go_wp2_with fail;refine cm_ (hR.o _) ?_;rintro e w3 ⟨rfl,hb⟩;have B3:=bt_ B2 hb;clear hb hR B2
  by_cases hz:z<0
  ·have Cr:z.sign<0:=GB.2 hz;have Hv:Hid (out=⟨#[45]⟩++(t.extract 0 (t.size-k)++⟨#[46]⟩++t.extract (t.size-k) t.size)):=by show _=_;rw[Hp.o t Ht.o,if_pos hz,Zau G5]
   have C':¬ (9223372036854775807<1+(t.size-k+1+(t.size-(t.size-k)))):=by have:=fC.o;omega
   generalize z.sign=sg at *;clear GB Hp hz;go_wp2_with fail;refine RP.wp_region_readers 14 [(2,0),(2,1),(2,2),(2,3),(2,4),(2,5),(2,6),(2,7),(2,8),(2,9),(2,10),(2,11),(2,12),(2,13),(0,14)] (fun _=>True) (by kernel_rfl) (by kernel_rfl) ?_ ?_
   ·trivial
   iterate 14 (refine wa_ rfl ?_;go_big_quiet_step (fail);refine wq_ ?_)
   refine wm_ rfl ?_;go_wp2_with fail;simp only[RP.walkR];go_wp2_with fail;refine cm_ (HS.o _) ?_;rintro e w9 ⟨rfl,hb⟩;have B9:=hd_ ((Qb B3.o 1).trans (hb.mono (Qb B3.o 1).size));clear hb HS B3;go_wp2_with fail
   go_ret2
   exact⟨by rw[Hv.o];rfl,B9.o⟩
  ·have Cr:¬ z.sign<0:=fun h=>hz (GB.1 h)
   have Hv:Hid (out=t.extract 0 (t.size-k)++⟨#[46]⟩++t.extract (t.size-k) t.size):=by show _=_;rw[Hp.o t Ht.o,if_neg hz,Zau G5]
   generalize z.sign=sg at *;clear GB Hp hz;go_wp2_with fail;refine RP.wp_region_readers 14 [(2,0),(2,1),(2,2),(2,3),(2,4),(2,5),(2,6),(2,7),(2,8),(2,9),(2,10),(2,11),(2,12),(2,13),(0,14)] (fun _=>True) (by kernel_rfl) (by kernel_rfl) ?_ ?_
   ·trivial
   iterate 14 (refine wa_ rfl ?_;go_big_quiet_step (fail);refine wq_ ?_)
   refine wm_ rfl ?_;go_wp2_with fail;simp only[RP.walkR];go_wp2_with fail;refine cm_ (HS.o _) ?_;rintro e w9 ⟨rfl,hb⟩;have B9:=hd_ ((Qb B3.o 1).trans (hb.mono (Qb B3.o 1).size));clear hb HS B3;go_wp2_with fail
   go_ret2
   exact⟨by rw[Hv.o];rfl,B9.o⟩
 ·have GM:¬ ((s.size:Int)<=k):=by omega
  have Ht:Hid (Zn0 k s=s):=Zyi (by omega);clear HR;rcases Nat.eq_zero_or_pos k with rfl|G5
  ·have Ft:¬ ((s.size:Int)<=0):=by omega
   have Gx:¬ s.size=0:=by omega
   have ey:¬ s.size<=0:=by omega
   clear h1 Du GM;go_enter Tryz.func44,Tryz.ntmps44;go_wp2_with fail;refine cm_ HC.o ?_;rintro e w1 ⟨⟨m,rfl⟩,hb⟩;have B1:=hd_ hb;clear hb HC;go_wp2_with fail;refine cm_ (HA.o _) ?_;rintro e w2 ⟨rfl,hb⟩;have B2:=bt_ B1 hb;clear hb HA B1
   by_cases hz:z<0
   ·have Cr:z.sign<0:=GB.2 hz;have Hv:Hid (out=⟨#[45]⟩++s):=by show _=_;rw[Hp.o s Ht.o,if_pos hz,Zci]
    have C':¬ (9223372036854775807<1+s.size):=by omega
    generalize z.sign=sg at *;clear GB Hp hz;go_wp2_with fail;refine cm_ (HS.o _) ?_;rintro e w9 ⟨rfl,hb⟩;have B9:=bt_ B2 hb;clear hb HS B2;go_wp2_with fail
    go_ret2
    exact⟨by rw[Hv.o];rfl,B9.o⟩
   ·have Cr:¬ z.sign<0:=fun h=>hz (GB.1 h)
    have Hv:Hid (out=s):=by show _=_;rw[Hp.o s Ht.o,if_neg hz,Zci]
    generalize z.sign=sg at *;clear GB Hp hz;go_wp2_with fail;refine cm_ (HS.o _) ?_;rintro e w9 ⟨rfl,hb⟩;have B9:=bt_ B2 hb;clear hb HS B2;go_wp2_with fail
    go_ret2
    exact⟨by rw[Hv.o];rfl,B9.o⟩
  ·have EF:(0:Int)<k:=by omega
   have hw:IntKind.i64.wrap ((s.size:Int)-k)=((s.size-k:Nat):Int):=by rw[show (s.size:Int)-k=((s.size-k:Nat):Int) by omega];exact iw_ _ (by omega)
   have Cy:((s.size-k:Nat):Int)<=s.size:=by omega
   have dt:¬ (9223372036854775807<s.size-k+1):=by omega
   have dp:¬ (9223372036854775807<s.size-k+1+(s.size-(s.size-k))):=by omega
   have Fs:k<s.size:=by omega
   have fC:=hd_ Fs;clear Du h1 Fs;go_enter Tryz.func44,Tryz.ntmps44;go_wp2_with fail;refine cm_ HC.o ?_;rintro e w1 ⟨⟨m,rfl⟩,hb⟩;have B1:=hd_ hb;clear hb HC;go_wp2_with fail;refine cm_ (HA.o _) ?_;rintro e w2 ⟨rfl,hb⟩;have B2:=bt_ B1 hb;clear hb HA B1
   by_cases hz:z<0
   ·have Cr:z.sign<0:=GB.2 hz;have Hv:Hid (out=⟨#[45]⟩++(s.extract 0 (s.size-k)++⟨#[46]⟩++s.extract (s.size-k) s.size)):=by show _=_;rw[Hp.o s Ht.o,if_pos hz,Zau G5]
    have C':¬ (9223372036854775807<1+(s.size-k+1+(s.size-(s.size-k)))):=by have:=fC.o;omega
    generalize z.sign=sg at *;clear GB Hp hz;go_wp2_with fail;refine RP.wp_region_readers 14 [(2,0),(2,1),(2,2),(2,3),(2,4),(2,5),(2,6),(2,7),(2,8),(2,9),(2,10),(2,11),(2,12),(2,13),(0,14)] (fun _=>True) (by kernel_rfl) (by kernel_rfl) ?_ ?_
    ·trivial
    iterate 14 (refine wa_ rfl ?_;go_big_quiet_step (fail);refine wq_ ?_)
    refine wm_ rfl ?_;go_wp2_with fail;simp only[RP.walkR];go_wp2_with fail;refine cm_ (HS.o _) ?_;rintro e w9 ⟨rfl,hb⟩;have B9:=hd_ ((Qb B2.o 1).trans (hb.mono (Qb B2.o 1).size));clear hb HS B2;go_wp2_with fail
    go_ret2
    exact⟨by rw[Hv.o];rfl,B9.o⟩
   ·have Cr:¬ z.sign<0:=fun h=>hz (GB.1 h)
    have Hv:Hid (out=s.extract 0 (s.size-k)++⟨#[46]⟩++s.extract (s.size-k) s.size):=by show _=_;rw[Hp.o s Ht.o,if_neg hz,Zau G5]
    generalize z.sign=sg at *;clear GB Hp hz;go_wp2_with fail;refine RP.wp_region_readers 14 [(2,0),(2,1),(2,2),(2,3),(2,4),(2,5),(2,6),(2,7),(2,8),(2,9),(2,10),(2,11),(2,12),(2,13),(0,14)] (fun _=>True) (by kernel_rfl) (by kernel_rfl) ?_ ?_
    ·trivial
    iterate 14 (refine wa_ rfl ?_;go_big_quiet_step (fail);refine wq_ ?_)
    refine wm_ rfl ?_;go_wp2_with fail;simp only[RP.walkR];go_wp2_with fail;refine cm_ (HS.o _) ?_;rintro e w9 ⟨rfl,hb⟩;have B9:=hd_ ((Qb B2.o 1).trans (hb.mono (Qb B2.o 1).size));clear hb HS B2;go_wp2_with fail
    go_ret2
    exact⟨by rw[Hv.o];rfl,B9.o⟩
theorem Zpw(w:World)(n:Nat)(hn:1<=n):Kc Tryz.prog 194 #[.string (itx (-(n:Int)))] w (.string (dec n)):=by
 unfold Kc;have GM:=Vv n hn;have EG:∀ W,(Instr.index 38 (.string (itx (-(n:Int)))) (.int .i64 0)).run Tryz.prog W = .ok (.int .u8 45) W:=fun W=>by
  rw[Zwi W _ (by omega),Zg n hn];rfl
 have ft:(0:Int)<(itx (-(n:Int))).size:=by omega
 have fE:(1:Int)<=(itx (-(n:Int))).size:=by omega
 have Hr:=hd_ (Zk6 n hn);clear GM;generalize itx (-(n:Int))=s at *;go_enter Tryz.func194,Tryz.ntmps194;go_wp2;go_ret;exact⟨by rw[<- Hr.o];first | rfl | simp,Below.refl _ _⟩
theorem Zpx(w:World)(z:Int):Kc Tryz.prog 194 #[.string (itx z)] w (.string (dec z.natAbs)):=by
 by_cases hz:z<0
 ·obtain⟨n,rfl⟩:∃ n:Nat,z = -(n:Int):=⟨z.natAbs,by omega⟩;rw[show (-(n:Int)).natAbs=n by omega];exact Zpw w n (by omega)
 ·obtain⟨n,rfl⟩:∃ n:Nat,z=(n:Int):=⟨z.natAbs,by omega⟩;rw[Kg,Int.natAbs_natCast];exact Zcr w n
theorem Zz8(w:World)(z:Int):Kc Tryz.prog 113 #[.string (itx z)] w (.string (dec z.natAbs)):=by
 unfold Kc;have HD:=hd_ (fun W=>Zpx W z);generalize itx z=s at *;generalize dec z.natAbs=d at *;go_enter Tryz.func113,Tryz.ntmps113;go_wp2_with fail;refine cm_ (HD.o _) ?_;rintro e w1 ⟨rfl,hb⟩;have B1:=hd_ hb;clear hb HD;go_wp2_with fail;go_ret;exact⟨rfl,B1.o⟩
theorem Zu0(w:World)(z:Int):Kc Tryz.prog 112 #[.string (itx z)] w (.int .i64 z.sign):=by
 by_cases hz:z<0
 ·unfold Kc;have hq:=Zfb z;rw[decide_eq_false (by omega)] at hq;have Hv:Hid (z.sign = -1):=Int.sign_eq_neg_one_of_neg hz;obtain⟨n,rfl⟩:∃ n:Nat,z = -(n:Int):=⟨z.natAbs,by omega⟩;have hn:1<=n:=by omega
  have GM:=Vv n hn;have EG:∀ W,(Instr.index 38 (.string (itx (-(n:Int)))) (.int .i64 0)).run Tryz.prog W = .ok (.int .u8 45) W:=fun W=>by
   rw[Zwi W _ (by omega),Zg n hn];rfl
  clear GM hz;generalize itx (-(n:Int))=s at *;go_enter Tryz.func112,Tryz.ntmps112;go_wp2;go_ret;exact⟨by rw[Hv.o];rfl,Below.refl _ _⟩
 ·obtain⟨n,rfl⟩:∃ n:Nat,z=(n:Int):=⟨z.natAbs,by omega⟩;have h:=Zmh w n;have e:(n:Int).sign=if n=0 then 0 else 1:=by
   by_cases h0:n=0
   ·subst h0;rfl
   ·rw[if_neg h0];exact Int.sign_eq_one_of_pos (by omega)
  rw[Kg,e];exact h
theorem Zio{k j:Nat}{s:ByteArray}(hj:j<=k+1-s.size)(h:(Vi j++s).size<=k):j+1<=k+1-s.size:=by
 rw[Zm] at h;omega
theorem Zin{k j:Nat}{s:ByteArray}(hj:j<=k+1-s.size)(h:¬ (Vi j++s).size<=k):Vi j++s=Zn0 k s:=by
 rw[Zm] at h;unfold Zn0;rw[show j=k+1-s.size by omega]
theorem Zv0(w:World)(k:Nat)(z:Int)(CY:k<=9)(G1:(dec z.natAbs).size<=1000000):
  Kc Tryz.prog 45 #[.string (itx z),.int .i64 k] w (.string (Zh1 k z)):=by
 unfold Kc;have HA:=hd_ (fun W=>Zz8 W z);have HS:=hd_ (fun W=>Zu0 W z);have GB:z.sign<0↔z<0:=Int.sign_neg_iff;have GP:=Zvl k (dec z.natAbs);have Hn:Hid (z<0->Zh1 k z=⟨#[45]⟩++Zb1 k (Zn0 k (dec z.natAbs))):=Zxg;have Hp:Hid (¬ z<0->Zh1 k z=Zb1 k (Zn0 k (dec z.natAbs))):=Zxf;have Hz:Hid (¬ z<0->itx z=dec z.natAbs):=fun h=>by
  rw[show z=((z.natAbs:Nat):Int) by omega,Kg,Int.natAbs_natCast]
 by_cases hz:z<0
 ·have Cr:z.sign<0:=GB.2 hz;have Hv:=hd_ (Hn.o hz);generalize z.sign=sg at *;generalize Zh1 k z=out at *;generalize itx z=sz at *;generalize dec z.natAbs=s at *;clear GB Hn Hp Hz hz;go_enter Tryz.func45,Tryz.ntmps45;go_wp2_with fail;refine cm_ (HS.o _) ?_;rintro e w1 ⟨rfl,hb⟩;have B1:=hd_ hb;clear hb HS;go_wp2_with fail;refine cm_ (HA.o _) ?_;rintro e w2 ⟨rfl,hb⟩;have B2:=bt_ B1 hb;clear hb HA B1;go_wp2_with fail;have Jc:Hid (s=Vi 0++s):=(Zdu s).symm
  go_loopw [6] (fun x w'=>∃ j:Nat,Hid (j<=k+1-s.size)/\x = .string (Vi j++s)/\Hid (w'=w2)) (fun x _=>match x with | .string X=>k+1-X.size | _=>0)
  case atStart=>exact⟨0,Nat.zero_le _,by rw[<- Jc.o],rfl⟩
  case round =>
   obtain⟨j,Hj,rfl,Ek⟩:=hrel;have Cq:=Ek.o;subst Cq;clear Ek;have Gv:=hd_ (fun h=>Zio (k:=k) Hj.o h);have AS:=hd_ (fun h=>Zin (k:=k) Hj.o h);have Fp:=hd_ (Zgo j s)
   by_cases h9:(Vi j++s).size<=k
   ·have Cj:((Vi j++s).size:Int)<=k:=by omega
    have HX:Hid ((⟨#[48]⟩++(Vi j++s):ByteArray).size=1+(Vi j++s).size):=by show _=_;rw[ByteArray.size_append];rfl
    have b9:¬ (9223372036854775807<1+(Vi j++s).size):=by omega
    generalize ht:Vi j++s=t at *;have Ht:=hd_ ht;clear ht;go_wp2_with fail;refine⟨⟨j+1,Gv.o h9,by rw[Fp.o],trivial⟩,?_⟩
    show k+1-(⟨#[48]⟩++t:ByteArray).size<k+1-t.size
    rw[HX.o];omega
   ·have Cj:¬ ((Vi j++s).size:Int)<=k:=by omega
    have Dv:=AS.o h9;rw[Dv] at Cj h9 ⊢;clear Dv AS Gv Fp Hj;generalize Zn0 k s=t at *;rcases Nat.eq_zero_or_pos k with rfl|G5
    ·have HV:Hid (out=⟨#[45]⟩++t):=by show _=_;rw[Hv.o,Zci]
     have b9:¬ (9223372036854775807<1+t.size):=by omega
     have Ic:¬ t.size=0:=by omega
     have Bz:=hd_ GP;clear GP;go_wp2_with fail;go_ret;exact⟨by rw[HV.o];rfl,B2.o⟩
    ·have HV:Hid (out=⟨#[45]⟩++t.extract 0 (t.size-k)++⟨#[46]⟩++t.extract (t.size-k) t.size):=by show _=_;rw[Hv.o,Zs8 G5]
     have hw:IntKind.i64.wrap ((t.size:Int)-k)=((t.size-k:Nat):Int):=by rw[show (t.size:Int)-k=((t.size-k:Nat):Int) by omega];exact iw_ _ (by omega)
     have EF:((k:Int)==0)=false:=by rw[beq_eq_false_iff_ne];omega
     have Cy:((t.size-k:Nat):Int)<=t.size:=by omega
     have ba:¬ (9223372036854775807<1+(t.size-k)):=by omega
     have dt:¬ (9223372036854775807<1+(t.size-k)+1):=by omega
     have dp:¬ (9223372036854775807<1+(t.size-k)+1+(t.size-(t.size-k))):=by omega
     have Bz:=hd_ GP;clear GP;go_wp2_with fail;refine RP.wp_region_readers 16 [(2,0),(2,1),(2,2),(2,3),(2,4),(2,5),(2,6),(2,7),(2,8),(2,9),(2,10),(2,11),(2,12),(2,13),(2,14),(2,15),(0,16)] (fun _=>True) (by kernel_rfl) (by kernel_rfl) ?_ ?_
     ·trivial
     iterate 16 (refine wa_ rfl ?_;go_big_quiet_step (fail);refine wq_ ?_)
     refine wm_ rfl ?_;go_wp2_with fail;simp only[RP.walkR];go_wp2_with fail;go_ret;exact⟨by rw[HV.o];rfl,Qb B2.o 1⟩
 ·have Cr:¬ z.sign<0:=fun h=>hz (GB.1 h)
  have Hv:=hd_ (Hp.o hz);rw[Hz.o hz] at HS HA ⊢;generalize z.sign=sg at *;generalize Zh1 k z=out at *;generalize dec z.natAbs=s at *;clear GB Hn Hp Hz hz HA;go_enter Tryz.func45,Tryz.ntmps45;go_wp2_with fail;refine cm_ (HS.o _) ?_;rintro e w2 ⟨rfl,hb⟩;have B2:=hd_ hb;clear hb HS;go_wp2_with fail;have Jc:Hid (s=Vi 0++s):=(Zdu s).symm
  go_loopw [6] (fun x w'=>∃ j:Nat,Hid (j<=k+1-s.size)/\x = .string (Vi j++s)/\Hid (w'=w2)) (fun x _=>match x with | .string X=>k+1-X.size | _=>0)
  case atStart=>exact⟨0,Nat.zero_le _,by rw[<- Jc.o],rfl⟩
  case round =>
   obtain⟨j,Hj,rfl,Ek⟩:=hrel;have Cq:=Ek.o;subst Cq;clear Ek;have Gv:=hd_ (fun h=>Zio (k:=k) Hj.o h);have AS:=hd_ (fun h=>Zin (k:=k) Hj.o h);have Fp:=hd_ (Zgo j s)
   by_cases h9:(Vi j++s).size<=k
   ·have Cj:((Vi j++s).size:Int)<=k:=by omega
    have HX:Hid ((⟨#[48]⟩++(Vi j++s):ByteArray).size=1+(Vi j++s).size):=by show _=_;rw[ByteArray.size_append];rfl
    have b9:¬ (9223372036854775807<1+(Vi j++s).size):=by omega
    generalize ht:Vi j++s=t at *;have Ht:=hd_ ht;clear ht;go_wp2_with fail;refine⟨⟨j+1,Gv.o h9,by rw[Fp.o],trivial⟩,?_⟩
    show k+1-(⟨#[48]⟩++t:ByteArray).size<k+1-t.size
    rw[HX.o];omega
   ·have Cj:¬ ((Vi j++s).size:Int)<=k:=by omega
    have Dv:=AS.o h9;rw[Dv] at Cj h9 ⊢;clear Dv AS Gv Fp Hj;generalize Zn0 k s=t at *;rcases Nat.eq_zero_or_pos k with rfl|G5
    ·have HV:Hid (out=⟨#[]⟩++t):=by show _=_;rw[Hv.o,Zci,Zwv]
     have b9:¬ (9223372036854775807<t.size):=by omega
     have l4:¬ (9223372036854775807<0+t.size):=by omega
     have Ic:¬ t.size=0:=by omega
     have Bz:=hd_ GP;clear GP;go_wp2_with fail;go_ret;exact⟨by rw[HV.o];rfl,B2.o⟩
    ·have HV:Hid (out=⟨#[]⟩++t.extract 0 (t.size-k)++⟨#[46]⟩++t.extract (t.size-k) t.size):=by show _=_;rw[Hv.o,Zs7 G5]
     have hw:IntKind.i64.wrap ((t.size:Int)-k)=((t.size-k:Nat):Int):=by rw[show (t.size:Int)-k=((t.size-k:Nat):Int) by omega];exact iw_ _ (by omega)
     have EF:((k:Int)==0)=false:=by rw[beq_eq_false_iff_ne];omega
     have Cy:((t.size-k:Nat):Int)<=t.size:=by omega
     have ba:¬ (9223372036854775807<t.size-k):=by omega
     have dt:¬ (9223372036854775807<t.size-k+1):=by omega
     have dp:¬ (9223372036854775807<t.size-k+1+(t.size-(t.size-k))):=by omega
     have Bz:=hd_ GP;clear GP;go_wp2_with fail;refine RP.wp_region_readers 16 [(2,0),(2,1),(2,2),(2,3),(2,4),(2,5),(2,6),(2,7),(2,8),(2,9),(2,10),(2,11),(2,12),(2,13),(2,14),(2,15),(0,16)] (fun _=>True) (by kernel_rfl) (by kernel_rfl) ?_ ?_
     ·trivial
     iterate 16 (refine wa_ rfl ?_;go_big_quiet_step (fail);refine wq_ ?_)
     refine wm_ rfl ?_;go_wp2_with fail;simp only[RP.walkR];go_wp2_with fail;go_ret;exact⟨by rw[HV.o];rfl,Qb B2.o 1⟩
theorem Zha:∀ k,k<10->∀ p∈Vc k,p=p.toNat/\(p.toNat=2\/p.toNat∈Za4):=by decide +kernel
theorem Zzm{k D:Nat}(hk:k<=1056){ps:List Int}{l:List Rat}(hp:∀ p∈ps,∃ q:Nat,p=q/\(q=2\/q∈Za4))(hl:l.length=ps.length)(hs:∀ q∈l,Sm D q)(h4:ps.length<=4)(hD:D<=100):Sm 2000 (loE k ps l)/\Sm 2000 (hiE k ps l):=by
 obtain⟨e1,e2⟩:=Zlc hk hp hl hs ps.length nr_;rw[List.take_length,<- hl,List.take_length] at e1 e2;have:1+l.length*(D+356)<=2000:=by
  rw[hl];have:=Nat.mul_le_mul h4 (show D+356<=456 by omega)
  omega
 exact⟨e1.le this,e2.le this⟩
theorem Zys(q:Rat):(Zig q).natAbs<=q.num.natAbs+1:=by
 have h1:=Rat.floor_le (q+1/2);have h2:=Rat.lt_floor_add_one (q+1/2);unfold Zig;generalize (q+1/2).floor=z at *;have h3:=Zat q.num q.den q.den_pos;rw[Rat.mkRat_self] at h3;have hd:(1:Rat)<=(q.den:Rat):=Rat.natCast_le_natCast.2 q.den_pos;obtain⟨n,hn⟩:∃ n:Nat,q.num.natAbs=n:=⟨_,rfl⟩;have hu:(q.num:Rat)<=(n:Rat):=by
  have:q.num<=(n:Int):=by omega
  have:=Rat.intCast_le_intCast.2 this
  rwa [Rat.intCast_natCast] at this
 have hl : -(n:Rat)<=(q.num:Rat):=by
  have : -(n:Int)<=q.num:=by omega
  have:=Rat.intCast_le_intCast.2 this
  rwa [Rat.intCast_neg,Rat.intCast_natCast] at this
 have e9:(0:Rat)<=(n:Rat):=Rat.natCast_nonneg;have hq:q<=(n:Rat) /\ -(n:Rat)<=q:=by
  rcases Rat.le_total (a:=0) (b:=q) with h|h
  ·have:=Rat.mul_le_mul_of_nonneg_left hd h
   constructor<;>grind
  ·have h0:0 <= -q:=by grind
   have:=Rat.mul_le_mul_of_nonneg_left hd h0
   constructor<;>grind
 rw[hn];have e1:z<=((n+1:Nat):Int):=by
  refine Int.not_lt.1 fun hc=>?_
  have h4:((n+1:Nat):Int)+1<=z:=hc;have h5:=Rat.intCast_le_intCast.2 h4;rw[Rat.intCast_add,Rat.intCast_natCast,Rat.natCast_add] at h5;have:((1:Nat):Rat)=1:=rfl
  have:((1:Int):Rat)=1:=rfl
  grind
 have e2 : -((n+1:Nat):Int)<=z:=by
  refine Int.not_lt.1 fun hc=>?_
  have h4:z+1 <= -((n+1:Nat):Int):=hc;have h5:=Rat.intCast_le_intCast.2 h4;rw[Rat.intCast_add,Rat.intCast_neg,Rat.intCast_natCast,Rat.natCast_add] at h5;have:((1:Nat):Rat)=1:=rfl
  have:((1:Int):Rat)=1:=rfl
  grind
 omega
theorem Qbt{k D:Nat}{x:Rat}(hk:k<=9)(hx:Sm D x)(hD:D<=900000):(dec (scE k x).natAbs).size<=1000000:=by
 have h1:=Zys (x*((1200*10^k:Nat):Rat));have h2:=(hx.mul (Zxe hk)).1;have h3:(scE k x).natAbs<10^(D+13+1):=by
  unfold scE;rw[Nat.pow_succ];have:=Nat.pow_pos (n:=D+13) (show 0<10 by decide)
  omega
 have h4:=(Yz _ (D+13+1) (by omega)).2 h3;omega
theorem Zop:∀ k,k<10->(Vc k=2::(Vc k).tail)\/(Vd (2::Vc k)=0/\(2::Vc k).Nodup/\(∀ p∈2::Vc k,p∈Vm)/\(Vc k).head?≠some 2):=by decide +kernel
structure CtQ (ps:List Int) (la:List Rat) (rs:List Int) (t0:Rat) (ts:List Rat):Prop where
 c:Zsl rs t0 ts
 e:∀ n,loE n ps la=loE n (2::rs) (t0::ts)/\hiE n ps la=hiE n (2::rs) (t0::ts)
 or:(ps=2::rs/\la=t0::ts)\/(rs=ps/\ts=la/\t0=0/\∃ p rs2,rs=p::rs2/\p≠2)
theorem Qez{k:Nat}(hk:k<10){la:List Rat}(hl:la.length=(Vc k).length)(hs:Sml 480 12 la):∃ rs t0 ts,CtQ (Vc k) la rs t0 ts:=by
 obtain⟨p0,p4,p1,p2⟩:=Ze5 k hk;obtain⟨q1,q2⟩:=Zch k hk;rcases Zop k hk with h|⟨h1,h2,h3,h4⟩
 ·generalize (Vc k).tail=rs at h;generalize Vc k=ps at *;subst h
  match la,hl with
  | t0::ts,hl=>exact⟨rs,t0,ts,⟨q1,q2,by omega,p0,by simpa using hl,hs⟩,fun _=>⟨rfl,rfl⟩,.inl ⟨rfl,rfl⟩⟩
 ·generalize Vc k=ps at *;refine⟨ps,0,la,⟨h3,h2,by rw[List.length_cons];omega,h1,hl,fun q hq=>?_⟩,fun n=>?_,.inr ⟨rfl,rfl,rfl,?_⟩⟩
  ·rcases List.mem_cons.1 hq with rfl | h
   ·decide +kernel
   ·exact hs q h
  ·obtain⟨e1,e2⟩:=Zej n 0 ps la;rw[e1,e2,Rat.zero_add,Rat.zero_add];exact⟨rfl,rfl⟩
  ·match ps,h4,p1 with
   | p::rs2,h4,_=>exact⟨p,rs2,rfl,fun e=>h4 (by rw[e];rfl)⟩
theorem CtQ.flr{ps:List Int}{la:List Rat}{rs:List Int}{t0:Rat}{ts:List Rat}(Q:CtQ ps la rs t0 ts){n k:Nat}(hn:n<=1000)(hs:Zbs k (loE n ps la) (hiE n ps la)=true):
  LN.FloorOf (2::rs) (Ki (wmQ (t0::ts) ((1200*10^k:Nat):Rat)) (Zz ts.length) 2 1) (Ki (Zz ts.length) (Zz ts.length) 2 0) (scE k (loE n ps la)):=by
 rw[(Q.e n).1,(Q.e n).2] at hs;rw[(Q.e n).1];exact Zqa (by omega) (fun p hp=>Zah (Q.c.ps p hp)) Q.c.nd hs
theorem CtQ.one{ps:List Int}{la:List Rat}{rs:List Int}{t0:Rat}{ts:List Rat}(Q:CtQ ps la rs t0 ts){n m k:Nat}(hn:n<=1000)(hm:m<=1000)(hs:Zbs k (loE n ps la) (hiE n ps la)=true)(G1:Zbs k (loE m ps la) (hiE m ps la)=true):scE k (loE n ps la)=scE k (loE m ps la) :=
 Znb (Zi1 Q.c.ps) (by rw[Qf _ _ _ _ (by rw[Zbz,Zy,List.length_cons]),Zbz,Qf _ _ _ _ rfl,Zy,List.length_cons]) (Q.flr hn hs) (Q.flr hm G1)
theorem CtQ.rounded{ps:List Int}{la:List Rat}{rs:List Int}{t0:Rat}{ts:List Rat}(Q:CtQ ps la rs t0 ts){k:Nat}(hk:k<=9){z:Int}(hz:LN.FloorOf (2::rs) (Ki (wmQ (t0::ts) ((1200*10^k:Nat):Rat)) (Zz ts.length) 2 1) (Ki (Zz ts.length) (Zz ts.length) 2 0) z)(W:World)(a0 a1:OA_)(c0 c1:Nat)(r0:Rd W a0 (Qw ps))(r1:Rd W a1 (Km la))(L:Qg W):
  Kc Tryz.prog 46 #[.slice a0 ps.length c0,.slice a1 ps.length c1,.int .i64 k] W (.string (itx z)):=by
 rcases Q.or with⟨h1,h2⟩|⟨h1,h2,h3,h4⟩
 ·rw[h1] at r0 ⊢;rw[h2] at r1;exact Zog W a0 a1 c0 c1 k rs t0 ts z Q.c hk hz r0 r1 L
 ·rw[<- h1] at r0 ⊢;rw[<- h2] at r1;exact Zml W a0 a1 c0 c1 k rs t0 ts z Q.c hk hz h3 h4 r0 r1 L
theorem Ztk(w:World)(pn:Nat)(nA:Nat->Int)(dA:Nat->Nat)(pl:Int)(Dz:pn<256)(hnA:∀ k,-128<=nA k/\nA k<=127)(hdA:∀ k,dA k<256)(hb:pl<0\/9<pl)(L:Qg w):
  Kc Tryz.prog 7 #[.int .u8 pn,.agg (Zap nA dA),.int .i64 pl] w (.bool true):=by
 unfold Kc;have fQ:pn%10<10:=Nat.mod_lt _ (by decide);have hp:=Ze5 (pn%10) fQ;have GP:=Zch (pn%10) fQ;have If:=Zha (pn%10) fQ;have BJ:=hd_ (fun W=>Zjb W pn Dz);generalize Vc (pn%10)=ps at *;obtain⟨f9,hp4,Cc,gM⟩:=hp;obtain⟨Gd,gQ⟩:=GP;have eZ:ps.length<=100:=by omega
 have hi:Zgm ps:=fun x hx=>by have:=gM x hx;omega
 have HK:Hid (∀ W,Bw_ w W->Kc Tryz.prog 42 #[] W (.bool true)):=fun W hW=>Zjo W (L.below hW)
 have HA:Hid (∀ W a0 c0,Bw_ w W->Calls Tryz.prog 43 #[.slice a0 ps.length c0,.agg #[.int .i8 (nA 0),.int .u8 (dA 0),.int .i8 (nA 1),.int .u8 (dA 1),.int .i8 (nA 2),.int .u8 (dA 2),.int .i8 (nA 3),.int .u8 (dA 3)]] W fun e w'=>∃ a c,e = .returned (.slice a ps.length c)/\Rd w' a (Km (Zaq nA dA ps.length))/\Bw_ W w'):=fun W a0 c0 hW=>by
  refine cm_ (Zrc W a0 c0 ps.length hp4 nA dA hnA hdA (L.below hW)) ?_;rintro e w' ⟨a,c,rfl,ho,hb⟩;exact⟨a,c,rfl,ho.rd,hb⟩
 have cZ:=Zar nA dA ps.length;have sa:=Zmr nA dA ps.length;have ma:=Zjf nA dA ps.length;generalize Zaq nA dA ps.length=la at *;have H1:=hd_ (fun W a0 a1 c0 c1 (hW:Bw_ w W) (r0:Rd W a0 (Qw ps)) (r1:Rd W a1 (Km la))=>Zt5 W a0 a1 c0 c1 ps.length ps.length 3 pl (Zp7 W a0 a1 c0 c1 ps.length ps.length pl (fun W' Dg=>Zgh _ a0 a1 c0 c1 ps la (r0.below Dg nr_) (r1.below Dg nr_) hi cZ eZ (fun q hq=>(sa q hq).le (by decide)) f9 (L.below (bv_ hW Dg))) hb) (by decide));clear L cZ sa ma Gd gQ f9 Cc gM hp4 eZ Dz hnA hdA If hi fQ;obtain⟨n,hn⟩:∃ n,ps.length=n:=⟨_,rfl⟩;rw[hn] at BJ HA H1;clear hn;unfold Zap;have B:=hd_ ((Below.refl w.heap.size w).alloc nr_ (.cells #[.int .i8 (nA 0),.int .u8 (dA 0),.int .i8 (nA 1),.int .u8 (dA 1),.int .i8 (nA 2),.int .u8 (dA 2),.int .i8 (nA 3),.int .u8 (dA 3)] 26));have P0:Hid ((w.alloc (.cells #[.int .i8 (nA 0),.int .u8 (dA 0),.int .i8 (nA 1),.int .u8 (dA 1),.int .i8 (nA 2),.int .u8 (dA 2),.int .i8 (nA 3),.int .u8 (dA 3)] 26)).heap[w.heap.size]?=some (.cells #[.int .i8 (nA 0),.int .u8 (dA 0),.int .i8 (nA 1),.int .u8 (dA 1),.int .i8 (nA 2),.int .u8 (dA 2),.int .i8 (nA 3),.int .u8 (dA 3)] 26 (0,0))):=heap_alloc_new w _;go_enter Tryz.func7,Tryz.ntmps7;go_wp2_with fail;generalize w.alloc (.cells #[.int .i8 (nA 0),.int .u8 (dA 0),.int .i8 (nA 1),.int .u8 (dA 1),.int .i8 (nA 2),.int .u8 (dA 2),.int .i8 (nA 3),.int .u8 (dA 3)] 26)=w0 at *;refine cm_ (HK.o _ B.o) ?_;rintro e_ v1 ⟨rfl,hb_⟩;replace P0:=hk_ P0 hb_;replace B:=bt_ B hb_;clear hb_  HK;go_wp2_with fail;refine cm_ (BJ.o _) ?_;rintro e_ v2 ⟨gp,rfl,rp_,hb_⟩;replace P0:=hk_ P0 hb_;replace B:=bt_ B hb_;have Rp:=hd_ rp_;clear hb_ rp_ BJ;have p0:v2.cell? ⟨w.heap.size,0,none⟩=some (.int .i8 (nA 0)):=by rw[cell_of_row _ _ _ _ _ _ P0.o];rfl
 have p1:v2.cell? ⟨w.heap.size,1,none⟩=some (.int .u8 (dA 0)):=by rw[cell_of_row _ _ _ _ _ _ P0.o];rfl
 have p2:v2.cell? ⟨w.heap.size,2,none⟩=some (.int .i8 (nA 1)):=by rw[cell_of_row _ _ _ _ _ _ P0.o];rfl
 have p3:v2.cell? ⟨w.heap.size,3,none⟩=some (.int .u8 (dA 1)):=by rw[cell_of_row _ _ _ _ _ _ P0.o];rfl
 have p4:v2.cell? ⟨w.heap.size,4,none⟩=some (.int .i8 (nA 2)):=by rw[cell_of_row _ _ _ _ _ _ P0.o];rfl
 have p5:v2.cell? ⟨w.heap.size,5,none⟩=some (.int .u8 (dA 2)):=by rw[cell_of_row _ _ _ _ _ _ P0.o];rfl
 have p6:v2.cell? ⟨w.heap.size,6,none⟩=some (.int .i8 (nA 3)):=by rw[cell_of_row _ _ _ _ _ _ P0.o];rfl
 have p7:v2.cell? ⟨w.heap.size,7,none⟩=some (.int .u8 (dA 3)):=by rw[cell_of_row _ _ _ _ _ _ P0.o];rfl
 go_wp2_with fail;clear p0 p1 p2 p3 p4 p5 p6 p7;refine cm_ (HA.o _ _ _ B.o) ?_;rintro e_ v3 ⟨aa,ca,rfl,ra_,hb_⟩;replace P0:=hk_ P0 hb_;replace Rp:=hd_ (Rp.o.below hb_ nr_);replace B:=bt_ B hb_;have Ra:=hd_ ra_;clear hb_ ra_ HA P0;go_wp2_with fail;refine cm_ (H1.o _ _ _ _ _ B.o Rp.o Ra.o) ?_;rintro e_ v4 ⟨rfl,hb_⟩;replace B:=bt_ B hb_;clear hb_ H1 Rp Ra
 by_cases h0:pl<0
 ·go_wp2_with fail;go_ret;exact⟨rfl,B.o⟩
 ·have h9:9<pl:=by omega
  go_wp2_with fail;go_ret;exact⟨rfl,B.o⟩
theorem Zwb(w:World)(pn:Nat)(nA:Nat->Int)(dA:Nat->Nat)(k:Nat)(Dz:pn<256)(hnA:∀ k,-128<=nA k/\nA k<=127)(hdA:∀ k,dA k<256)(hk:k<=9)(L:Qg w):
  Kc Tryz.prog 7 #[.int .u8 pn,.agg (Zap nA dA),.int .i64 k] w (.bool true):=by
 unfold Kc;have fQ:pn%10<10:=Nat.mod_lt _ (by decide);have hp:=Ze5 (pn%10) fQ;have GP:=Zch (pn%10) fQ;have If:=Zha (pn%10) fQ;have BJ:=hd_ (fun W=>Zjb W pn Dz);have HQ:=hd_ (fun (la:List Rat) (hl:la.length=(Vc (pn%10)).length) (hs:Sml 480 12 la)=>Qez fQ hl hs);generalize Vc (pn%10)=ps at *;obtain⟨f9,hp4,Cc,gM⟩:=hp;obtain⟨Gd,gQ⟩:=GP;have eZ:ps.length<=100:=by omega
 have hi:Zgm ps:=fun x hx=>by have:=gM x hx;omega
 have HK:Hid (∀ W,Bw_ w W->Kc Tryz.prog 42 #[] W (.bool true)):=fun W hW=>Zjo W (L.below hW)
 have HA:Hid (∀ W a0 c0,Bw_ w W->Calls Tryz.prog 43 #[.slice a0 ps.length c0,.agg #[.int .i8 (nA 0),.int .u8 (dA 0),.int .i8 (nA 1),.int .u8 (dA 1),.int .i8 (nA 2),.int .u8 (dA 2),.int .i8 (nA 3),.int .u8 (dA 3)]] W fun e w'=>∃ a c,e = .returned (.slice a ps.length c)/\Rd w' a (Km (Zaq nA dA ps.length))/\Bw_ W w'):=fun W a0 c0 hW=>by
  refine cm_ (Zrc W a0 c0 ps.length hp4 nA dA hnA hdA (L.below hW)) ?_;rintro e w' ⟨a,c,rfl,ho,hb⟩;exact⟨a,c,rfl,ho.rd,hb⟩
 have cZ:=Zar nA dA ps.length;have sa:=Zmr nA dA ps.length;have ma:=Zjf nA dA ps.length;generalize Zaq nA dA ps.length=la at *;have Dy:∀ p∈ps,∃ q:Nat,p=q/\(q=2\/q∈Za4):=fun p hp=>⟨p.toNat,If p hp⟩
 have GH:=Zvc (k:=k) hk Gd gQ (by omega) (ma.le (show 480<=4096 by decide));obtain⟨rs,t0,ts,Q⟩:=HQ.o la cZ ma;have GF:=(Zzm (k:=1000) (by omega) Dy cZ sa hp4 (by decide)).1;have GM:=Qbt hk GF (by decide);have gS:=Q.flr (Nat.le_refl 1000) GH;have fE:=hd_ (fun n (hn:n<=1000) hs=>Q.one (n:=n) (m:=1000) (k:=k) hn nr_ hs GH);have JX:=hd_ (fun W a0 a1 c0 c1 (hW:Bw_ w W) r0 r1=>Q.rounded hk gS W a0 a1 c0 c1 r0 r1 (L.below hW));have mG:=hd_ (fun W=>Zv0 W k _ hk GM);have H1:=hd_ (fun W a0 a1 c0 c1 (hW:Bw_ w W) (r0:Rd W a0 (Qw ps)) (r1:Rd W a1 (Km la))=>Zxd W a0 a1 c0 c1 ps.length ps.length k _ hk GM ((Zjx W a0 a1 c0 c1 2 k ps la r0 r1 hi cZ eZ Dy sa (by decide) f9 hk GH (L.below hW)).mono fun e w' h=>by
  obtain⟨n,he,hl,hb⟩:=h;exact⟨⟨n,by rw[he,fE.o n hl.le hl.at_]⟩,hb⟩))
 clear fE GH gS GM GF Q HQ;generalize scE k (loE 1000 ps la)=z at *;clear L cZ sa ma Gd gQ f9 Cc gM hp4 eZ Dz hnA hdA If hi fQ Dy;generalize Zh1 k z=tx at *;generalize itx z=sz at *;obtain⟨n,hn⟩:∃ n,ps.length=n:=⟨_,rfl⟩;rw[hn] at BJ HA H1 JX;clear hn;have EF:¬ (k:Int)<0:=by omega
 have CY:¬ 9<(k:Int):=by omega
 unfold Zap;have B:=hd_ ((Below.refl w.heap.size w).alloc nr_ (.cells #[.int .i8 (nA 0),.int .u8 (dA 0),.int .i8 (nA 1),.int .u8 (dA 1),.int .i8 (nA 2),.int .u8 (dA 2),.int .i8 (nA 3),.int .u8 (dA 3)] 26));have P0:Hid ((w.alloc (.cells #[.int .i8 (nA 0),.int .u8 (dA 0),.int .i8 (nA 1),.int .u8 (dA 1),.int .i8 (nA 2),.int .u8 (dA 2),.int .i8 (nA 3),.int .u8 (dA 3)] 26)).heap[w.heap.size]?=some (.cells #[.int .i8 (nA 0),.int .u8 (dA 0),.int .i8 (nA 1),.int .u8 (dA 1),.int .i8 (nA 2),.int .u8 (dA 2),.int .i8 (nA 3),.int .u8 (dA 3)] 26 (0,0))):=heap_alloc_new w _;go_enter Tryz.func7,Tryz.ntmps7;go_wp2_with fail;generalize w.alloc (.cells #[.int .i8 (nA 0),.int .u8 (dA 0),.int .i8 (nA 1),.int .u8 (dA 1),.int .i8 (nA 2),.int .u8 (dA 2),.int .i8 (nA 3),.int .u8 (dA 3)] 26)=w0 at *;refine cm_ (HK.o _ B.o) ?_;rintro e_ v1 ⟨rfl,hb_⟩;replace P0:=hk_ P0 hb_;replace B:=bt_ B hb_;clear hb_  HK;go_wp2_with fail;refine cm_ (BJ.o _) ?_;rintro e_ v2 ⟨gp,rfl,rp_,hb_⟩;replace P0:=hk_ P0 hb_;replace B:=bt_ B hb_;have Rp:=hd_ rp_;clear hb_ rp_ BJ;have p0:v2.cell? ⟨w.heap.size,0,none⟩=some (.int .i8 (nA 0)):=by rw[cell_of_row _ _ _ _ _ _ P0.o];rfl
 have p1:v2.cell? ⟨w.heap.size,1,none⟩=some (.int .u8 (dA 0)):=by rw[cell_of_row _ _ _ _ _ _ P0.o];rfl
 have p2:v2.cell? ⟨w.heap.size,2,none⟩=some (.int .i8 (nA 1)):=by rw[cell_of_row _ _ _ _ _ _ P0.o];rfl
 have p3:v2.cell? ⟨w.heap.size,3,none⟩=some (.int .u8 (dA 1)):=by rw[cell_of_row _ _ _ _ _ _ P0.o];rfl
 have p4:v2.cell? ⟨w.heap.size,4,none⟩=some (.int .i8 (nA 2)):=by rw[cell_of_row _ _ _ _ _ _ P0.o];rfl
 have p5:v2.cell? ⟨w.heap.size,5,none⟩=some (.int .u8 (dA 2)):=by rw[cell_of_row _ _ _ _ _ _ P0.o];rfl
 have p6:v2.cell? ⟨w.heap.size,6,none⟩=some (.int .i8 (nA 3)):=by rw[cell_of_row _ _ _ _ _ _ P0.o];rfl
 have p7:v2.cell? ⟨w.heap.size,7,none⟩=some (.int .u8 (dA 3)):=by rw[cell_of_row _ _ _ _ _ _ P0.o];rfl
 go_wp2_with fail;clear p0 p1 p2 p3 p4 p5 p6 p7;refine cm_ (HA.o _ _ _ B.o) ?_;rintro e_ v3 ⟨aa,ca,rfl,ra_,hb_⟩;replace P0:=hk_ P0 hb_;replace Rp:=hd_ (Rp.o.below hb_ nr_);replace B:=bt_ B hb_;have Ra:=hd_ ra_;clear hb_ ra_ HA P0;go_wp2_with fail;refine cm_ (H1.o _ _ _ _ _ B.o Rp.o Ra.o) ?_;rintro e_ v4 ⟨rfl,hb_⟩;replace Rp:=hd_ (Rp.o.below hb_ nr_);replace Ra:=hd_ (Ra.o.below hb_ nr_);replace B:=bt_ B hb_;clear hb_ H1;go_wp2_with fail;refine cm_ (JX.o _ _ _ _ _ B.o Rp.o Ra.o) ?_;rintro e_ v5 ⟨rfl,hb_⟩;replace B:=bt_ B hb_;clear hb_ JX Rp Ra;go_wp2_with fail;refine cm_ (mG.o _) ?_;rintro e_ v6 ⟨rfl,hb_⟩;replace B:=bt_ B hb_;clear hb_ mG;go_wp2_with fail;go_ret;exact⟨rfl,B.o⟩
theorem Qea(w:World)(pn:Nat)(nA:Nat->Int)(dA:Nat->Nat)(pl:Int)(Dz:pn<256)(hnA:∀ k,-128<=nA k/\nA k<=127)(hdA:∀ k,dA k<256)(L:Qg w):
  Kc Tryz.prog 7 #[.int .u8 pn,.agg (Zap nA dA),.int .i64 pl] w (.bool true):=by
 by_cases h:pl<0\/9<pl
 ·exact Ztk w pn nA dA pl Dz hnA hdA h L
 ·have:=Zwb w pn nA dA pl.toNat Dz hnA hdA (by omega) L
  rw[show ((pl.toNat:Nat):Int)=pl by omega] at this;exact this
end Go.Proofs.YtbielfplgbammaaGreatDoor

namespace Go.Proofs.YtbielfplgbammaaGreatDoor
open Go.ChangeShapes Go.WideShapes Go.ChangeAt Go.RowKit
theorem Zdd(os:Os)(started:os.Started)(H:Type)(enc:TypeId×Value->H):
  ReturnsInHanded {} Tryz.checked os 7 .any (fun w args=>(Rows.enclosureCentsSpec.pre enc Tryz.prog Tryz.f7 [] false w args/\laidMetH Tryz.prog Zwc w)/\sizedMet enc Tryz.prog Tryz.f7 (OpenSpec.ofChange Rows.enclosureCentsSpec) false w args)
   (Rows.enclosureCentsSpec.post enc Tryz.prog Tryz.f7 false true false false):=by
 refine returnsInHanded_of_change_and (C:=Tryz.checked) (X:=fun w _=>laidMetH Tryz.prog Zwc w) (fun _ _ _ hh h=>h.of_heap hh) own started (by kernel_rfl) Tryz.func7
  (ChangeSpec.witness_shaped (enc:=enc) (C:=Tryz.checked) (os:=os) (X:=fun w _=>laidMetH Tryz.prog Zwc w) false (World.doorLaid Tryz.prog 400 os) #[.int .u8 0,.agg #[.int .i8 0,.int .u8 0,.int .i8 0,.int .u8 0,.int .i8 0,.int .u8 0,.int .i8 0,.int .u8 0],.int .i64 0] 8 rfl (World.shaped_of_RefB (by kernel_rfl) (by kernel_rfl)) (by kernel_rfl) (by kernel_rfl) (by kernel_rfl) (Zzp os _)) ?_
 intro W base args ds gs before hval0 hW _ _ hL _;have gO:∀ (j:Nat) t v,Tryz.f7.params[j]?=some t->args[j]?=some v->Value.okWide Tryz.prog W .any base t v:=hval0;have Dg:=hW;obtain⟨p,q,hA0,hV,rfl,hfz,eP⟩:=hW;have hA:DataW.TrodAll enc Tryz.prog W 0 (fun _=>true) true Tryz.f7.params.toList args.toList ds p:=hA0;rw[Tryz.params7] at hA gO;obtain⟨v0,vs0,d0,ds0,p0,q0,hargs,rfl,rfl,h0,r0⟩:=trodAll_cons hA;obtain⟨v1,vs1,d1,ds1,p1,q1,rfl,rfl,rfl,h1,r1⟩:=trodAll_cons r0;obtain⟨v2,vs2,d2,ds2,p2,q2,rfl,rfl,rfl,h2,r2⟩:=trodAll_cons r1;obtain⟨rfl,rfl,rfl⟩:=trodAll_nil r2;obtain rfl:args = #[v0,v1,v2]:=by cases args;simp_all
 obtain⟨rfl,rfl⟩:=trodVars_none hV;have k0:=h0;have Ma:∀ x∈p0,x.block<W.heap.size:=by obtain⟨m,hm⟩:=k0;exact DataW.trod_lt m _ _ _ hm
 have k1:=h1;have m9:∀ x∈p1,x.block<W.heap.size:=by obtain⟨m,hm⟩:=k1;exact DataW.trod_lt m _ _ _ hm
 have k2:=h2;have m8:∀ x∈p2,x.block<W.heap.size:=by obtain⟨m,hm⟩:=k2;exact DataW.trod_lt m _ _ _ hm
 obtain⟨na,rfl,rfl,rfl,wa⟩:=open_int Tryz.underlying5 (gO 0 5 v0 rfl rfl) h0;have m5:=bounds_u8 wa;obtain⟨pn,rfl⟩:=Int.eq_ofNat_of_zero_le m5.1;obtain⟨nA,dA,rfl,hnA,hdA⟩:=Zot (gO 1 26 v1 rfl rfl) h1;obtain⟨nb,rfl,rfl,rfl,wb⟩:=open_int Tryz.underlying3 (gO 2 3 v2 rfl rfl) h2;have NL:=bounds_i64 wb;clear hA0 hval0;refine(Qea W pn nA dA nb (by omega) hnA hdA (Qce hL)).mono fun e W' ⟨he,bel⟩=>?_
 subst he;exact⟨_,rfl,_,_,_,[],_,[],Dg,trodAll_mk1 (shut_bool Tryz.underlying4 _),(trodAll_cons_mk (Below.trod Zpb (by kernel_rfl) (of_decide_eq_true (by kernel_rfl)) k0 bel Ma) (trodAll_cons_mk (Below.trod Zpb (by kernel_rfl) (of_decide_eq_true (by kernel_rfl)) k1 bel m9) (trodAll_cons_mk (Below.trod Zpb (by kernel_rfl) (of_decide_eq_true (by kernel_rfl)) k2 bel m8) trodAll_mk0))),rfl,bel.frame _,fun h=>by cases h⟩
theorem Zen:Rows.EnclosureCentsSaid :=
 OpenClaim.holds_of_wide 7 Tryz.f7 rfl rfl rfl rfl rfl rfl rfl ⟨rfl,rfl,rfl,rfl,rfl⟩ rfl rfl rfl rfl rfl (by as_aux_lemma=>kernel_rfl) Tryz.func7 (by
   unfold joinedFacts;simp only[Bool.and_eq_true]
   repeat' (refine And.intro ?_ ?_)
   all_goals (as_aux_lemma=>kernel_rfl))
  (by as_aux_lemma=>exact of_decide_eq_true (by kernel_rfl)) (by unfold Func.isWrapper;first | (rw[if_pos (by decide +kernel)];kernel_rfl) | (rw[if_neg (by decide +kernel)];exact⟨rfl,rfl⟩))
  (fun os started H enc _=>Zdd os started H enc)
end Go.Proofs.YtbielfplgbammaaGreatDoor
