/- Lemmas for the laws of this seat, part 5. -/
import Derived.Laws.AppendOwnNone
import Derived.BigQuiet
import Derived.Deep.OwnRows
import Derived.Maps.AppendAt
import Derived.Deep.CutRange
import Derived.Test.YtbielfplgbammaaGreatDoorTf4
set_option maxRecDepth 100000
set_option maxHeartbeats 16000000
namespace Go.Proofs.YtbielfplgbammaaGreatDoor.LN
theorem Zjt(P:Int):∀ l k:List Int,dotI l k=dotI (l.map fun x=>x%P) k+P*dotI (l.map fun x=>x/P) k
 | [],_=>by simp[dotI]
 | _::_,[]=>by simp[dotI]
 | x::l,y::k=>by
  have ih:=Zjt P l k;simp only[List.map_cons,dotI];rw[ih];have hx:=Int.emod_add_mul_ediv x P;generalize x%P=r at *;generalize x/P=q at *;subst hx
  grind
def Zev (a q:Int) (L:List Int):List Int:=L.map fun l=>(2*q*l+a)/(2*a)
theorem Zeu(a q:Int)(L:List Int):(Zev a q L).length=L.length:=by simp[Zev]
def Qgk (a q:Int) (L:List Int):Nat:=Zdr (comb a (Zev a q L) q L)
def Qb5 (a:Int) (L Q:List Int) (K S:Nat):Bool:=decide (0<a)&&Q.all fun q=>decide (Qgk a q L*K+q.natAbs*S<a.natAbs)
def Qf7 (a:Int) (L Q:List Int) (V:List (List Int)) (P:Int):Bool :=
 decide (1<P)&&decide (V.length=L.length) &&
 (List.range L.length).all fun i=>decide ((Zet L.length (V.getD i []) (Q.map fun q=>Zev a q L)).map (fun x=>x%P)=Ze0 L.length i 1)
theorem Zr0(P:Int):∀ u k:List Int,dotI u (k.map fun x=>P*x)=P*dotI u k
 | [],_=>by simp[dotI]
 | _::_,[]=>by simp[dotI]
 | a::u,b::k=>by
  simp only[List.map_cons,dotI];rw[Zr0 P u k]
  grind
theorem Qcl{P:Int}{m:Nat}{U V:List (List Int)}(hU:∀ u∈U,u.length=m)(hI:∀ i,i<m->(Zet m (V.getD i []) U).map (fun x=>x%P)=Ze0 m i 1)(k:List Int)(hk:k.length=m)(h0:∀ u∈U,dotI u k=0):
  ∀ x∈k,∃ y,x=P*y:=by
 intro x hx;obtain⟨i,hi,rfl⟩:=List.mem_iff_getElem.1 hx;have h1:=hI i (by omega);have h2:=Zfe m k (V.getD i []) U hU h0;rw[Zjt P,h1,Ze0,List.range_eq_range',Zhp 1 _ i 0 k,if_pos (by omega)] at h2;rw[Nat.sub_zero,List.getD_eq_getElem?_getD,List.getElem?_eq_getElem hi,Option.getD_some,Int.one_mul] at h2;generalize k[i]=y at *;generalize dotI ((Zet m (V.getD i []) U).map fun x=>x/P) k=q at *;exact⟨-q,by rw[Int.mul_neg];omega⟩
theorem Zza{P:Int}(hP:1<P){m:Nat}{U V:List (List Int)}(hU:∀ u∈U,u.length=m)(hI:∀ i,i<m->(Zet m (V.getD i []) U).map (fun x=>x%P)=Ze0 m i 1):
  ∀ (n:Nat) (k:List Int),(∀ x∈k,x.natAbs<=n)->k.length=m->(∀ u∈U,dotI u k=0)->∀ x∈k,x=0:=by
 intro n
 induction n using Nat.strongRecOn with
 | ind n ih =>
  intro k hn hk h0
  by_cases hz:n=0
  ·subst hz;intro x hx;have:=hn x hx
   omega
  have hd:=Qcl hU hI k hk h0;have e:k=(k.map fun x=>x/P).map fun x=>P*x:=by
   rw[List.map_map];refine List.ext_getElem (by simp) fun i h1 h2=>?_
   obtain⟨y,hy⟩:=hd k[i] (List.getElem_mem h1);rw[List.getElem_map,Function.comp_apply,hy,Int.mul_ediv_cancel_left _ (by omega)]
  have h2:∀ u∈U,dotI u (k.map fun x=>x/P)=0:=fun u hu=>by
   have h:=h0 u hu;rw[e,Zr0] at h;rcases Int.mul_eq_zero.1 h with h|h
   ·omega
   ·exact h
  have h3:∀ x∈k.map (fun x=>x/P),x.natAbs<=n/2:=fun x hx=>by
   obtain⟨z,F9,rfl⟩:=List.mem_map.1 hx;obtain⟨y,hy⟩:=hd z F9;have h4:=hn z F9;rw[hy,Int.mul_ediv_cancel_left _ (by omega)];rw[hy,Int.natAbs_mul] at h4;have h5:2*y.natAbs<=P.natAbs*y.natAbs:=Nat.mul_le_mul_right _ (by omega);omega
  have h4:=ih (n/2) (by omega) _ h3 (by rw[List.length_map];exact hk) h2;intro x hx;obtain⟨y,hy⟩:=hd x hx;have h5:=h4 (x/P) (List.mem_map_of_mem hx);rw[hy,Int.mul_ediv_cancel_left _ (by omega)] at h5;rw[hy,h5,Int.mul_zero]
theorem Zqc{a:Int}{L Q:List Int}{V:List (List Int)}{P:Int}{K S:Nat}(hn:Qb5 a L Q K S=true)(hi:Qf7 a L Q V P=true)(k:List Int)(hk:k.length=L.length)(hK:∀ x∈k,x.natAbs<=K)(hS:(dotI L k).natAbs<S):
  ∀ x∈k,x=0:=by
 unfold Qb5 at hn;unfold Qf7 at hi;simp only[Bool.and_eq_true,decide_eq_true_eq,List.all_eq_true,List.mem_range] at hn hi;obtain⟨ha,hQ⟩:=hn;obtain⟨⟨hP,hV⟩,hI⟩:=hi;refine Zza hP (m:=L.length) (U:=Q.map fun q=>Zev a q L) (V:=V) (fun u hu=>?_) hI (Zdr k) k (fun x hx=>?_) hk fun u hu=>?_
 ·obtain⟨q,_,rfl⟩:=List.mem_map.1 hu;exact Zeu a q L
 ·clear hS hK hk hI hV;unfold Zdr
  induction k with
  | nil=>cases hx
  | cons y l ih =>
   rw[List.map_cons,List.sum_cons];rcases List.mem_cons.1 hx with rfl|hx
   ·omega
   ·have:=ih hx;omega
 ·obtain⟨q,hq,rfl⟩:=List.mem_map.1 hu;have h1:=hQ q hq;have e:=Zeo a q (Zev a q L) L k (Zeu a q L);have b:=Zps K (comb a (Zev a q L) q L) k hK;unfold Qgk at h1;generalize dotI (Zev a q L) k=f at *;generalize dotI L k=T at *;generalize Zdr (comb a (Zev a q L) q L)*K=A at *;rw[e] at b;have h3:(a*f).natAbs<=(a*f-q*T).natAbs+(q*T).natAbs:=by omega
  rw[Int.natAbs_mul,Int.natAbs_mul q T] at h3;have h5:q.natAbs*T.natAbs<=q.natAbs*S:=Nat.mul_le_mul_left _ (by omega);have h6:a.natAbs*f.natAbs<a.natAbs*1:=by omega
  have h7:f.natAbs<1:=Nat.lt_of_mul_lt_mul_left h6;omega
def Qct:List Nat:=[2,3,5,7,11,13,17,19,23,29,31,37,41,43,47,53,59,61,67,71,73,79,83,89,97]
def certL25:List Int:=Qct.map fun p=>if p=2 then 2^1024 else (((lg p p.log2 1024 1120).getD 0:Nat):Int)
def Zw8:List Int:=[-0x390cc4547b4cd34f887aebaadaaef6c9e2c25ec48d8f23b26f2a85d828ff28e8bf9ca1f7cfab0d284288c4b575780f820db978a62a9677ad80c583c592139,-0x260814ef7f5ac50a6006d98cfd70b43cacbe2b44c5a6acba00c9e36e133dfaec54ded4a6dbf2b1ee3d9f0170e9040519515ec50467e78cea24b2a987b6ebe,0xc1fe29faf3a552cd8de28a12e2da45a09a6f6ddd51c9fdf123231365c26467b7f0adb74fd1629cde5109fd2ce82ac31cf6a7159b88cbc009f06beb2efe7f1,0xc4d95d3690e9b65f02a176c883e8ec48cac8f51c6e6ac88155fbb552a8d107e0735dfadeafbd00dc15d7affcd74d1aedcc8b5819242d9f5374d744f37864b,0x2fbe3f25a3a7de9b5b481954d1f6339b2cd20553ab9d3ebec152b19718dccca849fa91bd57f1ef5cf6b3fd1de44fed74095a607713b59e5dab526a5bf2d1a,0xb1d4a89456513f0be0db174271d748684707ab7c465b9b152f9cfd46885d014b0b6313fdb7fb0ac0f8c0cbb84fa1114a2fc1ad81d7b46dc68888c7e484443,0xd4fb67b9eee711061c2f484eaeb6714b80931bf0be34de2758afdcfc8ab8d81f286fc368a34abbdee16567d53c8e00633cd4e3c89dc0919dbd4e6776a43bb,0xc899fb23e590a24b56a2adcd8da665a66ae2ec7e27986cc365cb27f6d6036be68c300e821eb425ea7f34efe116edeeffcaca2af99a0269f5b4261db47c314,-0x11d12dd471b033d8f64d3dd96ce360413127b1e913f3ae0a69f58fd7c784be2b7f4730a1aa0e86d39e38d5da6e24bfecc0540ab55bd835eba83548458d713,0xb926771e4e6fa1b1d854b5141a33d1ea69f18e9493e4bd4e7fc79ec59c41a85d36321c75af04f2583ea8a5d6ed566b5e9fa774026a91431b6a7df578e7459,-0x3c28cc5f354ba5a9fc8d241587fa21af31c3e6e94de0dd06347765459067893f4625b14ba63b900137e634223d3e51fc18e23feb9d937a72459c82f489561,-0xd89ae46dcc2d34099da88c0eeebe45a7fd8e4a5b978d5a347365896f552ec37edac4d764c4c88fe731af3bde3060926f6c408fa08ce000932d017724e19ee,-0x8a91da38a2dcab2db4bf4a851cf4bbad9dd11812fb953cccc63d0e4b2da4b049c2e28f859aff65c2f55d66641eec3465bf2cc38578db652cb80d1be86824c,0x895aa15dcf5659cff1497ef77c5517ab5bc635dc394b344b270487efb0c24dd81130969cbd26c4b2570453e614b36072827d534508273926630d8792f1505,0xec0ed674cca733ecec2ec718589c4165668c921ed200cb18f949421f53adfeaf33ee49b77683fd220fda76c247b919730b89f5c86cc2ae2e7467e6288190d,0x1ad4fa358f8a2b0001052337ff5f965738e9ef08c0ab36887e87053178564d3d4733548ea08b2398fa1c8ef38e9b07acf14183670a7557085e371538399213,-0xcf563fd1ab64de44118f0ef591830a98b4375aefbd7643b50b3a2c7dad2ddda31ea6a961f9ff6856f9af1536f3807caa73d0d8bccd1b1748307caca0b514,0x5076fb700c91eb0ad7590020d977e1805d604885b67160daae909a62406d3f401f66fe04cdb504d8309c6f2062ee41b2c29c45d2c01b4a6959315c698416e,-0xe7e496b0d5dae89fd6671905c3b39792af4f23aa9c33ab499c18e57447823ce03c684e8e0d3686afff015d66b6d57f8e91b97946b1f2fb236c8d62708a18a,-0x1797837a78ad5a7cb425ecd55e66c7f45320c2112aa185855f9ac4fbdd0f1a3f868873233f2a91c500731f84bf864689b9ca4ffc44787f78ed85c25d65bafe,0x1f12b1884e6ed34a5d58fcbbd9b64bb0e3620c645f1107b850710f74df8470506f39df5b2c079d54de688969e9b3be651cc671df4be8b0402deeed04d7136f,0x38773a3f3a38ff2f461cc1a498212e2699f4b44c91c4fc8fe76a273f7433e99ad868606c13df7bb8fbc1a0e307aa2305e1edc5fc67267c33693811a24a115a,-0x468f56cd9688ad4444754dc5516780d8a728601272b981c9e540ae5c7eccc37be9aaea74cc4f68a295024dd153707784d1a0f06af7b3318b43396873b153b9,0x29803f6a11e403f7ab8ab7f301e524fd966b213312929531e43177e8e94c4228b3ff35f744d7a0381b47d50f48de84c56fabfe6825e7c594421d4081a2f909,-0x3ba482035175b55cdd54937fbed1357892e1679104490919122bafa83262d982e03a473fabb598916f8baa291f85413607e809cc262654bd47d7d78594adb]
def Qcs:List (List Int):=[[98,118,202,124,83,146,107,201,172,64,12,55,105,153,239,226,195,7,28,1,187,165,30,221,20],[97,27,31,158,30,77,244,51,44,105,139,212,178,232,112,144,112,50,139,194,131,126,250,243,199],[145,223,213,170,95,13,240,130,153,118,135,223,243,186,171,134,207,140,198,195,116,22,35,91,65],[127,43,6,14,138,151,250,70,62,80,184,44,115,51,176,244,145,131,206,236,45,69,179,200,133],[215,29,202,95,72,74,48,4,10,16,59,3,80,6,27,146,155,64,144,191,207,28,47,186,115],[1,23,188,40,44,144,148,45,179,1,2,131,81,130,190,174,102,201,98,127,88,72,69,149,96],[21,40,35,113,140,63,120,23,173,12,30,112,115,247,188,77,109,86,237,6,190,149,14,217,137],[165,242,4,13,24,68,242,68,11,194,105,217,200,25,217,157,134,179,219,36,80,241,64,196,176],[206,4,124,119,72,189,189,146,49,121,239,155,85,23,138,58,180,221,118,48,106,186,171,238,86],[210,99,247,60,139,154,200,40,223,202,137,227,11,116,74,91,113,69,222,174,223,137,100,238,243],[137,154,125,2,209,203,20,147,218,42,113,181,57,132,187,233,7,180,4,13,134,94,179,172,127],[179,210,49,18,55,213,151,96,5,60,141,57,148,95,99,145,82,178,219,173,202,14,84,100,228],[102,62,217,129,14,127,200,224,35,146,125,220,123,9,18,106,211,148,211,96,123,238,196,223,230],[107,242,170,28,59,5,149,152,27,153,45,77,216,213,205,218,113,101,58,81,174,221,44,184,57],[108,175,78,124,22,49,53,21,88,184,52,93,49,179,193,43,94,166,25,71,133,248,120,207,180],[190,12,33,105,31,211,119,39,220,34,3,27,122,55,99,131,239,148,215,72,248,155,198,222,150],[144,6,56,78,4,2,126,114,216,174,212,176,32,191,21,45,218,115,143,120,153,136,150,24,232],[177,196,131,171,223,9,122,185,198,226,118,98,221,101,109,186,72,130,15,250,167,241,109,149,105],[5,109,58,172,46,17,108,71,152,136,247,173,16,175,59,71,120,96,238,26,93,192,136,39,81],[186,19,103,188,193,244,223,99,12,51,155,33,75,7,116,75,27,25,162,116,163,194,41,249,169],[16,165,61,90,34,101,66,39,9,179,6,2,90,243,140,110,154,165,206,43,233,68,70,8,11],[234,230,151,18,15,70,18,94,170,185,103,207,140,194,73,45,240,94,238,202,45,181,231,74,100],[93,157,117,129,100,102,151,37,142,24,195,236,119,121,156,62,96,20,140,202,137,110,136,203,133],[34,56,244,228,180,109,49,144,4,202,26,66,171,139,244,245,65,98,96,38,169,12,38,158,59],[93,79,212,48,179,15,215,149,126,233,223,17,202,226,95,109,96,28,47,201,229,125,122,118,247]]
theorem certL25_head:certL25.head?=some (2^1024):=by decide +kernel
theorem certL25_len:certL25.length=25:=by unfold certL25;rw[List.length_map];rfl
theorem Zvu:Qb5 (2^1024) certL25 Zw8 (2^17) (2^521)=true:=by decide +kernel
theorem Zzb:Qf7 (2^1024) certL25 Zw8 Qcs 251=true:=by decide +kernel
theorem cert25_zero(k:List Int)(hk:k.length=certL25.length)(hK:∀ x∈k,x.natAbs<=2^17)(hS:(dotI certL25 k).natAbs<2^521):∀ x∈k,x=0:=Zqc Zvu Zzb k hk hK hS
end Go.Proofs.YtbielfplgbammaaGreatDoor.LN

namespace Go.Proofs.YtbielfplgbammaaGreatDoor
open Go.RowKit
theorem LN.ends_decide_of{pr:List Int}{f:Int->Nat}{K S:Nat}(hz:∀ k:List Int,k.length=pr.length->(∀ x∈k,x.natAbs<=K)->(LN.dotI (pr.map fun p=>(f p:Int)) k).natAbs<S->∀ x∈k,x=0)(hp:pr.Nodup)(l:List (Int×Int))(hl:l.length*K<=S)(gm:l≠[])
  (hm:∀ x∈l,x.1∈pr/\x.2≠0/\x.2.natAbs<=K) (hd:(l.map Prod.fst).Nodup):LN.hiS f (LN.negT l)<=LN.loS f l\/LN.hiS f l<=LN.loS f (LN.negT l):=by
 have h1:=LN.hiS_le f K l fun x hx=>(hm x hx).2.2
 have h2:=LN.hiS_le f K (LN.negT l) (by
  intro x hx;obtain⟨y,hy,rfl⟩:=List.mem_map.1 hx;have:=(hm y hy).2.2
  show (-y.2).natAbs<=K
  omega)
 have e:(LN.negT l).length=l.length:=by simp[LN.negT]
 rw[e] at h2;have h3:=LN.sumT_eq f l
 by_cases hT:(LN.sumT f l).natAbs<S
 ·exfalso;rw[<- LN.dotI_coef f pr hp l fun x hx=>(hm x hx).1] at hT;have h4:=hz (pr.map fun p=>LN.coefP p l) (by simp) (by
   intro x hx;obtain⟨p,_,rfl⟩:=List.mem_map.1 hx;exact LN.coefP_le K l hd (fun y hy=>(hm y hy).2.2) p) hT
  match l,gm with
  | x::r,_ =>
   have h5:=h4 _ (List.mem_map.2 ⟨x.1,(hm x List.mem_cons_self).1,rfl⟩);rw[LN.coefP_mem _ hd x List.mem_cons_self] at h5;exact(hm x List.mem_cons_self).2.1 h5
 ·omega
theorem Zp9:∀ x∈LN.certL25,(0:Int)<=x:=by decide +kernel
theorem Zti:Za4.map (fun p=>LN.lg p p.log2 1024 1120)=LN.certL25.tail.map fun x=>some x.toNat:=by decide +kernel
theorem Zt4:Zd1.map (fun p=>((lf 1024 p:Nat):Int))=LN.certL25:=by
 have h:=Zti;have h0:=LN.certL25_head;have hp:=Zp9;obtain⟨c0,ct,e⟩:∃ c0 ct,LN.certL25=c0::ct:=⟨_,_,rfl⟩;rw[e] at h h0 hp ⊢;rw[Zsg,List.map_cons];simp only[List.head?_cons,Option.some.injEq] at h0;rw[Qay,h0];congr 1;rw[List.tail_cons] at h;rw[List.map_map];have Ie:∀ x∈ct,(0:Int)<=x:=fun x hx=>hp x (List.mem_cons_of_mem _ hx)
 clear hp h0 e;have Ge:∀ (l:List Nat) (ct:List Int),(∀ p∈l,p∈Za4)->(∀ x∈ct,(0:Int)<=x)->l.map (fun p=>LN.lg p p.log2 1024 1120)=ct.map (fun x=>some x.toNat)->l.map ((fun p=>((lf 1024 p:Nat):Int)) ∘ fun p=>((p:Nat):Int))=ct:=by
  intro l
  induction l with
  | nil =>
   intro ct _ _ h;cases ct with
   | nil=>rfl
   | cons x r=>simp at h
  | cons p l ih =>
   intro ct hl hc h;cases ct with
   | nil=>simp at h
   | cons x r =>
    simp only[List.map_cons,List.cons.injEq] at h;rw[List.map_cons,ih r (fun q hq=>hl q (List.mem_cons_of_mem _ hq)) (fun y hy=>hc y (List.mem_cons_of_mem _ hy)) h.2];congr 1;have:=Qav (hl p (List.mem_cons_self ..)) (by decide) h.1
    have hx:=hc x (List.mem_cons_self ..)
    show ((lgN p 1024:Nat):Int)=x
    rw[this];omega
 exact Ge Za4 ct (fun _ h=>h) Ie h
def Ke:Nat:=2^17
theorem Zlm{tl:List (Int×Int)}(h1:∀ x∈tl,x.1∈Zd1)(h0:∀ x∈tl,x.2≠0)(hd:(tl.map Prod.fst).Nodup)(hk:∀ x∈tl,x.2.natAbs<=Ke)(hl:tl.length<=100)(gm:tl≠[]):Dec tl:=by
 have hS:=@Zjj tl.length 17 521 hl (by decide);have hz:∀ k:List Int,k.length=Zd1.length->(∀ x∈k,x.natAbs<=Ke)->(LN.dotI (Zd1.map fun p=>((lf 1024 p:Nat):Int)) k).natAbs<2^521->∀ x∈k,x=0:=by
  intro k hk hK hT;rw[Zt4] at hT;exact LN.cert25_zero k (by rw[hk,LN.certL25_len];rfl) hK hT
 have:=LN.ends_decide_of hz (by decide) tl hS gm (fun x hx=>⟨h1 x hx,h0 x hx,hk x hx⟩) hd
 unfold Dec;rw[LN.eLo_eq,LN.eHi_eq];omega
theorem Zh9.all{ps:List Int}{l:List Rat}(h1:∀ p∈ps,p∈Zd1)(h2:ps.Nodup)(hk:∀ x∈tlQ ps l,x.2.natAbs<=Ke):Zh9 ps l :=
 ⟨h1,h2,fun x hx=>Nat.le_trans (hk x hx) (by decide),fun hn gm=>Zlm (fun _ hx=>h1 _ (Qm hx).1) (Zl4 h1 h2).nz (Zl4 h1 h2).nd hk (Zis hn) gm⟩
def RB:Nat:=2^104
def XB:Nat:=6*2^(13+(1024+3))
theorem Qfw:6*4096<LN.SB:=by decide +kernel
theorem Qfx:XB*12<RB*(LN.SB-6*4096):=by decide +kernel
theorem Qfy:12*4096+RB*12*4096<=LN.KA:=by decide +kernel
theorem Qfv:12*(6*4096)+RB*12*(6*4096)<LN.SA:=by decide +kernel
theorem Qdy:4096<=LN.KB:=by decide +kernel
theorem Ztw{d g nx ny S R X:Nat}(hd:d<=12)(hg:g<=12)(hx:nx<=6)(hy:ny<=6)(h1:6*4096<S)(h2:X*12<R*(S-6*4096))(h3:12*4096+R*12*4096<=LN.KA)(h4:12*(6*4096)+R*12*(6*4096)<LN.SA):
  Qfm LN.KA LN.SA 4096 4096 d g S R (nx*4096) (ny*4096) X:=by
 have b1:nx*4096<=6*4096:=Nat.mul_le_mul_right _ hx;have b2:ny*4096<=6*4096:=Nat.mul_le_mul_right _ hy;have b3:R*d<=R*12:=Nat.mul_le_mul_left _ hd;refine⟨by clear h2 h3 h4;omega,?_,?_,?_⟩
 ·have c1:X*g<=X*12:=Nat.mul_le_mul_left _ hg;have c2:R*(S-6*4096)<=R*(S-ny*4096):=Nat.mul_le_mul_left _ (by clear h2 h3 h4;omega);clear h3 h4;omega
 ·have c1:R*d*4096<=R*12*4096:=Nat.mul_le_mul_right _ b3;clear h2 h4;omega
 ·have c1:R*d*(ny*4096)<=R*12*(6*4096):=Nat.mul_le_mul b3 b2;have c2:g*(nx*4096)<=12*(6*4096):=Nat.mul_le_mul hg b1;clear h2 h3;omega
theorem Sml.kb{N M:Nat}{ps:List Int}{l:List Rat}(hM:0<M)(h:Sml N M l):∀ x∈tlQ ps l,x.2.natAbs<=N:=by
 intro x hx;obtain⟨_,q,hq,_,he⟩:=Qm hx;have e:x.2=LN.ex (Ko l) q:=he;obtain⟨m,hm⟩:=LN.tden_min (fun q hq=>(h q hq).1);have h3:=(h q hq).2;rw[hm,Nat.mul_comm,LN.ex_mul (LN.tden_dvd hq),Int.natAbs_mul,Int.natAbs_natCast] at h3;have di:0<m:=by
  rcases Nat.eq_zero_or_pos m with h0|h0
  ·rw[h0,Nat.mul_zero] at hm;omega
  ·exact h0
 rw[e];have h4:1*(LN.ex (Ko l) q).natAbs<=m*(LN.ex (Ko l) q).natAbs:=Nat.mul_le_mul_right _ di;omega
theorem Sml.den{N:Nat}{l:List Rat}(h:Sml N 12 l):Ko l<=12:=Nat.le_of_dvd (by decide) (LN.tden_min (fun q hq=>(h q hq).1))
theorem Zcf{ps:List Int}(h:ps.length<=6)(l:List Rat):(tlQ ps l).length<=6:=Nat.le_trans (by have:=(Vz (Ko l) ps l).length_le;rw[List.length_map] at this;exact this) h
theorem Zl6{ps:List Int}{l:List Rat}(hl:l.length=ps.length)(h:∃ q∈l,q≠0):tlQ ps l≠[]:=by
 obtain⟨q,hq,h0⟩:=h;obtain⟨i,hi,rfl⟩:=List.mem_iff_getElem.1 hq;intro e;have hm:(ps[i]'(by omega),l[i].num*((Ko l/l[i].den:Nat):Int))∈tlQ ps l:=by
  unfold tlQ Kr;refine List.mem_filterMap.2 ⟨(ps[i]'(by omega),l[i]),?_,?_⟩
  ·exact List.mem_iff_getElem.2 ⟨i,by simp;omega,by simp⟩
  ·rw[if_neg];intro hz;exact h0 (Rat.num_eq_zero.1 hz)
 rw[e] at hm;cases hm
theorem Qbc{tl:List (Int×Int)}(hp:PrT tl)(hl:tl.length<=6)(hk:∀ x∈tl,x.2.natAbs<2^13):(LN.eLo (lf 1024) tl).natAbs<=XB/\(LN.eHi (lf 1024) tl).natAbs<=XB:=by
 obtain⟨h1,h2⟩:=Zho (n:=1024) (by decide) tl hp hk;unfold XB;have h3:=@Nat.mul_le_mul_right tl.length 6 (2^(13+(1024+3))) hl;exact⟨Nat.le_trans h1 h3,Nat.le_trans h2 h3⟩
theorem Zna{ps:List Int}{la lb:List Rat}(GP:∀ p∈ps,p∈Vm)(eP:ps.Nodup)(h6:ps.length<=6)(l1:la.length=ps.length)(l2:lb.length=ps.length)(ha:Sml 4096 12 la)(hb:Sml 4096 12 lb)(h0:∃ q∈lb,q≠0):Zud ps la lb 13:=by
 have kx:=ha.kb (ps:=ps) (by decide);have ky:=hb.kb (ps:=ps) (by decide);have aM:∀ x∈tlQ ps la,x.2.natAbs<2^13:=fun x hx=>Nat.lt_of_le_of_lt (kx x hx) (by decide)
 have IW:∀ x∈tlQ ps lb,x.2.natAbs<2^13:=fun x hx=>Nat.lt_of_le_of_lt (ky x hx) (by decide)
 have my:∀ x∈tlQ ps lb,x.1∈Vm:=fun x hx=>GP _ (Qm hx).1
 have gm:=Zl6 l2 h0;refine⟨fun p hp=>Zah (GP p hp),h6,aM,IW,Nat.lt_of_le_of_lt ha.den (by decide),Nat.lt_of_le_of_lt hb.den (by decide),by decide,Qdn (hb.good (by decide) (by decide) GP eP) (by omega) l2 h0,fun hr=>?_⟩;exact Zrp Zea Zux GP eP l1 l2 kx ky gm (Qbo my ((Vz _ ps lb).nodup eP) (fun _ hx=>Zl5 hx) gm fun x hx=>Nat.le_trans (ky x hx) Qdy)
  (Ztw ha.den hb.den (Zcf h6 la) (Zcf h6 lb) Qfw Qfx Qfy Qfv) (Qbc (fun x hx=>Zme (GP _ (Qm hx).1)) (Zcf h6 la) aM) hr
theorem Qad{la lb:List Rat}(q r:Int)(h:la.length=lb.length):LN.subQ r la lb=List.zipWith (· + ·) (LN.subQ q la lb) (lb.map fun x=>(((q-r:Int)):Rat)*x):=by
 obtain⟨m,hm⟩:∃ m:Rat,(((q-r:Int)):Rat)=m:=⟨_,rfl⟩;have e:=Rat.intCast_sub q r;rw[hm] at e ⊢;clear hm;refine List.ext_getElem (by simp[LN.subQ,h]) fun i h1 h2=>?_
 simp only[LN.subQ,List.getElem_zipWith,List.getElem_map]
 grind
theorem Zx8{ps:List Int}{a b c:List Rat}(hp:∀ p∈ps,0<p)(G2:a.length=b.length)(hc:c=List.zipWith (· + ·) a b):(LN.sz ps a<0->LN.sz ps b<=0->LN.sz ps c<0)/\(0<LN.sz ps a->0<=LN.sz ps b->0<LN.sz ps c):=by
 obtain⟨x,y,hx,hy,e1,e2,e3⟩:=LN.sz_sum hp G2 hc;rw[e1,e2,e3];constructor
 ·intro h1 h2;have h3:LN.sg x = -1:=by rcases LN.sg_cases x with h | h | h<;>omega
  rw[LN.sg_low.2 (LN.mul_lt_one hx (LN.sg_low.1 h3) (LN.sg_le.1 h2))];decide
 ·intro h1 h2;have h3:LN.sg x=1:=by rcases LN.sg_cases x with h | h | h<;>omega
  rw[LN.sg_pos.2 (LN.one_lt_mul (LN.sg_pos.1 h3) (LN.sg_ge.1 h2))];decide
theorem szc{ps:List Int}(hp:∀ p∈ps,0<p)(l:List Rat):LN.sz ps l=1\/LN.sz ps l=0\/LN.sz ps l = -1:=by
 rw[LN.sz_of_vt hp];exact LN.sg_cases _
theorem Zrm{ps:List Int}{la lb:List Rat}(hp:∀ p∈ps,0<p)(hl:la.length=lb.length){q r:Int}(hq:LN.FloorOf ps la lb q)(hr:LN.FloorOf ps la lb r):r<=q:=by
 refine Int.not_lt.1 fun gd=>?_
 have h1:=hq.2;have h2:=hr.1;have e:=Qad (q+1) r hl (la:=la) (lb:=lb);have gh:(LN.subQ (q+1) la lb).length=(lb.map fun x=>(((q+1-r:Int)):Rat)*x).length:=by simp[LN.subQ,hl]
 obtain⟨k1,k2⟩:=Zx8 hp gh e;rw[LN.sz_mul hp] at k1 k2;have hs:(((q+1-r:Int)):Rat).num.sign=(q+1-r).sign:=by rw[Rat.num_intCast]
 rw[hs] at k1 k2;have hn:(q+1-r).sign = -1\/(q+1-r).sign=0:=by
  rcases Kv (q+1-r) with h|h|h
  ·exact .inl h.2
  ·exact .inr h.2
  ·omega
 rcases szc hp lb with hw|hw|hw
 ·rw[hw] at h1 h2 k1;have:=k1 (by omega) (by rcases hn with h | h<;>rw[h]<;>decide)
  omega
 ·rw[hw] at h1;omega
 ·rw[hw] at h1 h2 k2;have:=k2 (by omega) (by rcases hn with h | h<;>rw[h]<;>decide)
  omega
theorem Znb{ps:List Int}{la lb:List Rat}(hp:∀ p∈ps,0<p)(hl:la.length=lb.length){q r:Int}(hq:LN.FloorOf ps la lb q)(hr:LN.FloorOf ps la lb r):q=r:=by
 have h1:=Zrm hp hl hq hr;have h2:=Zrm hp hl hr hq;omega
theorem Zhm(w:World)(ps:List Int)(a0 a1 a2:OA_)(c0 c1 c2 D E:Nat)(la lb:List Rat)(A:Vj w ps a0 a1 la D)(B:Vj w ps a0 a2 lb D)(hD0:0<D)(F:Zud ps la lb E)(L:Qg w){q:Int}(hq:LN.FloorOf ps la lb q):
  Kc Tryz.prog 181 #[.slice a0 ps.length c0,.slice a1 la.length c1,.slice a2 lb.length c2] w (.string (itx q)):=by
 refine Calls.mono (Zwm w ps a0 a1 a2 c0 c1 c2 D E la lb A B hD0 F L) ?_;rintro e w' ⟨⟨r,rfl,hr⟩,hb⟩;rw[Znb (Zb8 F.pr) (A.len.trans B.len.symm) hq hr];exact⟨rfl,hb⟩
theorem Zc7(f:Int->Nat)(D:Nat)(p:Int)(ps:List Int)(q:Rat)(l:List Rat):LN.sumT f (Kr D (p::ps) (q::l))=LN.ex D q*f p+LN.sumT f (Kr D ps l):=by
 unfold Kr;rw[List.zip_cons_cons,List.filterMap_cons]
 by_cases h:q.num=0
 ·simp only[h,if_true];rw[LN.ex_zero q h,Int.zero_mul,Int.zero_add]
 ·simp only[h,if_false];rfl
theorem Zwq{D:Nat}{a b:Rat}(q:Int)(hD:0<D)(ha:a.den ∣ D)(hb:b.den ∣ D):(a+(-(q:Rat))*b).den ∣ D/\LN.ex D (a+(-(q:Rat))*b)=LN.ex D a-q*LN.ex D b:=by
 refine Zrr _ hD ?_;rw[Rat.intCast_sub,Rat.intCast_mul,LN.ex_eq ha,LN.ex_eq hb]
 grind
theorem Zqp(f:Int->Nat)(D:Nat)(hD:0<D)(q:Int):∀ (ps:List Int) (la lb:List Rat),la.length=lb.length->(∀ x∈la,x.den ∣ D)->(∀ x∈lb,x.den ∣ D) ->
  LN.sumT f (Kr D ps (LN.subQ q la lb))=LN.sumT f (Kr D ps la)-q*LN.sumT f (Kr D ps lb)
 | [],_,_,_,_,_=>by simp[Kr,LN.sumT]
 | _::_,[],[],_,_,_=>by simp[Kr,LN.sumT,LN.subQ]
 | p::ps,a::la,b::lb,hl,h1,h2=>by
  have ih:=Zqp f D hD q ps la lb (by simpa using hl) (fun x hx=>h1 x (List.mem_cons_of_mem _ hx)) fun x hx=>h2 x (List.mem_cons_of_mem _ hx)
  have e:LN.subQ q (a::la) (b::lb)=(a+(-(q:Rat))*b)::LN.subQ q la lb:=rfl;rw[e,Zc7,Zc7,Zc7,ih,(Zwq q hD (h1 a List.mem_cons_self) (h2 b List.mem_cons_self)).2]
  grind
theorem Ziw(f:Int->Nat)(m D:Nat):∀ (ps:List Int) (l:List Rat),(∀ x∈l,x.den ∣ D)->LN.sumT f (Kr (m*D) ps l)=(m:Int)*LN.sumT f (Kr D ps l)
 | [],_,_=>by simp[Kr,LN.sumT]
 | _::_,[],_=>by simp[Kr,LN.sumT]
 | p::ps,q::l,h=>by
  have ih:=Ziw f m D ps l fun x hx=>h x (List.mem_cons_of_mem _ hx)
  rw[Zc7,Zc7,ih,LN.ex_mul (h q List.mem_cons_self)]
  grind
theorem Zn6{ps:List Int}{l:List Rat}{M:Nat}(g:Zh9 ps l)(hn:ps.length<=100)(hM:0<M)(h:∀ q∈l,q.den ∣ M):
  (0<LN.sumT (lf 1024) (Kr M ps l)->LN.sz ps l=1)/\(LN.sumT (lf 1024) (Kr M ps l)<0->LN.sz ps l = -1):=by
 obtain⟨m,hm⟩:=LN.tden_min h;have di:0<m:=by
  rcases Nat.eq_zero_or_pos m with h0|h0
  ·rw[h0,Nat.mul_zero] at hm;omega
  ·exact h0
 have e:LN.sumT (lf 1024) (Kr M ps l)=(m:Int)*LN.sumT (lf 1024) (tlQ ps l):=by
  rw[hm,Nat.mul_comm];exact Ziw _ _ _ _ _ fun q hq=>LN.tden_dvd hq
 rw[e];obtain⟨y1,y2,_,_⟩:=Zdc (lf 1024) Kb (tlQ ps l) g.kb;have hz:LN.sz ps l=LN.signT (tlQ ps l):=rfl
 by_cases gm:tlQ ps l=[]
 ·rw[gm]
  show (0<(m:Int)*0->_)/\((m:Int)*0<0->_)
  rw[Int.mul_zero];exact⟨fun h=>absurd h (by decide),fun h=>absurd h (by decide)⟩
 ·generalize LN.sumT (lf 1024) (tlQ ps l)=s at *;rcases g.dec hn gm with h|h
  ·have h1:=Zi2 g.trt (by decide) gm h;have h2:0<=(m:Int)*s:=Int.mul_nonneg (by omega) (by omega);exact⟨fun _=>hz.trans h1,fun h3=>by omega⟩
  ·have h1:=Zi3 g.trt (by decide) gm h;have h2:(m:Int)*s<=0:=Int.mul_nonpos_of_nonneg_of_nonpos (by omega) (by omega);exact⟨fun h3=>by omega,fun _=>hz.trans h1⟩
theorem Zjs{ps:List Int}{la lb:List Rat}(hp:∀ p∈ps,0<p)(hl:la.length=lb.length){q r:Int}(hqr:r<=q)(h:0<=LN.sz ps (LN.subQ q la lb)*LN.sz ps lb):0<=LN.sz ps (LN.subQ r la lb)*LN.sz ps lb:=by
 have e:=Qad q r hl (la:=la) (lb:=lb);have gh:(LN.subQ q la lb).length=(lb.map fun x=>(((q-r:Int)):Rat)*x).length:=by simp[LN.subQ,hl]
 have hm:LN.sz ps (lb.map fun x=>(((q-r:Int)):Rat)*x)=(q-r).sign*LN.sz ps lb:=by
  rw[LN.sz_mul hp,Rat.num_intCast]
 have hn:(q-r).sign=1\/(q-r).sign=0:=by
  rcases Kv (q-r) with h|h|h
  ·omega
  ·exact .inr h.2
  ·exact .inl h.2
 rcases szc hp lb with hw|hw|hw
 ·rw[hw] at h hm ⊢;have:=LN.sz_add_ge hp gh e (by omega) (by rw[hm];rcases hn with h | h<;>rw[h]<;>decide)
  omega
 ·rw[hw];omega
 ·rw[hw] at h hm ⊢;have:=LN.sz_add_le hp gh e (by omega) (by rw[hm];rcases hn with h | h<;>rw[h]<;>decide)
  omega
theorem floor_le{ps:List Int}{la lb:List Rat}(hp:∀ p∈ps,0<p)(hn:ps.length<=100)(hl:la.length=lb.length){M:Nat}(hM:0<M)(da:∀ x∈la,x.den ∣ M)(db:∀ x∈lb,x.den ∣ M)(gb:Zh9 ps lb){Q:Int}
  (g1:Zh9 ps (LN.subQ Q la lb)) (g2:Zh9 ps (LN.subQ (-Q) la lb)) (hU1:LN.sumT (lf 1024) (Kr M ps la)<Q*((LN.sumT (lf 1024) (Kr M ps lb)).natAbs:Int)) (hU2 : -(Q*((LN.sumT (lf 1024) (Kr M ps lb)).natAbs:Int))<LN.sumT (lf 1024) (Kr M ps la))
  {q:Int} (hf:LN.FloorOf ps la lb q) : -Q-1<=q/\q<Q:=by
 have AC:∀ (r:Int),∀ x∈LN.subQ r la lb,x.den ∣ M:=by
  intro r x hx;unfold LN.subQ at hx;obtain⟨i,hi,rfl⟩:=List.mem_iff_getElem.1 hx;rw[List.getElem_zipWith];exact(Zwq r hM (da _ (List.getElem_mem _)) (db _ (List.getElem_mem _))).1
 obtain⟨b1,b2⟩:=Zn6 gb hn hM db;obtain⟨c1,c2⟩:=Zn6 g1 hn hM (AC Q);obtain⟨d1,d2⟩:=Zn6 g2 hn hM (AC (-Q));rw[Zqp _ _ hM _ _ _ _ hl da db] at c1 c2 d1 d2;rw[Int.neg_mul] at d1 d2;generalize LN.sumT (lf 1024) (Kr M ps la)=A at *;generalize LN.sumT (lf 1024) (Kr M ps lb)=B at *;have Ge:LN.sz ps (LN.subQ Q la lb)*LN.sz ps lb<0/\0<=LN.sz ps (LN.subQ (-Q) la lb)*LN.sz ps lb:=by
  rcases Int.lt_trichotomy B 0 with hB|hB|hB
  ·rw[show ((B.natAbs:Nat):Int) = -B by omega,Int.mul_neg] at hU1 hU2;rw[b2 hB,c1 (by omega),d2 (by omega)];decide
  ·rw[hB] at hU1 hU2;simp only[Int.natAbs_zero,Int.natCast_zero,Int.mul_zero] at hU1 hU2;omega
  ·rw[show ((B.natAbs:Nat):Int)=B by omega] at hU1 hU2;rw[b1 hB,c2 (by omega),d1 (by omega)];decide
 refine⟨Int.not_lt.1 fun h=>?_,Int.not_le.1 fun h=>?_⟩
 ·have h1:=Zjs hp hl (q := -Q) (r:=q+1) (by omega) Ge.2;have h2:=hf.2;omega
 ·have h1:=Zjs hp hl h hf.1;have h2:=Ge.1;omega
/-! The numbers of the law. -/
def QC:Nat:=2^61
def Zly (w:World) (B:Nat) (a:OA_) (c:Nat) (l:List Int):Prop:=w.ownsRow B 3 1 (.slice a l.length c) l.length (Qw l)
theorem Zly.rd{w:World}{B c:Nat}{a:OA_}{l:List Int}(h:Zly w B a c l):Rd w a (Qw l):=Zvm h
theorem Zly.below{w w':World}{B c:Nat}{a:OA_}{l:List Int}(h:Zly w B a c l){D:Nat}(hb:Below D w w')(hD:w.heap.size<=D):Zly w' B a c l:=Yg h hb hD
theorem Zly.nil(w:World)(B:Nat):Zly w B none 0 []:=World.ownsRow_nil w B _ 1
def Xs (xs:List Int):Prop:=∀ x∈xs,-1000<=x/\x<=1000
theorem Qer(x:Int):LN.ex 1 (x:Rat)=x:=by
 unfold LN.ex;rw[Rat.num_intCast,Rat.den_intCast];simp
theorem Qc2{p:Int}(h:p∈Zd1):2<=p/\p<=97:=by
 have Ge:∀ q∈Zd1,2<=q/\q<=97:=by decide
 exact Ge p h
structure Qa8 (ps:List Int):Prop where
 p0:Vd ps=0
 all:∀ p∈ps,p∈Zd1
 nd:ps.Nodup
 n0:0<ps.length
 n6:ps.length<=6
theorem Qa8.pr{ps:List Int}(P:Qa8 ps):∀ p∈ps,2<=p/\p<=97:=fun p hp=>Qc2 (P.all p hp)
theorem Qa8.pos{ps:List Int}(P:Qa8 ps):∀ p∈ps,0<p:=fun p hp=>by have:=P.pr p hp;omega
theorem Qa8.i64{ps:List Int}(P:Qa8 ps):Zgm ps:=fun p hp=>by have:=P.pr p hp;omega
def rq (x:List Int):List Rat:=x.map fun x:Int=>(x:Rat)
def Bd (N:Nat) (x:List Int):Prop:=∀ a∈x,a.natAbs<=N
theorem Bd.le{N K:Nat}{x:List Int}(h:Bd N x)(hK:N<=K):Bd K x:=fun a ha=>Nat.le_trans (h a ha) hK
theorem Bd.sml{N:Nat}{x:List Int}(h:Bd N x):Sml N 1 (rq x):=fun q hq=>by
 obtain⟨a,ha,rfl⟩:=List.mem_map.1 hq;refine⟨by rw[Rat.den_intCast];exact Nat.dvd_refl 1,?_⟩;rw[Qer];exact h a ha
theorem Bd.sm{N D:Nat}{x:List Int}(h:Bd N x)(hD:N<10^D)(h1:1<10^D):∀ q∈rq x,Sm D q:=fun q hq=>by
 obtain⟨a,ha,rfl⟩:=List.mem_map.1 hq;exact⟨by rw[Rat.num_intCast];exact Nat.lt_of_le_of_lt (h a ha) hD,by rw[Rat.den_intCast];exact h1⟩
theorem Xs.bd{x:List Int}(h:Xs x):Bd 1000 x:=fun a ha=>by have:=h a ha;omega
theorem Sml.goodA{N M:Nat}{ps:List Int}{l:List Rat}(hM:0<M)(h:Sml N M l)(hN:N<=Ke)(P:Qa8 ps):Zh9 ps l :=
 Zh9.all P.all P.nd fun x hx=>Nat.le_trans (h.kb hM x hx) hN
theorem Bd.good{N:Nat}{x ps:List Int}(h:Bd N x)(hN:N<=Ke)(P:Qa8 ps):Zh9 ps (rq x):=(h.sml).goodA (by decide) hN P
def Zlu (p n:Int):Int:=if Zuh p then (if n<0\/1000<n then 3 else 0) else 25
theorem Qej{p:Int}(h:Zuh p):2<=p/\p<=97:=by
 obtain⟨h0,h1,h2,-⟩:=h;omega
theorem Zh0(w:World)(p n:Int)(p0 : -9223372036854775808<=p)(p1:p<=9223372036854775807)(n0 : -9223372036854775808<=n)(n1:n<=9223372036854775807):
  Kc Tryz.prog 185 #[.int .i64 p,.int .i64 n] w (.int .i64 (Zlu p n)):=by
 unfold Kc;have HP:=hd_ (Zfv w p p0 p1)
 by_cases h:Zuh p
 ·rw[decide_eq_true h] at HP;have Hv:Hid (Zlu p n=if n<0\/1000<n then 3 else 0):=by show _=_;unfold Zlu;rw[if_pos h]
  generalize Zlu p n=v at *;clear h
  by_cases h1:n<0
  ·have El:Hid (v=3):=by show _=_;rw[Hv.o,if_pos (.inl h1)]
   clear Hv;go_enter Tryz.func185,Tryz.ntmps185;go_wp2_with fail;refine cm_ HP.o ?_;rintro e w1 ⟨rfl,hb⟩;have B1:=hd_ hb;clear hb HP;go_wp2_with fail;go_ret;exact⟨by rw[El.o];rfl,B1.o⟩
  ·by_cases h2:1000<n
   ·have El:Hid (v=3):=by show _=_;rw[Hv.o,if_pos (.inr h2)]
    clear Hv;go_enter Tryz.func185,Tryz.ntmps185;go_wp2_with fail;refine cm_ HP.o ?_;rintro e w1 ⟨rfl,hb⟩;have B1:=hd_ hb;clear hb HP;go_wp2_with fail;go_ret;exact⟨by rw[El.o];rfl,B1.o⟩
   ·have El:Hid (v=0):=by show _=_;rw[Hv.o,if_neg (by omega)]
    clear Hv;go_enter Tryz.func185,Tryz.ntmps185;go_wp2_with fail;refine cm_ HP.o ?_;rintro e w1 ⟨rfl,hb⟩;have B1:=hd_ hb;clear hb HP;go_wp2_with fail;go_ret;exact⟨by rw[El.o];rfl,B1.o⟩
 ·rw[decide_eq_false h] at HP;have El:Hid (Zlu p n=25):=by show _=_;unfold Zlu;rw[if_neg h]
  generalize Zlu p n=v at *;clear h;go_enter Tryz.func185,Tryz.ntmps185;go_wp2_with fail;refine cm_ HP.o ?_;rintro e w1 ⟨rfl,hb⟩;have B1:=hd_ hb;clear hb HP;go_wp2_with fail;go_ret;exact⟨by rw[El.o];rfl,B1.o⟩
def Qga (p n:Int) (s:ByteArray):Value := .agg #[.int .i64 p,.int .i64 n,.string s]
theorem Zq0(w:World)(n:Nat)(hn:n<=4000)(L:Qg w):Kc Tryz.prog 203 #[.int .i64 n] w (.string (dec (2^n))):=by
 unfold Kc;have HP:=hd_ (Zx1 w n hn L);generalize dec (2^n)=s at *;go_enter Tryz.func203,Tryz.ntmps203;go_wp2_with fail;refine cm_ HP.o ?_;rintro e w1 ⟨rfl,hb⟩;have B1:=hd_ hb;clear hb HP;go_wp2_with fail;go_ret;exact⟨rfl,B1.o⟩
theorem Zfq{w0 w:World}{B g:Nat}{a b c:Value}(x y z:Value)(k0:w.cell? ⟨g,0,none⟩=some a)(k1:w.cell? ⟨g,1,none⟩=some b)(k2:w.cell? ⟨g,2,none⟩=some c)(hB:B<=g)(hb:Below B w0 w):
  (((w.setCell ⟨g,0,none⟩ x).setCell ⟨g,1,none⟩ y).setCell ⟨g,2,none⟩ z).cell? ⟨g,0,none⟩=some x/\(((w.setCell ⟨g,0,none⟩ x).setCell ⟨g,1,none⟩ y).setCell ⟨g,2,none⟩ z).cell? ⟨g,1,none⟩=some y/\(((w.setCell ⟨g,0,none⟩ x).setCell ⟨g,1,none⟩ y).setCell ⟨g,2,none⟩ z).cell? ⟨g,2,none⟩=some z /\
  Below B w0 (((w.setCell ⟨g,0,none⟩ x).setCell ⟨g,1,none⟩ y).setCell ⟨g,2,none⟩ z):=by
 refine⟨?_,?_,?_,?_⟩
 ·rw[World.cell?_setCell_other _ _ _ _ (by simp),World.cell?_setCell_other _ _ _ _ (by simp),World.cell?_setCell_same _ _ _ k0]
 ·rw[World.cell?_setCell_other _ _ _ _ (by simp),World.cell?_setCell_same _ _ _ (by rw[World.cell?_setCell_other _ _ _ _ (by simp)];exact k1)]
 ·rw[World.cell?_setCell_same _ _ _ (by rw[World.cell?_setCell_other _ _ _ _ (by simp),World.cell?_setCell_other _ _ _ _ (by simp)];exact k2)]
 ·exact((hb.setCell (p:=⟨g,0,none⟩) hB x).setCell (p:=⟨g,1,none⟩) hB y).setCell (p:=⟨g,2,none⟩) hB z
theorem Qev(w:World)(p n:Nat)(hp:p=2\/p∈Za4)(dF:Zuh p)(hn:n<=1000)(L:Qg w):
  Kc Tryz.prog 105 #[.int .i64 p,.int .i64 n] w (.tuple #[Qga p n (dec (lgN p n)),.int .i64 0]):=by
 unfold Kc Qga;have gC:=hd_ ((Below.refl w.heap.size w).alloc nr_ (.cells #[.int .i64 0,.int .i64 0,.string ⟨#[]⟩] 124));have gi:Hid ((w.alloc (.cells #[.int .i64 0,.int .i64 0,.string ⟨#[]⟩] 124)).heap[w.heap.size]?=some (.cells #[.int .i64 0,.int .i64 0,.string ⟨#[]⟩] 124 (0,0))):=heap_alloc_new w _;have Is:=Qej dF;have HC:=hd_ (fun W=>Zh0 W p n (by omega) (by omega) (by omega) (by omega));have Gu:Zlu p n=0:=by unfold Zlu;rw[if_pos dF,if_neg (by omega)]
 rw[Gu] at HC;have mV:=hd_ (fun W (hW:Bw_ w W)=>Zrw W p n hp hn (L.below hW));clear Gu hp dF L Is hn;generalize dec (lgN p n)=s at *;go_enter Tryz.func105,Tryz.ntmps105;go_wp2_with fail;generalize w.alloc (.cells #[.int .i64 0,.int .i64 0,.string ⟨#[]⟩] 124)=W0 at *;refine cm_ (HC.o _) ?_;rintro e w1 ⟨rfl,hb⟩;have B1:=hd_ hb;have BH:=bt_ gC hb;clear hb HC;go_wp2_with fail;refine cm_ (mV.o _ BH.o) ?_;rintro e w2 ⟨rfl,hb⟩;have B2:=bt_ B1 hb;have gw:Hid (w2.heap[w.heap.size]?=some (.cells #[.int .i64 0,.int .i64 0,.string ⟨#[]⟩] 124 (0,0))):=by
  show _=_
  rw[B2.o.block _ (Array.getElem?_eq_some_iff.1 gi.o).1];exact gi.o
 have gY:=bt_ BH hb;obtain⟨k0,k1,k2,kf⟩:=Qh gw.o;have f0:=kf 0;have f1:=kf 1;have f2:=kf 2;clear hb mV kf gw gi gC B1 B2 BH;go_wp2;obtain⟨c0,c1,c2,hb3⟩:=Zfq (.int .i64 p) (.int .i64 n) (.string s) k0 k1 k2 nr_ gY.o;generalize ((w2.setCell ⟨w.heap.size,0,none⟩ (.int .i64 p)).setCell ⟨w.heap.size,1,none⟩ (.int .i64 n)).setCell ⟨w.heap.size,2,none⟩ (.string s)=w9 at *;exact bodyPost_ret (v := .tuple #[.agg #[.int .i64 p,.int .i64 n,.string s],.int .i64 0]) (by simp[results,Tryz.results105,go_sem,c0,c1,c2]) rfl ⟨rfl,hb3⟩
theorem Zrt(n:Nat):∀ (ps:List Int) (l:List Rat) (p:Int) (c:Rat),ps.length=l.length ->
  loE n (ps++[p]) (l++[c])=loE n ps l+Zf5 (c*xE p n) (c*yE p n)/\hiE n (ps++[p]) (l++[c])=hiE n ps l+Zf6 (c*xE p n) (c*yE p n)
 | [],[],p,c,_=>by
  show _+(0:Rat)=0+_/\_+(0:Rat)=0+_
  rw[Rat.add_zero,Rat.zero_add,Rat.add_zero,Rat.zero_add];exact⟨rfl,rfl⟩
 | [],_::_,_,_,h=>by simp at h
 | _::_,[],_,_,h=>by simp at h
 | q::ps,d::l,p,c,h=>by
  obtain⟨i1,i2⟩:=Zrt n ps l p c (by simpa using h);simp only[List.cons_append,loE,hiE];rw[i1,i2,Rat.add_assoc,Rat.add_assoc];exact⟨rfl,rfl⟩
theorem Znc(n:Nat)(ps:List Int)(l:List Rat)(k:Nat)(h:l.length=ps.length)(h1:k<ps.length)(h2:k<l.length):
  loE n (ps.take (k+1)) (l.take (k+1))=loE n (ps.take k) (l.take k)+Zf5 (l[k]*xE ps[k] n) (l[k]*yE ps[k] n) /\
  hiE n (ps.take (k+1)) (l.take (k+1))=hiE n (ps.take k) (l.take k)+Zf6 (l[k]*xE ps[k] n) (l[k]*yE ps[k] n):=by
 have e1:ps.take (k+1)=ps.take k++[ps[k]]:=by rw[List.take_add_one,List.getElem?_eq_getElem h1];rfl
 have e2:l.take (k+1)=l.take k++[l[k]]:=by rw[List.take_add_one,List.getElem?_eq_getElem h2];rfl
 rw[e1,e2];exact Zrt n _ _ _ _ (by simp;omega)
theorem Zwu(n:Nat)(p:Int):Zf5 ((0:Rat)*xE p n) (0*yE p n)=0/\Zf6 ((0:Rat)*xE p n) (0*yE p n)=0:=by
 rw[Rat.zero_mul,Rat.zero_mul];exact⟨rfl,rfl⟩
theorem Zhe{D:Nat}{a b:Rat}(ha:Sm D a)(hb:Sm D b):Sm D (Zf5 a b):=by unfold Zf5;split<;>assumption
theorem Zhf{D:Nat}{a b:Rat}(ha:Sm D a)(hb:Sm D b):Sm D (Zf6 a b):=by unfold Zf6;split<;>assumption
theorem Zir(n D:Nat)(h:n<=3*D):2^n<=10^D:=by
 refine Nat.le_trans (Nat.pow_le_pow_right (by decide) h) ?_;rw[Nat.pow_mul];exact Nat.pow_le_pow_left (by decide) D
theorem Qdh{p:Int}{n:Nat}(hp:∃ q:Nat,p=q/\(q=2\/q∈Za4))(hn:n<=1056):Sm 355 (xE p n)/\Sm 355 (yE p n):=by
 obtain⟨h1,h2⟩:=Qca hp hn;obtain⟨D,hD⟩:∃ D,D=354:=⟨_,rfl⟩;have e:2^(n+3)<=10^D:=Zir _ _ (by omega);have e2:2^n<=10^D:=Zir _ _ (by omega);have e3:(10:Nat)^(D+1)=10^D*10:=Nat.pow_succ ..;have h0:0<(10:Nat)^D:=Nat.pow_pos (by decide);have FV:lgN p n<2^(n+3):=h1;rw[show 355=D+1 by omega];unfold xE yE
 by_cases h:p=2
 ·rw[if_pos h,if_pos h];have:Sm 1 (1:Rat):=⟨by decide,by decide⟩
  exact⟨this.le (by omega),this.le (by omega)⟩
 ·rw[if_neg h,if_neg h];generalize 10^D=T at *;generalize 2^(n+3)=U at *;have hz:2^n≠0:=Nat.ne_of_gt (Nat.two_pow_pos n);exact⟨Sm.mk' hz (by rw[Int.natAbs_natCast,e3];omega) (by rw[e3];omega),Sm.mk' hz (by rw[Int.natAbs_natCast,e3];omega) (by rw[e3];omega)⟩
theorem Zlc{D n:Nat}(hn:n<=1056){ps:List Int}{l:List Rat}(hp:∀ p∈ps,∃ q:Nat,p=q/\(q=2\/q∈Za4))(hl:l.length=ps.length)(hs:∀ q∈l,Sm D q):
  ∀ k,k<=ps.length->Sm (1+k*(D+356)) (loE n (ps.take k) (l.take k))/\Sm (1+k*(D+356)) (hiE n (ps.take k) (l.take k))
 | 0,_=>by
  have:Sm 1 (0:Rat):=⟨by decide,by decide⟩
  rw[Nat.zero_mul];exact⟨this,this⟩
 | k+1,h=>by
  obtain⟨i1,i2⟩:=Zlc hn hp hl hs k (by omega);obtain⟨e1,e2⟩:=Znc n ps l k hl (by omega) (by omega);obtain⟨s1,s2⟩:=Qdh (hp _ (List.getElem_mem (show k<ps.length by omega))) hn;have hc:=hs _ (List.getElem_mem (show k<l.length by omega));rw[e1,e2,show 1+(k+1)*(D+356)=1+k*(D+356)+(D+355)+1 by rw[Nat.add_mul];omega];exact⟨i1.add (Zhe (hc.mul s1) (hc.mul s2)),i2.add (Zhf (hc.mul s1) (hc.mul s2))⟩
/-! The least number of bits. -/
structure Zcy (T:Nat->Bool) (n:Nat):Prop where
 at_:T n=true
 low:n=0\/T (n-1)=false
 le:n<=1000
theorem Qaf{T:Nat->Bool}(hm:∀ n,n<1000->T n=true->T (n+1)=true):∀ d n,n+d<=1000->T n=true->T (n+d)=true
 | 0,_,_,h=>h
 | d+1,n,hd,h=>hm (n+d) (by omega) (Qaf hm d n (by omega) h)
theorem Zcy.uniq{T:Nat->Bool}(hm:∀ n,n<1000->T n=true->T (n+1)=true){n m:Nat}(h1:Zcy T n)(h2:Zcy T m):n=m:=by
 have Ge:∀ a b,Zcy T a->Zcy T b->¬ a<b:=fun a b ha hb hc=>by
  have h3:=Qaf hm (b-1-a) a (by have:=hb.le;omega) ha.at_;rw[show a+(b-1-a)=b-1 by omega] at h3;rcases hb.low with h4|h4
  ·omega
  ·rw[h3] at h4;cases h4
 have:=Ge n m h1 h2
 have:=Ge m n h2 h1
 omega
def Zv3 (B:Nat) (ps:List Int) (l:List Rat):List ByteArray:=(ps.zip l).map fun x=>if x.2.num=0 then ⟨#[]⟩ else dec (lgN x.1 B)
theorem Za(B:Nat)(ps:List Int)(l:List Rat)(h:l.length=ps.length):(Zv3 B ps l).length=ps.length:=by
 unfold Zv3;rw[List.length_map,List.length_zip,h,Nat.min_self]
theorem Zrd(B:Nat)(ps:List Int)(l:List Rat)(h:l.length=ps.length)(k:Nat)(h1:k<ps.length)(h2:k<l.length):(Zv3 B ps l).getD k ⟨#[]⟩=if l[k].num=0 then ⟨#[]⟩ else dec (lgN ps[k] B):=by
 unfold Zv3;rw[List.getD_eq_getElem?_getD,List.getElem?_map,List.getElem?_eq_getElem (by rw[List.length_zip];omega),List.getElem_zip];rfl
structure LgS (w:World) (R:Nat) (ps:List Int) (l:List Rat) (B:Nat) (a0:OA_) (c0:Nat) (a1:OA_) (c1:Nat) (a2:OA_) (c2:Nat):Prop where
 ob:w.heap[R]?=some (.cells #[.slice a0 ps.length c0,.slice a1 ps.length c1,.int .i64 B,.slice a2 ps.length c2] 197 (0,0))
 rp:Rd w a0 (Qw ps)
 rl:Rd w a1 (Km l)
 rs:Rd w a2 (Zd9 (Zv3 B ps l))
theorem LgS.below{w w':World}{R:Nat}{ps:List Int}{l:List Rat}{B:Nat}{a0 a1 a2:OA_}{c0 c1 c2:Nat}(h:LgS w R ps l B a0 c0 a1 c1 a2 c2)(hb:Bw_ w w'):LgS w' R ps l B a0 c0 a1 c1 a2 c2 :=
 ⟨by rw[hb.block R (Array.getElem?_eq_some_iff.1 h.ob).1];exact h.ob,h.rp.below hb nr_,h.rl.below hb nr_,h.rs.below hb nr_⟩
def Zqf (w:World) (R:Nat) (ps:List Int) (l:List Rat) (B:Nat):Prop:=∃ a0 c0 a1 c1 a2 c2,LgS w R ps l B a0 c0 a1 c1 a2 c2
theorem Zqf.below{w w':World}{R:Nat}{ps:List Int}{l:List Rat}{B:Nat}(h:Zqf w R ps l B)(hb:Bw_ w w'):Zqf w' R ps l B:=by
 obtain⟨a0,c0,a1,c1,a2,c2,S⟩:=h;exact⟨a0,c0,a1,c1,a2,c2,S.below hb⟩
theorem Zfd{w:World}{g:Nat}{a b c d:Value}{t:TypeId}(h:w.heap[g]?=some (.cells #[a,b,c,d] t (0,0))):
  w.cell? ⟨g,0,none⟩=some a/\w.cell? ⟨g,1,none⟩=some b/\w.cell? ⟨g,2,none⟩=some c/\w.cell? ⟨g,3,none⟩=some d/\(∀ j,w.frozen? ⟨g,j,none⟩=false):=by
 refine⟨by rw[cell_of_row w g 0 _ t (0,0) h];rfl,by rw[cell_of_row w g 1 _ t (0,0) h];rfl,by rw[cell_of_row w g 2 _ t (0,0) h];rfl,by rw[cell_of_row w g 3 _ t (0,0) h];rfl,fun j=>?_⟩;simp[World.frozen?,h]
theorem Zki(l:List ByteArray)(j:Nat)(h:j<l.length):(Zd9 l)[j]?=some (.string (l.getD j ⟨#[]⟩)):=by
 simp[Zd9,List.getD_eq_getElem?_getD,h]
theorem Qa5(w:World)(R:Nat)(ps:List Int)(l:List Rat)(B b k:Nat)(H:Zqf w R ps l B)(hl:l.length=ps.length)(hn:ps.length<=100)(hk:k<ps.length)(Gl:k<l.length)(hp:∃ q:Nat,ps[k]=q/\(q=2\/q∈Za4))(hz:l[k].num≠0)(hb:b<=B)(hB:B<=1000)(L:Qg w):
  Kc Tryz.prog 136 #[.pointer (some ⟨R,0,none⟩),.int .i64 k,.int .i64 b] w (.string (dec (lgN ps[k] b))):=by
 unfold Kc;obtain⟨a0,c0,a1,c1,a2,c2,S⟩:=H;obtain⟨k0,k1,k2,k3,-⟩:=Zfd S.ob;have gh:=Za B ps l hl;obtain⟨b2,o2,rfl,H7,Gm⟩:=S.rs.open (by rw[Zx,gh];omega);have ct:=Gm k _ (Zki _ k (by rw[gh];exact hk));rw[Zrd B ps l hl k hk Gl,if_neg hz] at ct;obtain⟨q,hq,gQ⟩:=hp;rw[hq] at ct ⊢;have hcut:lgN q B/2^(B-b)=lgN q b:=by
  have:=Zo8 gQ (B-b) (n:=b) (by omega)
  rwa [show b+(B-b)=B by omega] at this
 have hw:IntKind.i64.wrap ((B:Int)-b)=((B-b:Nat):Int):=by rw[show (B:Int)-b=((B-b:Nat):Int) by omega];exact iw_ _ (by omega)
 have HP:=hd_ (fun W (hW:Bw_ w W)=>Zq0 W (B-b) (by omega) (L.below hW));have gd:lgN q B<2^K10:=by
  refine Nat.lt_trans (Zv7 gQ (by omega)) ?_;refine Nat.lt_of_lt_of_le (Nat.mul_lt_mul_of_pos_right (show 7<2^3 by decide) (Nat.two_pow_pos B)) ?_;rw[<- Nat.pow_add];exact Nat.pow_le_pow_right (by decide) (by rw[k10];omega)
 have HD:=hd_ (fun W (hW:Bw_ w W)=>Qey W (lgN q B) (2^(B-b)) K10 (by decide) gd (Nat.pow_lt_pow_right (by decide) (by rw[k10];omega)) (Nat.two_pow_pos _) (L.below hW));rw[hcut] at HD;have jE:k<100:=by omega
 clear hcut gd S gh Gm L hz hl Gl gQ hq;generalize dec (lgN q B)=s at *;generalize dec (lgN q b)=s2 at *;generalize dec (lgN q B%2^(B-b))=s3 at *;generalize dec (2^(B-b))=s4 at *;generalize B-b=m at *;generalize ps.length=n at *;have q0:=NW.cell k3;have q1:=NW.cell k2;have q2:=NW.cell ct;have gj:Nonempty (NW w):=⟨⟨w,Below.refl _ _⟩⟩;have I:Hid (Bw_ w w.drew):=(Below.refl _ _).drew;clear k0 k1 k2 k3 ct;go_enter Tryz.func136,Tryz.ntmps136;go_wp2_with fail;refine wn_ 14 [(2,0),(2,1),(2,2),(1,3),(2,4),(2,5),(1,6),(2,7),(2,8),(2,9),(1,10),(2,11),(2,12),(0,13),(0,14),(2,15),(2,16),(2,17),(2,18),(2,19),(2,20),(2,21)] I ?_;iterate 3 (refine wa_ rfl ?_;go_big_quiet_step (fail);refine wq_ ?_)
 refine wr_ rfl ?_;go_big_quiet_step (fail);refine wq_ ?_;iterate 2 (refine wa_ rfl ?_;go_big_quiet_step (fail);refine wq_ ?_)
 refine wr_ rfl ?_;go_big_quiet_step (fail);refine wq_ ?_;iterate 3 (refine wa_ rfl ?_;go_big_quiet_step (fail);refine wq_ ?_)
 refine wr_ rfl ?_;go_big_quiet_step (fail);refine wq_ ?_;iterate 2 (refine wa_ rfl ?_;go_big_quiet_step (fail);refine wq_ ?_)
 clear gj q0 q1 q2;refine wm_ rfl ?_;go_wp2_with fail;refine cm_ (HP.o _ I.o) ?_;rintro e w1 ⟨rfl,HU⟩;have I1:Hid (Bw_ w w1):=I.o.trans (HU.mono I.o.size);clear HU I HP;go_wp2_with fail;refine⟨⟨⟨_,I1.o⟩,rfl⟩,?_⟩;refine wm_ rfl ?_;go_wp2_with fail;refine cm_ (HD.o _ I1.o) ?_;rintro e w2 ⟨rfl,HU⟩;have I2:Hid (Bw_ w w2):=I1.o.trans (HU.mono I1.o.size);clear HU I1 HD;go_wp2_with fail;iterate 7 (refine wa_ rfl ?_;go_big_quiet_step (fail);refine wq_ ?_)
 simp only[RP.walkR];go_wp2_with fail;go_ret;exact⟨rfl,I2.o⟩
def Zfl (w:World) (B:Nat) (a:OA_) (c:Nat) (l:List ByteArray):Prop:=w.ownsRow B 38 1 (.slice a l.length c) l.length (Zd9 l)
theorem Qd3(n:Nat)(w:World)(hn:n<=10000000):
  (Instr.makeSlice 144 (.int .i64 (n:Int)) (.int .i64 (n:Int))).run Tryz.prog w = .ok (.slice (some ⟨w.heap.size,0,none⟩) n n) (w.alloc (.cells (Zd9 (List.replicate n ⟨#[]⟩)).toArray 38)):=by
 have:=run_make_row' (P:=Tryz.prog) 144 38 (.string ⟨#[]⟩) 16 Tryz.underlying144 Qek rfl .i64 .i64 n (by omega) (by omega) w
 rw[show madeCells #[.string ⟨#[]⟩] n=(Zd9 (List.replicate n ⟨#[]⟩)).toArray by apply Array.ext';rw[toList_madeCells_one];simp[Zd9]] at this;exact this
theorem Zvn(w:World)(l:List ByteArray)(hl:l.length<=100000000):Zfl (w.alloc (.cells (Zd9 l).toArray 38)) w.heap.size (some ⟨w.heap.size,0,none⟩) l.length l :=
 ⟨by simp[Zx],.inr ⟨w.heap.size,l.length,(Zd9 l).toArray,rfl,Nat.le_refl _,heap_alloc_new _ _,Nat.le_refl _,by unfold maxLen;omega,by simp[Zx],by rw[Nat.mul_one];exact List.take_of_length_le (by simp[Zx])⟩⟩
theorem Zfl.open{w:World}{B c:Nat}{a:OA_}{l:List ByteArray}(h:Zfl w B a c l)(hn:0<l.length):
  ∃ g,a=some ⟨g,0,none⟩/\B<=g/\g<w.heap.size/\l.length<=c/\(∀ j,j<l.length->w.cell? ⟨g,j,none⟩=some (.string (l.getD j ⟨#[]⟩)))/\(∀ j,w.frozen? ⟨g,j,none⟩=false):=by
 obtain⟨g,cap,hv,h1,h2,h3,h4,h5⟩:=Ye h hn;simp only[Value.slice.injEq] at hv;obtain⟨rfl,-,rfl⟩:=hv;exact⟨g,rfl,h1,h2,h3,fun j hj=>by rw[h4 j (by omega),Zki l j hj],h5⟩
theorem Zfl.store{w:World}{B c g:Nat}{l:List ByteArray}(h:Zfl w B (some ⟨g,0,none⟩) c l)(j:Nat)(x:ByteArray):
  Zfl (w.setCell ⟨g,j,none⟩ (.string x)) B (some ⟨g,0,none⟩) c (l.set j x):=by
 have:=(World.ownsRow.stored h j (.string x)).1
 have e:(Zd9 l).set j (.string x)=Zd9 (l.set j x):=by simp[Zd9,List.map_set]
 rw[e] at this;unfold Zfl;rw[List.length_set];exact this
theorem Zfl.rd{w:World}{B:Nat}{a:OA_}{c:Nat}{l:List ByteArray}(h:Zfl w B a c l):Rd w a (Zd9 l):=by
 by_cases hn:0<l.length
 ·obtain⟨g,rfl,h1,h2,h3,h4,h5⟩:=h.open hn;refine .inr ⟨g,0,rfl,h2,fun i v hi=>?_⟩;have gd:=(List.getElem?_eq_some_iff.1 hi).1;rw[Zx] at gd;rw[Zki l i gd] at hi;rw[Nat.zero_add,<- hi];exact h4 i gd
 ·obtain rfl:=List.length_eq_zero_iff.1 (Nat.eq_zero_of_not_pos hn);exact .inl rfl
def Zo6 (B:Nat) (ps:List Int) (l:List Rat) (k:Nat):List ByteArray:=(Zv3 B ps l).take k++List.replicate (ps.length-k) ⟨#[]⟩
theorem Zo5(B:Nat)(ps:List Int)(l:List Rat)(h:l.length=ps.length)(k:Nat)(hk:k<=ps.length):(Zo6 B ps l k).length=ps.length:=by
 unfold Zo6;rw[List.length_append,List.length_take,Za B ps l h,List.length_replicate];omega
theorem Zy0(B:Nat)(ps:List Int)(l:List Rat)(h:l.length=ps.length)(k:Nat)(hk:k<ps.length):(Zo6 B ps l k).set k ((Zv3 B ps l).getD k ⟨#[]⟩)=Zo6 B ps l (k+1):=by
 have hl:((Zv3 B ps l).take k).length=k:=by rw[List.length_take,Za B ps l h];omega
 unfold Zo6;rw[List.set_append_right _ _ (by omega),hl,Nat.sub_self,List.take_add_one,List.getElem?_eq_getElem (by rw[Za B ps l h];exact hk),show ps.length-k=(ps.length-(k+1))+1 by omega,List.replicate_succ,List.set_cons_zero,List.append_assoc];congr 1;rw[List.getD_eq_getElem?_getD,List.getElem?_eq_getElem (by rw[Za B ps l h];exact hk)];rfl
theorem Qb7(B:Nat)(ps:List Int)(l:List Rat)(h:l.length=ps.length)(k:Nat)(hk:k<ps.length):(Zo6 B ps l k).getD k ⟨#[]⟩=⟨#[]⟩:=by
 have hl:((Zv3 B ps l).take k).length=k:=by rw[List.length_take,Za B ps l h];omega
 unfold Zo6;rw[List.getD_eq_getElem?_getD,List.getElem?_append_right (by omega),hl,List.getElem?_replicate];split<;>rfl
theorem Zy1(B:Nat)(ps:List Int)(l:List Rat)(h:l.length=ps.length):Zo6 B ps l ps.length=Zv3 B ps l:=by
 unfold Zo6;rw[Nat.sub_self,List.replicate_zero,List.append_nil,List.take_of_length_le (by rw[Za B ps l h];exact Nat.le_refl _)]
theorem Zv4(B:Nat)(ps:List Int)(l:List Rat):Zo6 B ps l 0=List.replicate ps.length ⟨#[]⟩:=by simp[Zo6]
structure OpI (w wr:World) (ps:List Int) (l:List Rat) (B k:Nat) (a0:OA_) (c0:Nat) (a1:OA_) (c1:Nat):Prop where
 ob:wr.heap[w.heap.size+1]?=some (.cells #[.slice a0 ps.length c0,.slice a1 ps.length c1,.int .i64 B,.slice (some ⟨w.heap.size,0,none⟩) ps.length ps.length] 197 (0,0))
 own:Zfl wr w.heap.size (some ⟨w.heap.size,0,none⟩) ps.length (Zo6 B ps l k)
 bel:Bw_ w wr
theorem Zjh(w:World)(ps:List Int)(l:List Rat)(B:Nat)(a0 a1:OA_)(c0 c1:Nat)(rp:Rd w a0 (Qw ps))(rl:Rd w a1 (Km l))(hl:l.length=ps.length)(hn:ps.length<=100)(hp:∀ p∈ps,∃ q:Nat,p=q/\(q=2\/q∈Za4))(hB:B<=1000)(L:Qg w):
  Calls Tryz.prog 120 #[.slice a0 ps.length c0,.slice a1 ps.length c1,.int .i64 B] w fun e w'=>∃ R,e = .returned (.pointer (some ⟨R,0,none⟩))/\Zqf w' R ps l B/\w.heap.size<=R/\Bw_ w w':=by
 have aH:=hd_ rp;have aI:=hd_ rl;have HL:=hd_ L;have Hl:=hd_ hl;have BA:=hd_ (fun (k:Nat) (hk:k<ps.length) (W:World) (hW:Bw_ w W)=>show Kc Tryz.prog 186 #[.int .i64 ps[k],.int .i64 B] W (.string (dec (lgN ps[k] B))) from by
  obtain⟨q,hq,gQ⟩:=hp _ (List.getElem_mem hk);rw[hq];exact Zrw W q B gQ hB (L.below hW))
 have Jz:=hd_ (fun k h1 h2=>Zrd B ps l hl k h1 h2);have By:=hd_ (fun k h=>Zy0 B ps l hl k h);have Ns:=hd_ (fun k h=>Qb7 B ps l hl k h);have fG:=hd_ (Zy1 B ps l hl);have EE:=hd_ (fun k h=>Zo5 B ps l hl k h);clear rp rl L hp;obtain⟨n,dH⟩:∃ n,ps.length=n:=⟨_,rfl⟩;have eA:=Qd3 n w (by omega);have gA:Hid (Zfl (w.alloc (.cells (Zd9 (List.replicate n ⟨#[]⟩)).toArray 38)) w.heap.size (some ⟨w.heap.size,0,none⟩) n (Zo6 B ps l 0)):=by
  have:=Zvn w (List.replicate n ⟨#[]⟩) (by simp;omega)
  rw[List.length_replicate] at this;rw[Zv4,dH];exact this
 have Hb:=hd_ ((Below.refl w.heap.size w).alloc nr_ (.cells (Zd9 (List.replicate n ⟨#[]⟩)).toArray 38));have GM:(w.alloc (.cells (Zd9 (List.replicate n ⟨#[]⟩)).toArray 38)).heap.size=w.heap.size+1:=by simp
 generalize w.alloc (.cells (Zd9 (List.replicate n ⟨#[]⟩)).toArray 38)=w1 at *;have Fj:Hid (OpI w (w1.alloc (.cells #[.slice a0 n c0,.slice a1 n c1,.int .i64 B,.slice (some ⟨w.heap.size,0,none⟩) n n] 197)) ps l B 0 a0 c0 a1 c1):=by
  refine⟨?_,?_,Hb.o.alloc (by omega) _⟩
  ·rw[<- GM,dH];exact heap_alloc_new w1 _
  ·rw[dH];exact(show Zfl _ _ _ _ _ from World.ownsRow.alloc gA.o _)
 have Hn:=hd_ dH;rw[dH];clear dH gA Hb;go_enter Tryz.func120,Tryz.ntmps120;go_wp2_with fail
 go_loopw [20] (fun i wr=>∃ k:Nat,k<=n/\i = .int .i64 k/\Hid (OpI w wr ps l B k a0 c0 a1 c1)) (fun i _=>n-(intOf i).toNat)
 case atStart=>exact⟨0,Nat.zero_le _,rfl,by rw[GM] at *;exact Fj⟩
 case round =>
  obtain⟨k,hk,rfl,HI⟩:=hrel;clear Fj
  by_cases gd:k<n
  ·have gu:(k:Int)<n:=by omega
   have G5:k<ps.length:=by rw[Hn.o];exact gd
   have Gl:k<l.length:=by rw[Hl.o];exact G5
   obtain⟨b0,o0,rfl,Gu,fZ⟩:=aH.o.open (by rw[Qn];omega);have cp:=fZ k _ (Zaf ps k G5);rw[<- HI.o.bel.cell (p:=⟨b0,o0+k,none⟩) Gu] at cp;obtain⟨b1,o1,rfl,HU,Ga⟩:=aI.o.open (by rw[Kw];omega);obtain⟨x0,x1⟩:=Qx Ga k (by rw[List.length_map];exact Gl);rw[Qu l k Gl] at x0 x1;rw[<- HI.o.bel.cell (p:=⟨b1,o1+k*2,none⟩) HU] at x0;rw[<- HI.o.bel.cell (p:=⟨b1,o1+k*2+1,none⟩) HU] at x1;have gI:=hd_ (fun W=>Zsy W l[k]);have Ac:IntKind.i64.wrap ((k:Int)+1)=((k+1:Nat):Int):=by rw[<- Int.natCast_succ];exact iw_ _ (by omega)
   have fR:=Jz.o k G5 Gl;have G3:=By.o k G5;have Ci:=Ns.o k G5;have fu:=hd_ (fun W (hW:Bw_ w W)=>BA.o k G5 W hW);have gh:=EE.o k (by rw[Hn.o];omega);clear fZ Ga;unfold fr fv at gI;unfold qs at x0 x1;generalize l[k]=q at *;generalize ps[k]=pk at *;simp only at x0 x1
   by_cases hz:q.num=0
   ·rw[hz] at gI;rw[if_pos hz] at fR;rw[fR] at G3;have gH:Zo6 B ps l (k+1)=Zo6 B ps l k:=by
     rw[<- G3];refine List.ext_getElem? fun i=>?_
     by_cases hi:k=i
     ·subst hi;rw[List.getElem?_set_self (by rw[gh];exact G5)];rw[List.getD_eq_getElem?_getD,List.getElem?_eq_getElem (by rw[gh];exact G5)] at Ci;rw[List.getElem?_eq_getElem (by rw[gh];exact G5)];exact congrArg some Ci.symm
     ·rw[List.getElem?_set_ne hi]
    rw[hz] at x0;have HS:=hd_ gH;clear fR G3 Ci gh gH hz fu;go_wp2_with fail;refine cm_ (gI.o _) ?_;rintro e w2 ⟨rfl,hb⟩;have gv:Hid (OpI w w2 ps l B (k+1) (some ⟨b0,o0,none⟩) c0 (some ⟨b1,o1,none⟩) c1) :=
     ⟨by rw[hb.block _ (Array.getElem?_eq_some_iff.1 HI.o.ob).1];exact HI.o.ob,by rw[HS.o];exact Yg HI.o.own hb nr_,HI.o.bel.trans (hb.mono HI.o.bel.size)⟩
    clear hb gI HI HS;go_wp2_with fail;refine⟨⟨k+1,by omega,by go_num,gv⟩,by simp[intOf];omega⟩
   ·rw[if_neg hz] at fR;rw[fR] at G3;have jl:(q.num.sign==0)=false:=by
     rw[beq_eq_false_iff_ne];intro h;exact hz (Int.sign_eq_zero_iff_zero.1 h)
    have Cr:(q.num.sign != 0)=true:=by
     rw[bne_iff_ne];intro h;exact hz (Int.sign_eq_zero_iff_zero.1 h)
    clear fR Ci gh hz;go_wp2_with fail;refine cm_ (gI.o _) ?_;rintro e w2 ⟨rfl,hb⟩;have gv:Hid (OpI w w2 ps l B k (some ⟨b0,o0,none⟩) c0 (some ⟨b1,o1,none⟩) c1) :=
     ⟨by rw[hb.block _ (Array.getElem?_eq_some_iff.1 HI.o.ob).1];exact HI.o.ob,Yg HI.o.own hb nr_,HI.o.bel.trans (hb.mono HI.o.bel.size)⟩
    clear hb gI HI x0 x1 cp jl;obtain⟨k0,k1,k2,k3,-⟩:=Zfd gv.o.ob;rw[Hn.o] at k3;have q0:=NW.cell k3;have gj:Nonempty (NW w2):=⟨⟨w2,Below.refl _ _⟩⟩;have I:Hid (Bw_ w2 w2.drew):=(Below.refl _ _).drew;clear k0 k1 k2 k3;go_wp2_with fail;refine wn_ 9 [(2,0),(2,1),(2,2),(1,3),(2,4),(2,5),(2,6),(0,7),(2,8),(0,9)] I ?_;iterate 3 (refine wa_ rfl ?_;go_big_quiet_step (fail);refine wq_ ?_)
    refine wr_ rfl ?_;go_big_quiet_step (fail);refine wq_ ?_;iterate 3 (refine wa_ rfl ?_;go_big_quiet_step (fail);refine wq_ ?_)
    clear gj q0;refine wm_ rfl ?_;go_wp2_with fail;refine cm_ (fu.o _ (gv.o.bel.trans (I.o.mono gv.o.bel.size))) ?_;rintro e w3 ⟨rfl,hb⟩;have I3:Hid (Bw_ w2 w3):=I.o.trans (hb.mono I.o.size);clear hb I fu;have gL:Hid (OpI w w3 ps l B k (some ⟨b0,o0,none⟩) c0 (some ⟨b1,o1,none⟩) c1) :=
     ⟨by rw[I3.o.block _ (Array.getElem?_eq_some_iff.1 gv.o.ob).1];exact gv.o.ob,Yg gv.o.own I3.o nr_,gv.o.bel.trans (I3.o.mono gv.o.bel.size)⟩
    obtain⟨g,hg,Fn,hg2,hg3,hg4,hg5⟩:=gL.o.own.open (by rw[EE.o k (by rw[Hn.o];omega)];omega);obtain rfl:w.heap.size=g:=by simpa using hg
    have oE:=hg4 k (by rw[EE.o k (by rw[Hn.o];omega)];exact G5);have lV:=hg5 k;clear hg hg3 hg4 hg5;have Gi:Hid (OpI w (w3.setCell ⟨w.heap.size,k,none⟩ (.string (dec (lgN pk B)))) ps l B (k+1) (some ⟨b0,o0,none⟩) c0 (some ⟨b1,o1,none⟩) c1) :=
     ⟨by rw[Below.heap_setCell _ _ _ _ (by show w.heap.size+1≠w.heap.size;omega)];exact gL.o.ob,by rw[<- G3];exact gL.o.own.store k _,gL.o.bel.setCell (p:=⟨w.heap.size,k,none⟩) nr_ _⟩
    go_wp2_with fail;refine⟨⟨⟨_,I3.o⟩,rfl⟩,?_⟩;clear I3 gv gL;refine wa_ rfl ?_;go_big_quiet_step (fail);refine wq_ ?_;refine wm_ rfl ?_;go_wp2_with fail;simp only[RP.walkR];go_wp2_with fail;refine⟨⟨k+1,by omega,by go_num,Gi⟩,by simp[intOf];omega⟩
  ·obtain rfl:k=n:=by omega
   have gu:¬ (k:Int)<k:=by omega
   have HR:Hid (Zqf wr (w.heap.size+1) ps l B):=by
    refine⟨a0,c0,a1,c1,some ⟨w.heap.size,0,none⟩,ps.length,HI.o.ob,aH.o.below HI.o.bel nr_,aI.o.below HI.o.bel nr_,?_⟩;have:=HI.o.own
    rw[<- Hn.o,fG.o,Hn.o] at this;have h2:Zfl wr w.heap.size (some ⟨w.heap.size,0,none⟩) ps.length (Zv3 B ps l):=by rw[Hn.o];exact this
    exact h2.rd
   go_wp2_with fail;go_ret;exact⟨w.heap.size+1,rfl,HR.o,Nat.le_succ _,HI.o.bel⟩
theorem Za1{w:World}{R:Nat}{x y x' y':Value}{t:TypeId}(h:w.heap[R]?=some (.cells #[x,y] t (0,0))):
  ((w.setCell ⟨R,0,none⟩ x').setCell ⟨R,1,none⟩ y').heap[R]?=some (.cells #[x',y'] t (0,0)):=by
 have gd:=lt_of_block h;have h':w.heap[R] = .cells #[x,y] t (0,0):=by simpa [Array.getElem?_eq_getElem gd] using h
 have e1:(w.setCell ⟨R,0,none⟩ x').heap[R]?=some (.cells #[x',y] t (0,0)):=by
  show (w.heap.modify R _)[R]?=_
  rw[Array.getElem?_eq_getElem (by simpa using gd),Array.getElem_modify_self,h'];rfl
 have Gf:=lt_of_block e1;have Ei:(w.setCell ⟨R,0,none⟩ x').heap[R] = .cells #[x',y] t (0,0):=by simpa [Array.getElem?_eq_getElem Gf] using e1
 show ((w.setCell ⟨R,0,none⟩ x').heap.modify R _)[R]?=_
 rw[Array.getElem?_eq_getElem (by simpa using Gf),Array.getElem_modify_self,Ei];rfl
def Zc1 (w:World) (g:Nat) (q:Rat):Prop:=w.heap[g]?=some (.cells #[.string (itx q.num),.string (dec q.den)] 101 (0,0))
theorem Zc1.below{w w':World}{g:Nat}{q:Rat}(h:Zc1 w g q)(hb:Bw_ w w'):Zc1 w' g q:=by
 unfold Zc1 at *
 rw[hb.block g (Array.getElem?_eq_some_iff.1 h).1];exact h
structure EnI (w wr:World) (lo hi:Rat):Prop where
 e0:Zc1 wr w.heap.size lo
 e1:Zc1 wr (w.heap.size+1) hi
 bel:Bw_ w wr
theorem EnI.below{w wr w':World}{lo hi:Rat}(h:EnI w wr lo hi)(hb:Bw_ wr w'):EnI w w' lo hi:=⟨h.e0.below hb,h.e1.below hb,h.bel.trans (hb.mono h.bel.size)⟩
def Zo (w:World) (E:Nat) (a b:Rat):World :=
 (((w.setCell ⟨E,0,none⟩ (.string (itx a.num))).setCell ⟨E,1,none⟩ (.string (dec a.den))).setCell ⟨E+1,0,none⟩ (.string (itx b.num))).setCell ⟨E+1,1,none⟩ (.string (dec b.den))
theorem EnI.put{w wr:World}{lo hi:Rat}(h:EnI w wr lo hi)(a b:Rat):EnI w (Zo wr w.heap.size a b) a b:=by
 have h1:=Za1 (x' := .string (itx a.num)) (y' := .string (dec a.den)) h.e0;have e1:((wr.setCell ⟨w.heap.size,0,none⟩ (.string (itx a.num))).setCell ⟨w.heap.size,1,none⟩ (.string (dec a.den))).heap[w.heap.size+1]?=some (.cells #[.string (itx hi.num),.string (dec hi.den)] 101 (0,0)):=by
  rw[Below.heap_setCell _ _ _ _ (by show w.heap.size+1≠w.heap.size;omega),Below.heap_setCell _ _ _ _ (by show w.heap.size+1≠w.heap.size;omega)];exact h.e1
 have h2:=Za1 (x' := .string (itx b.num)) (y' := .string (dec b.den)) e1;unfold Zo;refine⟨?_,h2,?_⟩
 ·unfold Zc1;rw[Below.heap_setCell _ _ _ _ (by show w.heap.size≠w.heap.size+1;omega),Below.heap_setCell _ _ _ _ (by show w.heap.size≠w.heap.size+1;omega)];exact h1
 ·exact(((h.bel.setCell (p:=⟨w.heap.size,0,none⟩) nr_ _).setCell (p:=⟨w.heap.size,1,none⟩) nr_ _).setCell (p:=⟨w.heap.size+1,0,none⟩) (Nat.le_succ _) _).setCell (p:=⟨w.heap.size+1,1,none⟩) (Nat.le_succ _) _
theorem EnI.set{w wr:World}{lo hi:Rat}(h:EnI w wr lo hi){g:Nat}(hg:w.heap.size+2<=g)(x y:Value):EnI w ((wr.setCell ⟨g,0,none⟩ x).setCell ⟨g,1,none⟩ y) lo hi:=by
 refine⟨?_,?_,(h.bel.setCell (p:=⟨g,0,none⟩) (by show _<=g;omega) _).setCell (p:=⟨g,1,none⟩) (by show _<=g;omega) _⟩
 ·unfold Zc1;rw[Below.heap_setCell _ _ _ _ (by show w.heap.size≠g;omega),Below.heap_setCell _ _ _ _ (by show w.heap.size≠g;omega)];exact h.e0
 ·unfold Zc1;rw[Below.heap_setCell _ _ _ _ (by show w.heap.size+1≠g;omega),Below.heap_setCell _ _ _ _ (by show w.heap.size+1≠g;omega)];exact h.e1
theorem Zc1.set{w:World}{g k:Nat}{q:Rat}(h:Zc1 w g q)(hk:g≠k)(x y:Value):Zc1 ((w.setCell ⟨k,0,none⟩ x).setCell ⟨k,1,none⟩ y) g q:=by
 unfold Zc1;rw[Below.heap_setCell _ _ _ _ hk,Below.heap_setCell _ _ _ _ hk];exact h
theorem Zc1.put{w:World}{g:Nat}{q:Rat}(h:Zc1 w g q)(a:Rat):Zc1 ((w.setCell ⟨g,0,none⟩ (.string (itx a.num))).setCell ⟨g,1,none⟩ (.string (dec a.den))) g a:=Za1 h
theorem Zc1.new(w:World)(q:Rat):Zc1 (w.alloc (.cells #[.string (itx q.num),.string (dec q.den)] 101)) w.heap.size q:=heap_alloc_new w _
theorem Zj2:itx (0:Rat).num=⟨#[48]⟩/\dec (0:Rat).den=⟨#[49]⟩:=by
 refine⟨?_,?_⟩
 ·show itx 0=_
  rw[show itx 0=dec 0 from Kg 0];have:(dec 0).data = #[48]:=by decide +kernel
  exact ByteArray.ext this
 ·exact Yo
structure EnW (w0:World) (lo hi:Rat) where
 w:World
 h:EnI w0 w lo hi
theorem EnW.cells{w0:World}{lo hi:Rat}(p:EnW w0 lo hi):p.w.cell? ⟨w0.heap.size,0,none⟩=some (.string (itx lo.num))/\p.w.cell? ⟨w0.heap.size,1,none⟩=some (.string (dec lo.den))/\p.w.cell? ⟨w0.heap.size+1,0,none⟩=some (.string (itx hi.num))/\p.w.cell? ⟨w0.heap.size+1,1,none⟩=some (.string (dec hi.den)):=by
 obtain⟨k0,k1,-,-⟩:=Ka p.h.e0;obtain⟨k2,k3,-,-⟩:=Ka p.h.e1;exact⟨k0,k1,k2,k3⟩
theorem EnI.put0{w wr:World}{lo hi:Rat}(h:EnI w wr lo hi)(a:Rat):EnI w ((wr.setCell ⟨w.heap.size,0,none⟩ (.string (itx a.num))).setCell ⟨w.heap.size,1,none⟩ (.string (dec a.den))) a hi :=
 ⟨Za1 h.e0,Zc1.set h.e1 (by omega) _ _,(h.bel.setCell (p:=⟨w.heap.size,0,none⟩) nr_ _).setCell (p:=⟨w.heap.size,1,none⟩) nr_ _⟩
theorem EnI.put1{w wr:World}{lo hi:Rat}(h:EnI w wr lo hi)(a:Rat):EnI w ((wr.setCell ⟨w.heap.size+1,0,none⟩ (.string (itx a.num))).setCell ⟨w.heap.size+1,1,none⟩ (.string (dec a.den))) lo a :=
 ⟨Zc1.set h.e0 (by omega) _ _,Za1 h.e1,(h.bel.setCell (p:=⟨w.heap.size+1,0,none⟩) (Nat.le_succ _) _).setCell (p:=⟨w.heap.size+1,1,none⟩) (Nat.le_succ _) _⟩
theorem Zhc{x:Nat}(h:x<2^K10):Num x:=Va h (by decide)
theorem Qaw{q b:Nat}(hq:q=2\/q∈Za4)(hb:b<=1000):lgN q b+2<2^K10/\2^b+1<2^K10:=by
 have h1:=Zv7 hq (show b<=1056 by omega);have h2:8*2^b<=2^K10:=by
  rw[show 8=2^3 from rfl,<- Nat.pow_add];exact Nat.pow_le_pow_right (by decide) (by rw[k10];omega)
 have h3:8*2^b+8<=2^K10:=by
  have e:8*2^b*2<=2^K10:=by
   rw[show 8=2^3 from rfl,<- Nat.pow_add,<- Nat.pow_succ];exact Nat.pow_le_pow_right (by decide) (by rw[k10];omega)
  have:=Nat.two_pow_pos b
  omega
 have:=Nat.two_pow_pos b
 omega
theorem Qfi(w:World)(n d:Nat)(hn:n+1<2^K10)(hd:d+1<2^K10)(G':0<d)(L:Qg w):
  Kc Tryz.prog 204 #[.string (dec n),.string (dec d)] w (.tuple #[fr (mkRat (n:Int) d),.int .i64 0]):=by
 have h:=Zq8 w n d (show Num _ from Zhc (by rw[Int.natAbs_natCast];omega)) (Zhc (by omega)) G' (Zhc (by rw[Int.natAbs_natCast];exact hn)) (Zhc hd) L;rw[Kg,Zdk _ _ (by omega)] at h;exact h
theorem Zdl(w:World)(R:Nat)(ps:List Int)(l:List Rat)(B b D:Nat)(H:Zqf w R ps l B)(hl:l.length=ps.length)(hn:ps.length<=100)(hp:∀ p∈ps,∃ q:Nat,p=q/\(q=2\/q∈Za4))(hs:∀ q∈l,Sm D q)(hD:D<=300)(hb:b<=B)(hB:B<=1000)(L:Qg w):
  Kc Tryz.prog 124 #[.pointer (some ⟨R,0,none⟩),.int .i64 b] w (.tuple #[fr (loE b ps l),fr (hiE b ps l)]):=by
 unfold Kc;have HH:=hd_ H;have Hp:=hd_ hp;have Hl:=hd_ hl;have Hs:=hd_ hs;have HL:=hd_ L;obtain⟨a0,c0,a1,c1,a2,c2,S⟩:=H;obtain⟨k0,k1,k2,k3,-⟩:=Zfd S.ob;have an:R<w.heap.size:=(Array.getElem?_eq_some_iff.1 S.ob).1;have aH:=hd_ S.rp;have aI:=hd_ S.rl;have mP:=hd_ (fun W (hW:Bw_ w W)=>Zq0 W b (by omega) (HL.o.below hW));have Dm:Hid (∀ W,Bw_ w W->W.cell? ⟨R,0,none⟩=some (.slice a0 ps.length c0)):=fun W hW=>by rw[hW.cell (p:=⟨R,0,none⟩) an];exact k0
 have Ew:Hid (∀ W,Bw_ w W->W.cell? ⟨R,1,none⟩=some (.slice a1 ps.length c1)):=fun W hW=>by rw[hW.cell (p:=⟨R,1,none⟩) an];exact k1
 have Hv:Hid (True->(loE b ps l=loE b (ps.take ps.length) (l.take ps.length))/\hiE b ps l=hiE b (ps.take ps.length) (l.take ps.length)):=fun _=>by
  rw[List.take_length,List.take_of_length_le (by omega)];exact⟨rfl,rfl⟩
 obtain⟨vlo,hvlo⟩:∃ v,loE b ps l=v:=⟨_,rfl⟩;obtain⟨vhi,hvhi⟩:∃ v,hiE b ps l=v:=⟨_,rfl⟩;rw[hvlo,hvhi] at Hv ⊢;clear S L hs hp hl hvlo hvhi k2 k3;obtain⟨n,dH⟩:∃ n,ps.length=n:=⟨_,rfl⟩;have Hn:=hd_ dH;rw[dH] at hn Dm Ew Hv k0 k1;clear dH;unfold fr fv;go_enter Tryz.func124,Tryz.ntmps124;go_wp2_with fail;have li:Hid (EnI w ((w.alloc (.cells #[.string ⟨#[48]⟩,.string ⟨#[49]⟩] 101)).alloc (.cells #[.string ⟨#[48]⟩,.string ⟨#[49]⟩] 101)) 0 0):=by
  obtain⟨z1,z2⟩:=Zj2;have h1:=Zc1.new w 0;have h2:=Zc1.new (w.alloc (.cells #[.string (itx (0:Rat).num),.string (dec (0:Rat).den)] 101)) 0;rw[z1,z2] at h1 h2;refine⟨h1.below ((Below.refl _ _).alloc nr_ _),?_,((Below.refl _ _).alloc nr_ _).alloc (by simp) _⟩;have e:(w.alloc (.cells #[.string ⟨#[48]⟩,.string ⟨#[49]⟩] 101)).heap.size=w.heap.size+1:=by simp
  rw[e] at h2;exact h2
 have dP:Hid (w.heap.size+2<=((w.alloc (.cells #[.string ⟨#[48]⟩,.string ⟨#[49]⟩] 101)).alloc (.cells #[.string ⟨#[48]⟩,.string ⟨#[49]⟩] 101)).heap.size):=by show _<=_;simp
 generalize (w.alloc (.cells #[.string ⟨#[48]⟩,.string ⟨#[49]⟩] 101)).alloc (.cells #[.string ⟨#[48]⟩,.string ⟨#[49]⟩] 101)=W0 at *;refine cm_ (mP.o _ li.o.bel) ?_;rintro e w1 ⟨rfl,HU⟩;have eW:=hd_ (li.o.below HU);have LG:=hd_ (Nat.le_trans dP.o HU.size);have Mb:=Ew.o _ eW.o.bel;clear HU li mP k0 k1 dP;go_wp2_with fail
 go_loopw [25] (fun i wr=>∃ k:Nat,k<=n/\i = .int .i64 k/\Hid (EnI w wr (loE b (ps.take k) (l.take k)) (hiE b (ps.take k) (l.take k)))/\Hid (w.heap.size+2<=wr.heap.size)) (fun i _=>n-(intOf i).toNat)
 case atStart=>exact⟨0,Nat.zero_le _,rfl,by simpa [loE,hiE] using eW,LG⟩
 case round =>
  obtain⟨k,hk,rfl,HE,Hz⟩:=hrel;clear eW LG Mb
  by_cases gd:k<n
  ·have gu:(k:Int)<n:=by omega
   have G5:k<ps.length:=by rw[Hn.o];exact gd
   have Gl:k<l.length:=by rw[Hl.o];exact G5
   obtain⟨b0,o0,rfl,Gu,fZ⟩:=aH.o.open (by rw[Qn];omega);have E2:Hid (∀ W,Bw_ w W->W.cell? ⟨b0,o0+k,none⟩=some (.int .i64 ps[k])):=fun W hW=>by
    rw[hW.cell (p:=⟨b0,o0+k,none⟩) Gu];exact fZ k _ (Zaf ps k G5)
   obtain⟨b1,o1,rfl,HU,Ga⟩:=aI.o.open (by rw[Kw];omega);obtain⟨x0,x1⟩:=Qx Ga k (by rw[List.length_map];exact Gl);rw[Qu l k Gl] at x0 x1;rw[<- HE.o.bel.cell (p:=⟨b1,o1+k*2,none⟩) HU] at x0;rw[<- HE.o.bel.cell (p:=⟨b1,o1+k*2+1,none⟩) HU] at x1;have Ac:IntKind.i64.wrap ((k:Int)+1)=((k+1:Nat):Int):=by rw[<- Int.natCast_succ];exact iw_ _ (by omega)
   have gI:=hd_ (fun W=>Zsy W l[k]);have Gv:=hd_ (Znc b ps l k Hl.o G5 Gl);have EI:=hd_ (Zlc (show b<=1056 by omega) Hp.o Hl.o Hs.o k (Nat.le_of_lt G5));have dU:=hd_ (Hs.o l[k] (List.getElem_mem Gl));obtain⟨q,hq,gQ⟩:=Hp.o _ (List.getElem_mem G5);have CC:=hd_ (Qdh (p:=ps[k]) (Hp.o _ (List.getElem_mem G5)) (show b<=1056 by omega));have aK:=hd_ (fun W (hW:Bw_ w W) (hz:l[k].num≠0)=>Qa5 W R ps l B b k (HH.o.below hW) Hl.o (by rw[Hn.o];omega) G5 Gl (Hp.o _ (List.getElem_mem G5)) hz hb hB (HL.o.below hW));have Hq:=hd_ hq;have Jr:=hd_ gQ;have Lj:1+k*(D+356)<=65700:=by
    have:k*(D+356)<=100*656:=Nat.mul_le_mul (by omega) (by omega)
    omega
   clear fZ Ga hq gQ;unfold fr fv at gI;unfold qs at x0 x1;simp only at x0 x1;generalize l[k]=c at *;generalize ps[k]=pk at *;have cJ:=hd_ (show b<=1000 by omega)
   by_cases hz:c.num=0
   ·have fZ:c=0:=Rat.num_eq_zero.1 hz;have CT:loE b (ps.take (k+1)) (l.take (k+1))=loE b (ps.take k) (l.take k)/\hiE b (ps.take (k+1)) (l.take (k+1))=hiE b (ps.take k) (l.take k):=by
     obtain⟨e1,e2⟩:=Zwu b pk;have:=Gv.o
     rw[fZ,e1,e2,Rat.add_zero,Rat.add_zero] at this;exact this
    have bh:=hd_ CT;rw[hz] at gI x0;have IP:=hd_ (HE.o.below ((Below.refl _ _).alloc nr_ (.cells #[.string (itx 0),.string (dec c.den)] 101)));have Iz:Hid (w.heap.size+2<=(wr.alloc (.cells #[.string (itx 0),.string (dec c.den)] 101)).heap.size):=by show _<=_;simp;have:=Hz.o;omega
    have k8:=Ka (heap_alloc_new wr (.cells #[.string (itx 0),.string (dec c.den)] 101));clear CT aK Gv EI dU CC Hq Jr E2 fZ hz;go_wp2_with fail;refine cm_ (gI.o _) ?_;rintro e w2 ⟨rfl,H7⟩;have FL:=hd_ (IP.o.below H7);have dP:=hd_ (Nat.le_trans Iz.o H7.size);clear H7 gI k8;go_wp2_with fail;refine⟨⟨k+1,by omega,by go_num,by rw[bh.o.1,bh.o.2];exact FL,dP⟩,by simp[intOf];omega⟩
   ·have oa:(c.num.sign==0)=false:=by
     rw[beq_eq_false_iff_ne];intro h;exact hz (Int.sign_eq_zero_iff_zero.1 h)
    have F7:=hd_ (fun W hW=>aK.o W hW hz);have IP:=hd_ (HE.o.below ((Below.refl _ _).alloc nr_ (.cells #[.string (itx c.num),.string (dec c.den)] 101)));have Iz:Hid (w.heap.size+2<=(wr.alloc (.cells #[.string (itx c.num),.string (dec c.den)] 101)).heap.size):=by show _<=_;simp;have:=Hz.o;omega
    have F8:=hd_ (Zc1.new wr c);obtain⟨g8,hg8⟩:∃ g8,g8=wr.heap.size:=⟨_,rfl⟩;have k8:=Ka (heap_alloc_new wr (.cells #[.string (itx c.num),.string (dec c.den)] 101));clear aK hz;go_wp2_with fail;refine cm_ (gI.o _) ?_;rintro e w2 ⟨rfl,H7⟩;have FL:=hd_ (IP.o.below H7);have dP:=hd_ (Nat.le_trans Iz.o H7.size);have BZ:=hd_ (F8.o.below H7);rw[<- hg8] at BZ;have lA:w.heap.size+2<=g8:=by rw[hg8];exact Hz.o
    have Lm:g8<w2.heap.size:=(Array.getElem?_eq_some_iff.1 BZ.o).1;clear H7 gI k8 IP Iz F8;rw[<- hg8];have oV:=hd_ lA;have aL:=hd_ Lm;clear x0 x1 hg8 lA Lm;obtain⟨k0,k1,-,-⟩:=Ka BZ.o;have q0:=NW.cell k0;have q1:=NW.cell k1;have gj:Nonempty (NW w2):=⟨⟨w2,Below.refl _ _⟩⟩;have I:Hid (Bw_ w2 w2.drew):=(Below.refl _ _).drew;go_wp2_with fail;clear k0 k1;refine RP.wp_region_tree 5 (.rd 1 0 (.rd 1 1 (.two 2 3 (.mv 3 (.mv 4 (.mv 5 .nil))) (.mv 2 (.mv 4 (.mv 5 .nil)))))) (fun w'=>∃ p:NW w2,w'=p.w) (by kernel_rfl) (by kernel_rfl) ?_ ?_
    ·exact⟨⟨_,I.o⟩,rfl⟩
    iterate 2 (refine RP.walkT_read ?_;simp only[Za7,dz_,Zag,tz_];go_big_quiet_step (fail);refine wq_ ?_)
    clear q0 q1 gj;refine RP.walkT_two ?_ ?_
    ·simp only[Za7,dz_,Zag,tz_];go_wp2_with fail;obtain⟨ga,Da⟩:∃ x,x=w2.heap.size:=⟨_,rfl⟩;have I3:Hid (Bw_ w2 (w2.alloc (.cells #[.string ⟨#[]⟩,.string ⟨#[]⟩] 101)).drew):=Qb ((Below.refl _ _).alloc nr_ _) 1;have N3:Hid ((w2.alloc (.cells #[.string ⟨#[]⟩,.string ⟨#[]⟩] 101)).drew.heap[ga]?=some (.cells #[.string ⟨#[]⟩,.string ⟨#[]⟩] 101 (0,0))):=by rw[Da];exact heap_alloc_new w2 _
     have Z3:Hid ((w2.alloc (.cells #[.string ⟨#[]⟩,.string ⟨#[]⟩] 101)).drew.heap.size=w2.heap.size+1):=by show _=_;simp
     rw[<- Da];have mq:=hd_ Da;clear Da;generalize (w2.alloc (.cells #[.string ⟨#[]⟩,.string ⟨#[]⟩] 101)).drew=w3 at *;refine⟨⟨⟨_,I3.o⟩,rfl⟩,?_⟩;refine RP.walkT_move ?_;simp only[Za7,dz_,Zag,tz_];go_wp2_with fail;obtain⟨gb,Ed⟩:∃ x,x=w3.heap.size:=⟨_,rfl⟩;have I4:Hid (Bw_ w2 (w3.alloc (.cells #[.string ⟨#[]⟩,.string ⟨#[]⟩] 101))):=I3.o.alloc I3.o.size _;have N4:Hid ((w3.alloc (.cells #[.string ⟨#[]⟩,.string ⟨#[]⟩] 101)).heap[ga]?=some (.cells #[.string ⟨#[]⟩,.string ⟨#[]⟩] 101 (0,0))):=by
      show _=_
      rw[((Below.refl _ w3).alloc nr_ _).block ga (Array.getElem?_eq_some_iff.1 N3.o).1];exact N3.o
     have M4:Hid ((w3.alloc (.cells #[.string ⟨#[]⟩,.string ⟨#[]⟩] 101)).heap[gb]?=some (.cells #[.string ⟨#[]⟩,.string ⟨#[]⟩] 101 (0,0))):=by rw[Ed];exact heap_alloc_new w3 _
     have G2:ga≠gb:=by have:=Z3.o;have:=mq.o;omega
     have fh:w2.heap.size<=ga:=by have:=mq.o;omega
     have dB:w2.heap.size<=gb:=by have:=Z3.o;omega
     rw[<- Ed];clear N3 I3 Ed Z3;generalize w3.alloc (.cells #[.string ⟨#[]⟩,.string ⟨#[]⟩] 101)=w4 at *;have NA:=N4;have NB:=M4;have Ee:=fh;have Ec:=dB;have FG:=hd_ G2;clear N4 M4 fh dB G2;refine⟨⟨⟨_,I4.o⟩,rfl⟩,?_⟩;refine RP.walkT_move ?_;simp only[Za7,dz_,Zag,tz_];obtain⟨n0,n1,f0,f1⟩:=Ka NA.o;go_wp2_with fail;have I5:=hd_ ((I4.o.setCell (p:=⟨ga,0,none⟩) Ee (.string (itx c.num))).setCell (p:=⟨ga,1,none⟩) Ee (.string (dec c.den)));have iX:Hid (Zc1 ((w4.setCell ⟨ga,0,none⟩ (.string (itx c.num))).setCell ⟨ga,1,none⟩ (.string (dec c.den))) ga c):=Za1 NA.o;have Bj:Hid (((w4.setCell ⟨ga,0,none⟩ (.string (itx c.num))).setCell ⟨ga,1,none⟩ (.string (dec c.den))).heap[gb]?=some (.cells #[.string ⟨#[]⟩,.string ⟨#[]⟩] 101 (0,0))):=by
      show _=_
      rw[Below.heap_setCell _ _ _ _ (Ne.symm FG.o),Below.heap_setCell _ _ _ _ (Ne.symm FG.o)];exact NB.o
     clear n0 n1 f0 f1 NA NB I4;generalize (w4.setCell ⟨ga,0,none⟩ (.string (itx c.num))).setCell ⟨ga,1,none⟩ (.string (dec c.den))=w5 at *;refine⟨⟨⟨_,I5.o⟩,rfl⟩,?_⟩;refine RP.walkT_move ?_;simp only[Za7,dz_,Zag,tz_];obtain⟨n0,n1,f0,f1⟩:=Ka Bj.o;go_wp2_with fail;have I6:=hd_ ((I5.o.setCell (p:=⟨gb,0,none⟩) Ec (.string (itx c.num))).setCell (p:=⟨gb,1,none⟩) Ec (.string (dec c.den)));have BU:Hid (Zc1 ((w5.setCell ⟨gb,0,none⟩ (.string (itx c.num))).setCell ⟨gb,1,none⟩ (.string (dec c.den))) gb c):=Za1 Bj.o;have BY:=hd_ (iX.o.set FG.o (.string (itx c.num)) (.string (dec c.den)));clear n0 n1 f0 f1 iX Bj I5;generalize (w5.setCell ⟨gb,0,none⟩ (.string (itx c.num))).setCell ⟨gb,1,none⟩ (.string (dec c.den))=w6 at *;have FZ:=hd_ (FL.o.below I6.o);have i':=hd_ (BZ.o.below I6.o);have Da:w.heap.size+2<=ga:=by have:=dP.o;omega
     have Ed:w.heap.size+2<=gb:=by have:=dP.o;omega
     have JC:Hid (g8≠ga):=by have:=aL.o;show _≠_;omega
     have JB:Hid (g8≠gb):=by have:=aL.o;show _≠_;omega
     have Bl:=hd_ (Nat.le_trans dP.o I6.o.size);clear FL BZ I6 Ee Ec dP aL;simp only[RP.walkT];have IX:=Dm.o w6 FZ.o.bel;have cp:=E2.o w6 FZ.o.bel
     by_cases h2:pk=2
     ·have Iu:(pk != 2)=false:=by rw[h2];rfl
      have fy:Hid (c=c*xE pk b/\Sm (D+355) c):=⟨by rw[h2];unfold xE;rw[if_pos rfl,Rat.mul_one],dU.o.le (by omega)⟩;have fw:Hid (c=c*yE pk b/\Sm (D+355) c):=⟨by rw[h2];unfold yE;rw[if_pos rfl,Rat.mul_one],dU.o.le (by omega)⟩;clear F7;obtain⟨k0,k1,-,-⟩:=Ka FZ.o.e0;obtain⟨k2,k3,-,-⟩:=Ka FZ.o.e1;obtain⟨k4,k5,-,-⟩:=Ka BY.o;obtain⟨k6,k7,-,-⟩:=Ka BU.o;have q0:=NW.cell k0;have q1:=NW.cell k1;have q2:=NW.cell k2;have q3:=NW.cell k3;have q4:=NW.cell k4;have q5:=NW.cell k5;have q6:=NW.cell k6;have q7:=NW.cell k7;have gj:Nonempty (NW w6):=⟨⟨w6,Below.refl _ _⟩⟩;have I:Hid (Bw_ w6 w6.drew):=(Below.refl _ _).drew;have FJ:=hd_ (fun X (hX:Bw_ w6 X)=>HL.o.below (FZ.o.bel.trans (hX.mono FZ.o.bel.size)));have E0:=hd_ (fun X hX=>Zk0 X c c (D+355) (D+355) fy.o.2 fw.o.2 (by omega) (FJ.o X hX));have FD:=hd_ (fun X hX=>Zk1 X c c (D+355) (D+355) fy.o.2 fw.o.2 (by omega) (FJ.o X hX));have Gw:=hd_ (fun X hX=>Zxy X _ _ _ _ EI.o.1 (Zhe fy.o.2 fw.o.2) (by omega) (FJ.o X hX));have GK:=hd_ (fun X hX=>Zxy X _ _ _ _ EI.o.2 (Zhf fy.o.2 fw.o.2) (by omega) (FJ.o X hX));have Fv:loE b (ps.take k) (l.take k)+Zf5 c c=loE b (ps.take (k+1)) (l.take (k+1)):=by first | (rw[Gv.o.1];done) | (rw[Gv.o.1,<- fy.o.1,<- fw.o.1];done)
      have Fu:hiE b (ps.take k) (l.take k)+Zf6 c c=hiE b (ps.take (k+1)) (l.take (k+1)):=by first | (rw[Gv.o.2];done) | (rw[Gv.o.2,<- fy.o.1,<- fw.o.1];done)
      rw[Fv] at Gw;rw[Fu] at GK;clear Fv Fu FJ;unfold fr fv at E0 FD Gw GK;go_wp2_with fail;clear k0 k1 k2 k3 k4 k5 k6 k7;refine wn_ 10 [(1,0),(1,1),(1,2),(1,5),(1,6),(1,7),(0,3),(0,4),(0,8),(0,9),(0,10),(0,11)] I ?_;iterate 6 (refine wr_ rfl ?_;go_big_quiet_step (fail);refine wq_ ?_)
      clear q0 q1 q2 q3 q4 q5 q6 q7 gj;refine wm_ rfl ?_;go_wp2_with fail;refine cm_ (E0.o _ I.o) ?_;rintro e x1 ⟨rfl,hbx⟩;have J1:Hid (Bw_ w6 x1):=I.o.trans (hbx.mono I.o.size);clear hbx I E0;go_wp2_with fail;refine⟨⟨⟨_,J1.o⟩,rfl⟩,?_⟩;refine wm_ rfl ?_;go_wp2_with fail;refine cm_ (Gw.o _ J1.o) ?_;rintro e x2 ⟨rfl,hbx⟩;have J2:Hid (Bw_ w6 x2):=J1.o.trans (hbx.mono J1.o.size);clear hbx J1 Gw;go_wp2_with fail;refine⟨⟨⟨_,J2.o⟩,rfl⟩,?_⟩;refine wm_ rfl ?_;go_wp2_with fail;refine cm_ (FD.o _ J2.o) ?_;rintro e x3 ⟨rfl,hbx⟩;have J3:Hid (Bw_ w6 x3):=J2.o.trans (hbx.mono J2.o.size);clear hbx J2 FD;go_wp2_with fail;refine⟨⟨⟨_,J3.o⟩,rfl⟩,?_⟩;refine wm_ rfl ?_;go_wp2_with fail;refine cm_ (GK.o _ J3.o) ?_;rintro e x4 ⟨rfl,hbx⟩;have J4:Hid (Bw_ w6 x4):=J3.o.trans (hbx.mono J3.o.size);clear hbx J3 GK;go_wp2_with fail;refine⟨⟨⟨_,J4.o⟩,rfl⟩,?_⟩;have eK:=hd_ (FZ.o.below J4.o);have DV:=hd_ (Nat.le_trans Bl.o J4.o.size);obtain⟨k0,k1,f0,f1⟩:=Ka eK.o.e0;obtain⟨k2,k3,f2,f3⟩:=Ka eK.o.e1;have cM:=hd_ (eK.o.put (loE b (ps.take (k+1)) (l.take (k+1))) (hiE b (ps.take (k+1)) (l.take (k+1))));have DW:Hid (w.heap.size+2<=(Zo x4 w.heap.size (loE b (ps.take (k+1)) (l.take (k+1))) (hiE b (ps.take (k+1)) (l.take (k+1)))).heap.size):=by
       show _<=_
       unfold Zo;rw[World.size_setCell,World.size_setCell,World.size_setCell,World.size_setCell];exact DV.o
      unfold Zo at cM DW;clear eK J4 DV;refine wm_ rfl ?_;go_wp2_with fail;refine wm_ rfl ?_;go_wp2_with fail;simp only[RP.walkR];go_wp2_with fail;refine⟨⟨k+1,by omega,by go_num,cM,DW⟩,by simp[intOf];omega⟩
     ·have Iu:(pk != 2)=true:=by rw[bne_iff_ne];exact h2
      have aw:(pk==2)=false:=by rw[beq_eq_false_iff_ne];exact h2
      have fy:Hid (c*xE pk b=c*xE pk b/\Sm (D+355) (c*xE pk b)):=⟨rfl,dU.o.mul CC.o.1⟩;have fw:Hid (c*yE pk b=c*yE pk b/\Sm (D+355) (c*yE pk b)):=⟨rfl,dU.o.mul CC.o.2⟩;have EE:lgN pk b+2<2^K10/\2^b+1<2^K10:=by
       rw[Hq.o];exact Qaw Jr.o cJ.o
      have gN:=hd_ (fun W (hW:Bw_ w W)=>Qfi W (lgN pk b) (2^b) (by omega) EE.2 (Nat.two_pow_pos b) (HL.o.below hW));have GD:=hd_ (fun W (hW:Bw_ w W)=>Qfi W (lgN pk b+1) (2^b) (by omega) EE.2 (Nat.two_pow_pos b) (HL.o.below hW));have FW:=hd_ (fun W (hW:Bw_ w W)=>Zz7 W (lgN pk b) 1 K10 (by decide) (by omega) (Nat.one_lt_two_pow (by decide)) (HL.o.below hW));rw[Yo] at FW;have aS:mkRat ((lgN pk b:Nat):Int) (2^b)=xE pk b:=by unfold xE;rw[if_neg h2]
      have aQ:mkRat ((lgN pk b+1:Nat):Int) (2^b)=yE pk b:=by unfold yE;rw[if_neg h2]
      rw[aS] at gN;rw[aQ] at GD;have EZ:=hd_ (fun W (hW:Bw_ w W)=>Qdb W c (xE pk b) D 355 dU.o CC.o.1 (by omega) (HL.o.below hW));have EY:=hd_ (fun W (hW:Bw_ w W)=>Qdb W c (yE pk b) D 355 dU.o CC.o.2 (by omega) (HL.o.below hW));clear EE aS aQ h2;unfold fr fv at gN GD EZ EY;go_wp2_with fail;refine cm_ (F7.o _ FZ.o.bel) ?_;rintro e w7 ⟨rfl,hbx⟩;have BS:=hd_ (FZ.o.below hbx);have iW:=hd_ (BY.o.below hbx);have iU:=hd_ (BU.o.below hbx);have i7:=hd_ (i'.o.below hbx);have Bk:=hd_ (Nat.le_trans Bl.o hbx.size);clear hbx F7 FZ BY BU i' Bl IX cp;go_wp2_with fail;refine cm_ (gN.o _ BS.o.bel) ?_;rintro e w8 ⟨rfl,hbx⟩;have Gg:=hd_ (hbx.alloc hbx.size (.cells #[.string (itx (xE pk b).num),.string (dec (xE pk b).den)] 101));have BR:=hd_ (BS.o.below Gg.o);have iV:=hd_ (iW.o.below Gg.o);have iT:=hd_ (iU.o.below Gg.o);have i6:=hd_ (i7.o.below Gg.o);have DX:=hd_ (Nat.le_trans Bk.o Gg.o.size);have FX:=hd_ (Zc1.new w8 (xE pk b));have Aj:=hd_ (Nat.le_trans Bk.o hbx.size);clear hbx Gg BS iW iU i7 Bk gN;go_wp2_with fail;generalize w8.alloc (.cells #[.string (itx (xE pk b).num),.string (dec (xE pk b).den)] 101)=w9 at *;generalize w8.heap.size=gx at *;refine cm_ (FW.o _ BR.o.bel) ?_;rintro e w10 ⟨rfl,hbx⟩;have E7:=hd_ (BR.o.below hbx);have cW:=hd_ (iV.o.below hbx);have cU:=hd_ (iT.o.below hbx);have cY:=hd_ (i6.o.below hbx);have cR:=hd_ (FX.o.below hbx);have DZ:=hd_ (Nat.le_trans DX.o hbx.size);clear hbx BR iV iT i6 FX DX FW;go_wp2_with fail;refine cm_ (GD.o _ E7.o.bel) ?_;rintro e w11 ⟨rfl,hbx⟩;have Gg:=hd_ (hbx.alloc hbx.size (.cells #[.string (itx (yE pk b).num),.string (dec (yE pk b).den)] 101));have fU:=hd_ (E7.o.below Gg.o);have cV:=hd_ (cW.o.below Gg.o);have cT:=hd_ (cU.o.below Gg.o);have cX:=hd_ (cY.o.below Gg.o);have cQ:=hd_ (cR.o.below Gg.o);have cP:=hd_ (Zc1.new w11 (yE pk b));have DY:=hd_ (Nat.le_trans DZ.o Gg.o.size);obtain⟨k0,k1,-,-⟩:=Ka cX.o;obtain⟨k2,k3,-,-⟩:=Ka cQ.o;obtain⟨k4,k5,-,-⟩:=Ka cP.o;have q0:=NW.cell k0;have q1:=NW.cell k1;have q2:=NW.cell k2;have q3:=NW.cell k3;have q4:=NW.cell k4;have q5:=NW.cell k5;clear hbx Gg E7 cW cU cY cR DZ GD k0 k1 k2 k3 k4 k5;go_wp2_with fail;generalize w11.alloc (.cells #[.string (itx (yE pk b).num),.string (dec (yE pk b).den)] 101)=w12 at *;generalize w11.heap.size=gy at *;have gj:Nonempty (NW w12):=⟨⟨w12,Below.refl _ _⟩⟩;have I:Hid (Bw_ w12 w12.drew):=(Below.refl _ _).drew;refine wn_ 6 [(1,0),(1,1),(1,3),(1,4),(0,2),(0,5),(0,6),(0,7)] I ?_;iterate 4 (refine wr_ rfl ?_;go_big_quiet_step (fail);refine wq_ ?_)
      clear gj q0 q1 q2 q3 q4 q5;refine wm_ rfl ?_;go_wp2_with fail;refine cm_ (EZ.o _ (fU.o.bel.trans (I.o.mono fU.o.bel.size))) ?_;rintro e y1 ⟨rfl,hbx⟩;have J1:Hid (Bw_ w12 y1):=I.o.trans (hbx.mono I.o.size);clear hbx I EZ;go_wp2_with fail;refine⟨⟨⟨_,J1.o⟩,rfl⟩,?_⟩;refine wm_ rfl ?_;go_wp2_with fail;refine cm_ (EY.o _ (fU.o.bel.trans (J1.o.mono fU.o.bel.size))) ?_;rintro e y2 ⟨rfl,hbx⟩;have J2:Hid (Bw_ w12 y2):=J1.o.trans (hbx.mono J1.o.size);clear hbx J1 EY;go_wp2_with fail;refine⟨⟨⟨_,J2.o⟩,rfl⟩,?_⟩;have iO:=hd_ (fU.o.below J2.o);have BX:=hd_ (cV.o.below J2.o);have iS:=hd_ (cT.o.below J2.o);have AL:=hd_ (Nat.le_trans DY.o J2.o.size);obtain⟨k0,k1,f0,f1⟩:=Ka BX.o;have iY:=hd_ (BX.o.put (c*xE pk b));have BV:=hd_ (iS.o.set (Ne.symm FG.o) (.string (itx (c*xE pk b).num)) (.string (dec (c*xE pk b).den)));have cN:=hd_ (iO.o.set Da (.string (itx (c*xE pk b).num)) (.string (dec (c*xE pk b).den)));have AM:Hid (w.heap.size+2<=((y2.setCell ⟨ga,0,none⟩ (.string (itx (c*xE pk b).num))).setCell ⟨ga,1,none⟩ (.string (dec (c*xE pk b).den))).heap.size):=by
       show _<=_
       rw[World.size_setCell,World.size_setCell];exact AL.o
      clear fU cV cT cX cQ cP DY J2 iO BX iS AL;refine wm_ rfl ?_;go_wp2_with fail;generalize (y2.setCell ⟨ga,0,none⟩ (.string (itx (c*xE pk b).num))).setCell ⟨ga,1,none⟩ (.string (dec (c*xE pk b).den))=y3 at *;clear k0 k1 f0 f1;obtain⟨k0,k1,f0,f1⟩:=Ka BV.o;have ll:=hd_ (iY.o.set FG.o (.string (itx (c*yE pk b).num)) (.string (dec (c*yE pk b).den)));have lk:=hd_ (BV.o.put (c*yE pk b));have FK:=hd_ (cN.o.set Ed (.string (itx (c*yE pk b).num)) (.string (dec (c*yE pk b).den)));have Bm:Hid (w.heap.size+2<=((y3.setCell ⟨gb,0,none⟩ (.string (itx (c*yE pk b).num))).setCell ⟨gb,1,none⟩ (.string (dec (c*yE pk b).den))).heap.size):=by
       show _<=_
       rw[World.size_setCell,World.size_setCell];exact AM.o
      clear iY BV cN AM;refine wm_ rfl ?_;go_wp2_with fail;generalize (y3.setCell ⟨gb,0,none⟩ (.string (itx (c*yE pk b).num))).setCell ⟨gb,1,none⟩ (.string (dec (c*yE pk b).den))=y4 at *;clear k0 k1 f0 f1;simp only[RP.walkR];generalize hXc:c*xE pk b=vx at *;generalize hYc:c*yE pk b=vy at *;have fy:=hd_ (show c*xE pk b=vx/\Sm (D+355) vx from ⟨hXc,fy.o.2⟩);have fw:=hd_ (show c*yE pk b=vy/\Sm (D+355) vy from ⟨hYc,fw.o.2⟩);clear hXc hYc;obtain⟨k0,k1,-,-⟩:=Ka FK.o.e0;obtain⟨k2,k3,-,-⟩:=Ka FK.o.e1;obtain⟨k4,k5,-,-⟩:=Ka ll.o;obtain⟨k6,k7,-,-⟩:=Ka lk.o;have q0:=NW.cell k0;have q1:=NW.cell k1;have q2:=NW.cell k2;have q3:=NW.cell k3;have q4:=NW.cell k4;have q5:=NW.cell k5;have q6:=NW.cell k6;have q7:=NW.cell k7;have gj:Nonempty (NW y4):=⟨⟨y4,Below.refl _ _⟩⟩;have I:Hid (Bw_ y4 y4.drew):=(Below.refl _ _).drew;have FJ:=hd_ (fun X (hX:Bw_ y4 X)=>HL.o.below (FK.o.bel.trans (hX.mono FK.o.bel.size)));have E0:=hd_ (fun X hX=>Zk0 X vx vy (D+355) (D+355) fy.o.2 fw.o.2 (by omega) (FJ.o X hX));have FD:=hd_ (fun X hX=>Zk1 X vx vy (D+355) (D+355) fy.o.2 fw.o.2 (by omega) (FJ.o X hX));have Gw:=hd_ (fun X hX=>Zxy X _ _ _ _ EI.o.1 (Zhe fy.o.2 fw.o.2) (by omega) (FJ.o X hX));have GK:=hd_ (fun X hX=>Zxy X _ _ _ _ EI.o.2 (Zhf fy.o.2 fw.o.2) (by omega) (FJ.o X hX));have Fv:loE b (ps.take k) (l.take k)+Zf5 vx vy=loE b (ps.take (k+1)) (l.take (k+1)):=by first | (rw[Gv.o.1];done) | (rw[Gv.o.1,<- fy.o.1,<- fw.o.1];done)
      have Fu:hiE b (ps.take k) (l.take k)+Zf6 vx vy=hiE b (ps.take (k+1)) (l.take (k+1)):=by first | (rw[Gv.o.2];done) | (rw[Gv.o.2,<- fy.o.1,<- fw.o.1];done)
      rw[Fv] at Gw;rw[Fu] at GK;clear Fv Fu FJ;unfold fr fv at E0 FD Gw GK;go_wp2_with fail;clear k0 k1 k2 k3 k4 k5 k6 k7;refine wn_ 10 [(1,0),(1,1),(1,2),(1,5),(1,6),(1,7),(0,3),(0,4),(0,8),(0,9),(0,10),(0,11)] I ?_;iterate 6 (refine wr_ rfl ?_;go_big_quiet_step (fail);refine wq_ ?_)
      clear q0 q1 q2 q3 q4 q5 q6 q7 gj;refine wm_ rfl ?_;go_wp2_with fail;refine cm_ (E0.o _ I.o) ?_;rintro e x1 ⟨rfl,hbx⟩;have J1:Hid (Bw_ y4 x1):=I.o.trans (hbx.mono I.o.size);clear hbx I E0;go_wp2_with fail;refine⟨⟨⟨_,J1.o⟩,rfl⟩,?_⟩;refine wm_ rfl ?_;go_wp2_with fail;refine cm_ (Gw.o _ J1.o) ?_;rintro e x2 ⟨rfl,hbx⟩;have J2:Hid (Bw_ y4 x2):=J1.o.trans (hbx.mono J1.o.size);clear hbx J1 Gw;go_wp2_with fail;refine⟨⟨⟨_,J2.o⟩,rfl⟩,?_⟩;refine wm_ rfl ?_;go_wp2_with fail;refine cm_ (FD.o _ J2.o) ?_;rintro e x3 ⟨rfl,hbx⟩;have J3:Hid (Bw_ y4 x3):=J2.o.trans (hbx.mono J2.o.size);clear hbx J2 FD;go_wp2_with fail;refine⟨⟨⟨_,J3.o⟩,rfl⟩,?_⟩;refine wm_ rfl ?_;go_wp2_with fail;refine cm_ (GK.o _ J3.o) ?_;rintro e x4 ⟨rfl,hbx⟩;have J4:Hid (Bw_ y4 x4):=J3.o.trans (hbx.mono J3.o.size);clear hbx J3 GK;go_wp2_with fail;refine⟨⟨⟨_,J4.o⟩,rfl⟩,?_⟩;have eK:=hd_ (FK.o.below J4.o);have DV:=hd_ (Nat.le_trans Bm.o J4.o.size);obtain⟨k0,k1,f0,f1⟩:=Ka eK.o.e0;obtain⟨k2,k3,f2,f3⟩:=Ka eK.o.e1;have cM:=hd_ (eK.o.put (loE b (ps.take (k+1)) (l.take (k+1))) (hiE b (ps.take (k+1)) (l.take (k+1))));have DW:Hid (w.heap.size+2<=(Zo x4 w.heap.size (loE b (ps.take (k+1)) (l.take (k+1))) (hiE b (ps.take (k+1)) (l.take (k+1)))).heap.size):=by
       show _<=_
       unfold Zo;rw[World.size_setCell,World.size_setCell,World.size_setCell,World.size_setCell];exact DV.o
      unfold Zo at cM DW;clear eK J4 DV;refine wm_ rfl ?_;go_wp2_with fail;refine wm_ rfl ?_;go_wp2_with fail;simp only[RP.walkR];go_wp2_with fail;refine⟨⟨k+1,by omega,by go_num,cM,DW⟩,by simp[intOf];omega⟩
    ·simp only[Za7,dz_,Zag,tz_];go_wp2_with fail;obtain⟨gb,Ed⟩:∃ x,x=w2.heap.size:=⟨_,rfl⟩;have I3:Hid (Bw_ w2 (w2.alloc (.cells #[.string ⟨#[]⟩,.string ⟨#[]⟩] 101)).drew):=Qb ((Below.refl _ _).alloc nr_ _) 1;have N3:Hid ((w2.alloc (.cells #[.string ⟨#[]⟩,.string ⟨#[]⟩] 101)).drew.heap[gb]?=some (.cells #[.string ⟨#[]⟩,.string ⟨#[]⟩] 101 (0,0))):=by rw[Ed];exact heap_alloc_new w2 _
     have Z3:Hid ((w2.alloc (.cells #[.string ⟨#[]⟩,.string ⟨#[]⟩] 101)).drew.heap.size=w2.heap.size+1):=by show _=_;simp
     rw[<- Ed];have mp:=hd_ Ed;clear Ed;generalize (w2.alloc (.cells #[.string ⟨#[]⟩,.string ⟨#[]⟩] 101)).drew=w3 at *;refine⟨⟨⟨_,I3.o⟩,rfl⟩,?_⟩;refine RP.walkT_move ?_;simp only[Za7,dz_,Zag,tz_];go_wp2_with fail;obtain⟨ga,Da⟩:∃ x,x=w3.heap.size:=⟨_,rfl⟩;have I4:Hid (Bw_ w2 (w3.alloc (.cells #[.string ⟨#[]⟩,.string ⟨#[]⟩] 101))):=I3.o.alloc I3.o.size _;have N4:Hid ((w3.alloc (.cells #[.string ⟨#[]⟩,.string ⟨#[]⟩] 101)).heap[gb]?=some (.cells #[.string ⟨#[]⟩,.string ⟨#[]⟩] 101 (0,0))):=by
      show _=_
      rw[((Below.refl _ w3).alloc nr_ _).block gb (Array.getElem?_eq_some_iff.1 N3.o).1];exact N3.o
     have M4:Hid ((w3.alloc (.cells #[.string ⟨#[]⟩,.string ⟨#[]⟩] 101)).heap[ga]?=some (.cells #[.string ⟨#[]⟩,.string ⟨#[]⟩] 101 (0,0))):=by rw[Da];exact heap_alloc_new w3 _
     have G2:gb≠ga:=by have:=Z3.o;have:=mp.o;omega
     have fh:w2.heap.size<=gb:=by have:=mp.o;omega
     have dB:w2.heap.size<=ga:=by have:=Z3.o;omega
     rw[<- Da];clear N3 I3 Da Z3;generalize w3.alloc (.cells #[.string ⟨#[]⟩,.string ⟨#[]⟩] 101)=w4 at *;have NA:=M4;have NB:=N4;have Ee:=dB;have Ec:=fh;have FG:=hd_ (Ne.symm G2);clear N4 M4 fh dB G2;refine⟨⟨⟨_,I4.o⟩,rfl⟩,?_⟩;refine RP.walkT_move ?_;simp only[Za7,dz_,Zag,tz_];obtain⟨n0,n1,f0,f1⟩:=Ka NA.o;go_wp2_with fail;have I5:=hd_ ((I4.o.setCell (p:=⟨ga,0,none⟩) Ee (.string (itx c.num))).setCell (p:=⟨ga,1,none⟩) Ee (.string (dec c.den)));have iX:Hid (Zc1 ((w4.setCell ⟨ga,0,none⟩ (.string (itx c.num))).setCell ⟨ga,1,none⟩ (.string (dec c.den))) ga c):=Za1 NA.o;have Bj:Hid (((w4.setCell ⟨ga,0,none⟩ (.string (itx c.num))).setCell ⟨ga,1,none⟩ (.string (dec c.den))).heap[gb]?=some (.cells #[.string ⟨#[]⟩,.string ⟨#[]⟩] 101 (0,0))):=by
      show _=_
      rw[Below.heap_setCell _ _ _ _ (Ne.symm FG.o),Below.heap_setCell _ _ _ _ (Ne.symm FG.o)];exact NB.o
     clear n0 n1 f0 f1 NA NB I4;generalize (w4.setCell ⟨ga,0,none⟩ (.string (itx c.num))).setCell ⟨ga,1,none⟩ (.string (dec c.den))=w5 at *;refine⟨⟨⟨_,I5.o⟩,rfl⟩,?_⟩;refine RP.walkT_move ?_;simp only[Za7,dz_,Zag,tz_];obtain⟨n0,n1,f0,f1⟩:=Ka Bj.o;go_wp2_with fail;have I6:=hd_ ((I5.o.setCell (p:=⟨gb,0,none⟩) Ec (.string (itx c.num))).setCell (p:=⟨gb,1,none⟩) Ec (.string (dec c.den)));have BU:Hid (Zc1 ((w5.setCell ⟨gb,0,none⟩ (.string (itx c.num))).setCell ⟨gb,1,none⟩ (.string (dec c.den))) gb c):=Za1 Bj.o;have BY:=hd_ (iX.o.set FG.o (.string (itx c.num)) (.string (dec c.den)));clear n0 n1 f0 f1 iX Bj I5;generalize (w5.setCell ⟨gb,0,none⟩ (.string (itx c.num))).setCell ⟨gb,1,none⟩ (.string (dec c.den))=w6 at *;have FZ:=hd_ (FL.o.below I6.o);have i':=hd_ (BZ.o.below I6.o);have Da:w.heap.size+2<=ga:=by have:=dP.o;omega
     have Ed:w.heap.size+2<=gb:=by have:=dP.o;omega
     have JC:Hid (g8≠ga):=by have:=aL.o;show _≠_;omega
     have JB:Hid (g8≠gb):=by have:=aL.o;show _≠_;omega
     have Bl:=hd_ (Nat.le_trans dP.o I6.o.size);clear FL BZ I6 Ee Ec dP aL;simp only[RP.walkT];have IX:=Dm.o w6 FZ.o.bel;have cp:=E2.o w6 FZ.o.bel
     by_cases h2:pk=2
     ·have Iu:(pk != 2)=false:=by rw[h2];rfl
      have fy:Hid (c=c*xE pk b/\Sm (D+355) c):=⟨by rw[h2];unfold xE;rw[if_pos rfl,Rat.mul_one],dU.o.le (by omega)⟩;have fw:Hid (c=c*yE pk b/\Sm (D+355) c):=⟨by rw[h2];unfold yE;rw[if_pos rfl,Rat.mul_one],dU.o.le (by omega)⟩;clear F7;obtain⟨k0,k1,-,-⟩:=Ka FZ.o.e0;obtain⟨k2,k3,-,-⟩:=Ka FZ.o.e1;obtain⟨k4,k5,-,-⟩:=Ka BY.o;obtain⟨k6,k7,-,-⟩:=Ka BU.o;have q0:=NW.cell k0;have q1:=NW.cell k1;have q2:=NW.cell k2;have q3:=NW.cell k3;have q4:=NW.cell k4;have q5:=NW.cell k5;have q6:=NW.cell k6;have q7:=NW.cell k7;have gj:Nonempty (NW w6):=⟨⟨w6,Below.refl _ _⟩⟩;have I:Hid (Bw_ w6 w6.drew):=(Below.refl _ _).drew;have FJ:=hd_ (fun X (hX:Bw_ w6 X)=>HL.o.below (FZ.o.bel.trans (hX.mono FZ.o.bel.size)));have E0:=hd_ (fun X hX=>Zk0 X c c (D+355) (D+355) fy.o.2 fw.o.2 (by omega) (FJ.o X hX));have FD:=hd_ (fun X hX=>Zk1 X c c (D+355) (D+355) fy.o.2 fw.o.2 (by omega) (FJ.o X hX));have Gw:=hd_ (fun X hX=>Zxy X _ _ _ _ EI.o.1 (Zhe fy.o.2 fw.o.2) (by omega) (FJ.o X hX));have GK:=hd_ (fun X hX=>Zxy X _ _ _ _ EI.o.2 (Zhf fy.o.2 fw.o.2) (by omega) (FJ.o X hX));have Fv:loE b (ps.take k) (l.take k)+Zf5 c c=loE b (ps.take (k+1)) (l.take (k+1)):=by first | (rw[Gv.o.1];done) | (rw[Gv.o.1,<- fy.o.1,<- fw.o.1];done)
      have Fu:hiE b (ps.take k) (l.take k)+Zf6 c c=hiE b (ps.take (k+1)) (l.take (k+1)):=by first | (rw[Gv.o.2];done) | (rw[Gv.o.2,<- fy.o.1,<- fw.o.1];done)
      rw[Fv] at Gw;rw[Fu] at GK;clear Fv Fu FJ;unfold fr fv at E0 FD Gw GK;go_wp2_with fail;clear k0 k1 k2 k3 k4 k5 k6 k7;refine wn_ 10 [(1,0),(1,1),(1,2),(1,5),(1,6),(1,7),(0,3),(0,4),(0,8),(0,9),(0,10),(0,11)] I ?_;iterate 6 (refine wr_ rfl ?_;go_big_quiet_step (fail);refine wq_ ?_)
      clear q0 q1 q2 q3 q4 q5 q6 q7 gj;refine wm_ rfl ?_;go_wp2_with fail;refine cm_ (E0.o _ I.o) ?_;rintro e x1 ⟨rfl,hbx⟩;have J1:Hid (Bw_ w6 x1):=I.o.trans (hbx.mono I.o.size);clear hbx I E0;go_wp2_with fail;refine⟨⟨⟨_,J1.o⟩,rfl⟩,?_⟩;refine wm_ rfl ?_;go_wp2_with fail;refine cm_ (Gw.o _ J1.o) ?_;rintro e x2 ⟨rfl,hbx⟩;have J2:Hid (Bw_ w6 x2):=J1.o.trans (hbx.mono J1.o.size);clear hbx J1 Gw;go_wp2_with fail;refine⟨⟨⟨_,J2.o⟩,rfl⟩,?_⟩;refine wm_ rfl ?_;go_wp2_with fail;refine cm_ (FD.o _ J2.o) ?_;rintro e x3 ⟨rfl,hbx⟩;have J3:Hid (Bw_ w6 x3):=J2.o.trans (hbx.mono J2.o.size);clear hbx J2 FD;go_wp2_with fail;refine⟨⟨⟨_,J3.o⟩,rfl⟩,?_⟩;refine wm_ rfl ?_;go_wp2_with fail;refine cm_ (GK.o _ J3.o) ?_;rintro e x4 ⟨rfl,hbx⟩;have J4:Hid (Bw_ w6 x4):=J3.o.trans (hbx.mono J3.o.size);clear hbx J3 GK;go_wp2_with fail;refine⟨⟨⟨_,J4.o⟩,rfl⟩,?_⟩;have eK:=hd_ (FZ.o.below J4.o);have DV:=hd_ (Nat.le_trans Bl.o J4.o.size);obtain⟨k0,k1,f0,f1⟩:=Ka eK.o.e0;obtain⟨k2,k3,f2,f3⟩:=Ka eK.o.e1;have cM:=hd_ (eK.o.put (loE b (ps.take (k+1)) (l.take (k+1))) (hiE b (ps.take (k+1)) (l.take (k+1))));have DW:Hid (w.heap.size+2<=(Zo x4 w.heap.size (loE b (ps.take (k+1)) (l.take (k+1))) (hiE b (ps.take (k+1)) (l.take (k+1)))).heap.size):=by
       show _<=_
       unfold Zo;rw[World.size_setCell,World.size_setCell,World.size_setCell,World.size_setCell];exact DV.o
      unfold Zo at cM DW;clear eK J4 DV;refine wm_ rfl ?_;go_wp2_with fail;refine wm_ rfl ?_;go_wp2_with fail;simp only[RP.walkR];go_wp2_with fail;refine⟨⟨k+1,by omega,by go_num,cM,DW⟩,by simp[intOf];omega⟩
     ·have Iu:(pk != 2)=true:=by rw[bne_iff_ne];exact h2
      have aw:(pk==2)=false:=by rw[beq_eq_false_iff_ne];exact h2
      have fy:Hid (c*xE pk b=c*xE pk b/\Sm (D+355) (c*xE pk b)):=⟨rfl,dU.o.mul CC.o.1⟩;have fw:Hid (c*yE pk b=c*yE pk b/\Sm (D+355) (c*yE pk b)):=⟨rfl,dU.o.mul CC.o.2⟩;have EE:lgN pk b+2<2^K10/\2^b+1<2^K10:=by
       rw[Hq.o];exact Qaw Jr.o cJ.o
      have gN:=hd_ (fun W (hW:Bw_ w W)=>Qfi W (lgN pk b) (2^b) (by omega) EE.2 (Nat.two_pow_pos b) (HL.o.below hW));have GD:=hd_ (fun W (hW:Bw_ w W)=>Qfi W (lgN pk b+1) (2^b) (by omega) EE.2 (Nat.two_pow_pos b) (HL.o.below hW));have FW:=hd_ (fun W (hW:Bw_ w W)=>Zz7 W (lgN pk b) 1 K10 (by decide) (by omega) (Nat.one_lt_two_pow (by decide)) (HL.o.below hW));rw[Yo] at FW;have aS:mkRat ((lgN pk b:Nat):Int) (2^b)=xE pk b:=by unfold xE;rw[if_neg h2]
      have aQ:mkRat ((lgN pk b+1:Nat):Int) (2^b)=yE pk b:=by unfold yE;rw[if_neg h2]
      rw[aS] at gN;rw[aQ] at GD;have EZ:=hd_ (fun W (hW:Bw_ w W)=>Qdb W c (xE pk b) D 355 dU.o CC.o.1 (by omega) (HL.o.below hW));have EY:=hd_ (fun W (hW:Bw_ w W)=>Qdb W c (yE pk b) D 355 dU.o CC.o.2 (by omega) (HL.o.below hW));clear EE aS aQ h2;unfold fr fv at gN GD EZ EY;go_wp2_with fail;refine cm_ (F7.o _ FZ.o.bel) ?_;rintro e w7 ⟨rfl,hbx⟩;have BS:=hd_ (FZ.o.below hbx);have iW:=hd_ (BY.o.below hbx);have iU:=hd_ (BU.o.below hbx);have i7:=hd_ (i'.o.below hbx);have Bk:=hd_ (Nat.le_trans Bl.o hbx.size);clear hbx F7 FZ BY BU i' Bl IX cp;go_wp2_with fail;refine cm_ (gN.o _ BS.o.bel) ?_;rintro e w8 ⟨rfl,hbx⟩;have Gg:=hd_ (hbx.alloc hbx.size (.cells #[.string (itx (xE pk b).num),.string (dec (xE pk b).den)] 101));have BR:=hd_ (BS.o.below Gg.o);have iV:=hd_ (iW.o.below Gg.o);have iT:=hd_ (iU.o.below Gg.o);have i6:=hd_ (i7.o.below Gg.o);have DX:=hd_ (Nat.le_trans Bk.o Gg.o.size);have FX:=hd_ (Zc1.new w8 (xE pk b));have Aj:=hd_ (Nat.le_trans Bk.o hbx.size);clear hbx Gg BS iW iU i7 Bk gN;go_wp2_with fail;generalize w8.alloc (.cells #[.string (itx (xE pk b).num),.string (dec (xE pk b).den)] 101)=w9 at *;generalize w8.heap.size=gx at *;refine cm_ (FW.o _ BR.o.bel) ?_;rintro e w10 ⟨rfl,hbx⟩;have E7:=hd_ (BR.o.below hbx);have cW:=hd_ (iV.o.below hbx);have cU:=hd_ (iT.o.below hbx);have cY:=hd_ (i6.o.below hbx);have cR:=hd_ (FX.o.below hbx);have DZ:=hd_ (Nat.le_trans DX.o hbx.size);clear hbx BR iV iT i6 FX DX FW;go_wp2_with fail;refine cm_ (GD.o _ E7.o.bel) ?_;rintro e w11 ⟨rfl,hbx⟩;have Gg:=hd_ (hbx.alloc hbx.size (.cells #[.string (itx (yE pk b).num),.string (dec (yE pk b).den)] 101));have fU:=hd_ (E7.o.below Gg.o);have cV:=hd_ (cW.o.below Gg.o);have cT:=hd_ (cU.o.below Gg.o);have cX:=hd_ (cY.o.below Gg.o);have cQ:=hd_ (cR.o.below Gg.o);have cP:=hd_ (Zc1.new w11 (yE pk b));have DY:=hd_ (Nat.le_trans DZ.o Gg.o.size);obtain⟨k0,k1,-,-⟩:=Ka cX.o;obtain⟨k2,k3,-,-⟩:=Ka cQ.o;obtain⟨k4,k5,-,-⟩:=Ka cP.o;have q0:=NW.cell k0;have q1:=NW.cell k1;have q2:=NW.cell k2;have q3:=NW.cell k3;have q4:=NW.cell k4;have q5:=NW.cell k5;clear hbx Gg E7 cW cU cY cR DZ GD k0 k1 k2 k3 k4 k5;go_wp2_with fail;generalize w11.alloc (.cells #[.string (itx (yE pk b).num),.string (dec (yE pk b).den)] 101)=w12 at *;generalize w11.heap.size=gy at *;have gj:Nonempty (NW w12):=⟨⟨w12,Below.refl _ _⟩⟩;have I:Hid (Bw_ w12 w12.drew):=(Below.refl _ _).drew;refine wn_ 6 [(1,0),(1,1),(1,3),(1,4),(0,2),(0,5),(0,6),(0,7)] I ?_;iterate 4 (refine wr_ rfl ?_;go_big_quiet_step (fail);refine wq_ ?_)
      clear gj q0 q1 q2 q3 q4 q5;refine wm_ rfl ?_;go_wp2_with fail;refine cm_ (EZ.o _ (fU.o.bel.trans (I.o.mono fU.o.bel.size))) ?_;rintro e y1 ⟨rfl,hbx⟩;have J1:Hid (Bw_ w12 y1):=I.o.trans (hbx.mono I.o.size);clear hbx I EZ;go_wp2_with fail;refine⟨⟨⟨_,J1.o⟩,rfl⟩,?_⟩;refine wm_ rfl ?_;go_wp2_with fail;refine cm_ (EY.o _ (fU.o.bel.trans (J1.o.mono fU.o.bel.size))) ?_;rintro e y2 ⟨rfl,hbx⟩;have J2:Hid (Bw_ w12 y2):=J1.o.trans (hbx.mono J1.o.size);clear hbx J1 EY;go_wp2_with fail;refine⟨⟨⟨_,J2.o⟩,rfl⟩,?_⟩;have iO:=hd_ (fU.o.below J2.o);have BX:=hd_ (cV.o.below J2.o);have iS:=hd_ (cT.o.below J2.o);have AL:=hd_ (Nat.le_trans DY.o J2.o.size);obtain⟨k0,k1,f0,f1⟩:=Ka BX.o;have iY:=hd_ (BX.o.put (c*xE pk b));have BV:=hd_ (iS.o.set (Ne.symm FG.o) (.string (itx (c*xE pk b).num)) (.string (dec (c*xE pk b).den)));have cN:=hd_ (iO.o.set Da (.string (itx (c*xE pk b).num)) (.string (dec (c*xE pk b).den)));have AM:Hid (w.heap.size+2<=((y2.setCell ⟨ga,0,none⟩ (.string (itx (c*xE pk b).num))).setCell ⟨ga,1,none⟩ (.string (dec (c*xE pk b).den))).heap.size):=by
       show _<=_
       rw[World.size_setCell,World.size_setCell];exact AL.o
      clear fU cV cT cX cQ cP DY J2 iO BX iS AL;refine wm_ rfl ?_;go_wp2_with fail;generalize (y2.setCell ⟨ga,0,none⟩ (.string (itx (c*xE pk b).num))).setCell ⟨ga,1,none⟩ (.string (dec (c*xE pk b).den))=y3 at *;clear k0 k1 f0 f1;obtain⟨k0,k1,f0,f1⟩:=Ka BV.o;have ll:=hd_ (iY.o.set FG.o (.string (itx (c*yE pk b).num)) (.string (dec (c*yE pk b).den)));have lk:=hd_ (BV.o.put (c*yE pk b));have FK:=hd_ (cN.o.set Ed (.string (itx (c*yE pk b).num)) (.string (dec (c*yE pk b).den)));have Bm:Hid (w.heap.size+2<=((y3.setCell ⟨gb,0,none⟩ (.string (itx (c*yE pk b).num))).setCell ⟨gb,1,none⟩ (.string (dec (c*yE pk b).den))).heap.size):=by
       show _<=_
       rw[World.size_setCell,World.size_setCell];exact AM.o
      clear iY BV cN AM;refine wm_ rfl ?_;go_wp2_with fail;generalize (y3.setCell ⟨gb,0,none⟩ (.string (itx (c*yE pk b).num))).setCell ⟨gb,1,none⟩ (.string (dec (c*yE pk b).den))=y4 at *;clear k0 k1 f0 f1;simp only[RP.walkR];generalize hXc:c*xE pk b=vx at *;generalize hYc:c*yE pk b=vy at *;have fy:=hd_ (show c*xE pk b=vx/\Sm (D+355) vx from ⟨hXc,fy.o.2⟩);have fw:=hd_ (show c*yE pk b=vy/\Sm (D+355) vy from ⟨hYc,fw.o.2⟩);clear hXc hYc;obtain⟨k0,k1,-,-⟩:=Ka FK.o.e0;obtain⟨k2,k3,-,-⟩:=Ka FK.o.e1;obtain⟨k4,k5,-,-⟩:=Ka ll.o;obtain⟨k6,k7,-,-⟩:=Ka lk.o;have q0:=NW.cell k0;have q1:=NW.cell k1;have q2:=NW.cell k2;have q3:=NW.cell k3;have q4:=NW.cell k4;have q5:=NW.cell k5;have q6:=NW.cell k6;have q7:=NW.cell k7;have gj:Nonempty (NW y4):=⟨⟨y4,Below.refl _ _⟩⟩;have I:Hid (Bw_ y4 y4.drew):=(Below.refl _ _).drew;have FJ:=hd_ (fun X (hX:Bw_ y4 X)=>HL.o.below (FK.o.bel.trans (hX.mono FK.o.bel.size)));have E0:=hd_ (fun X hX=>Zk0 X vx vy (D+355) (D+355) fy.o.2 fw.o.2 (by omega) (FJ.o X hX));have FD:=hd_ (fun X hX=>Zk1 X vx vy (D+355) (D+355) fy.o.2 fw.o.2 (by omega) (FJ.o X hX));have Gw:=hd_ (fun X hX=>Zxy X _ _ _ _ EI.o.1 (Zhe fy.o.2 fw.o.2) (by omega) (FJ.o X hX));have GK:=hd_ (fun X hX=>Zxy X _ _ _ _ EI.o.2 (Zhf fy.o.2 fw.o.2) (by omega) (FJ.o X hX));have Fv:loE b (ps.take k) (l.take k)+Zf5 vx vy=loE b (ps.take (k+1)) (l.take (k+1)):=by first | (rw[Gv.o.1];done) | (rw[Gv.o.1,<- fy.o.1,<- fw.o.1];done)
      have Fu:hiE b (ps.take k) (l.take k)+Zf6 vx vy=hiE b (ps.take (k+1)) (l.take (k+1)):=by first | (rw[Gv.o.2];done) | (rw[Gv.o.2,<- fy.o.1,<- fw.o.1];done)
      rw[Fv] at Gw;rw[Fu] at GK;clear Fv Fu FJ;unfold fr fv at E0 FD Gw GK;go_wp2_with fail;clear k0 k1 k2 k3 k4 k5 k6 k7;refine wn_ 10 [(1,0),(1,1),(1,2),(1,5),(1,6),(1,7),(0,3),(0,4),(0,8),(0,9),(0,10),(0,11)] I ?_;iterate 6 (refine wr_ rfl ?_;go_big_quiet_step (fail);refine wq_ ?_)
      clear q0 q1 q2 q3 q4 q5 q6 q7 gj;refine wm_ rfl ?_;go_wp2_with fail;refine cm_ (E0.o _ I.o) ?_;rintro e x1 ⟨rfl,hbx⟩;have J1:Hid (Bw_ y4 x1):=I.o.trans (hbx.mono I.o.size);clear hbx I E0;go_wp2_with fail;refine⟨⟨⟨_,J1.o⟩,rfl⟩,?_⟩;refine wm_ rfl ?_;go_wp2_with fail;refine cm_ (Gw.o _ J1.o) ?_;rintro e x2 ⟨rfl,hbx⟩;have J2:Hid (Bw_ y4 x2):=J1.o.trans (hbx.mono J1.o.size);clear hbx J1 Gw;go_wp2_with fail;refine⟨⟨⟨_,J2.o⟩,rfl⟩,?_⟩;refine wm_ rfl ?_;go_wp2_with fail;refine cm_ (FD.o _ J2.o) ?_;rintro e x3 ⟨rfl,hbx⟩;have J3:Hid (Bw_ y4 x3):=J2.o.trans (hbx.mono J2.o.size);clear hbx J2 FD;go_wp2_with fail;refine⟨⟨⟨_,J3.o⟩,rfl⟩,?_⟩;refine wm_ rfl ?_;go_wp2_with fail;refine cm_ (GK.o _ J3.o) ?_;rintro e x4 ⟨rfl,hbx⟩;have J4:Hid (Bw_ y4 x4):=J3.o.trans (hbx.mono J3.o.size);clear hbx J3 GK;go_wp2_with fail;refine⟨⟨⟨_,J4.o⟩,rfl⟩,?_⟩;have eK:=hd_ (FK.o.below J4.o);have DV:=hd_ (Nat.le_trans Bm.o J4.o.size);obtain⟨k0,k1,f0,f1⟩:=Ka eK.o.e0;obtain⟨k2,k3,f2,f3⟩:=Ka eK.o.e1;have cM:=hd_ (eK.o.put (loE b (ps.take (k+1)) (l.take (k+1))) (hiE b (ps.take (k+1)) (l.take (k+1))));have DW:Hid (w.heap.size+2<=(Zo x4 w.heap.size (loE b (ps.take (k+1)) (l.take (k+1))) (hiE b (ps.take (k+1)) (l.take (k+1)))).heap.size):=by
       show _<=_
       unfold Zo;rw[World.size_setCell,World.size_setCell,World.size_setCell,World.size_setCell];exact DV.o
      unfold Zo at cM DW;clear eK J4 DV;refine wm_ rfl ?_;go_wp2_with fail;refine wm_ rfl ?_;go_wp2_with fail;simp only[RP.walkR];go_wp2_with fail;refine⟨⟨k+1,by omega,by go_num,cM,DW⟩,by simp[intOf];omega⟩
  ·obtain rfl:k=n:=by omega
   have gu:¬ (k:Int)<k:=by omega
   have Ex:=Hv.o trivial;rw[<- Ex.1,<- Ex.2] at HE;have Fe:=hd_ Ex;clear Ex Hv;have CA:∀ p:EnW w vlo vhi,p.w.cell? ⟨w.heap.size,0,none⟩=some (.string (itx vlo.num)):=fun p=>p.cells.1
   have bY:∀ p:EnW w vlo vhi,p.w.cell? ⟨w.heap.size,1,none⟩=some (.string (dec vlo.den)):=fun p=>p.cells.2.1
   have bX:∀ p:EnW w vlo vhi,p.w.cell? ⟨w.heap.size+1,0,none⟩=some (.string (itx vhi.num)):=fun p=>p.cells.2.2.1
   have bW:∀ p:EnW w vlo vhi,p.w.cell? ⟨w.heap.size+1,1,none⟩=some (.string (dec vhi.den)):=fun p=>p.cells.2.2.2
   have gj:Nonempty (EnW w vlo vhi):=⟨⟨_,HE.o⟩⟩;have BQ:=hd_ (HE.o.below (Qj wr 1));go_wp2_with fail;refine RP.wp_region_readers 3 [(1,0),(1,1),(0,2),(0,3)] (fun w'=>∃ p:EnW w vlo vhi,w'=p.w) (by kernel_rfl) (by kernel_rfl) ?_ ?_
   ·exact⟨⟨_,BQ.o⟩,rfl⟩
   iterate 2 (refine wr_ rfl ?_;go_big_quiet_step (fail);refine wq_ ?_)
   clear gj CA bY bX bW;obtain⟨k0,k1,f0,f1⟩:=Ka HE.o.e0;have eW:=hd_ (BQ.o.put0 vlo);refine wm_ rfl ?_;go_wp2_with fail;refine⟨⟨⟨_,eW.o⟩,rfl⟩,?_⟩;have FL:Hid (EnI w ((wr.setCell ⟨w.heap.size,0,none⟩ (.string (itx vlo.num))).setCell ⟨w.heap.size,1,none⟩ (.string (dec vlo.den))).drew vlo vhi):=eW.o;clear k0 k1 f0 f1 eW BQ HE;generalize ((wr.setCell ⟨w.heap.size,0,none⟩ (.string (itx vlo.num))).setCell ⟨w.heap.size,1,none⟩ (.string (dec vlo.den))).drew=wz at *;obtain⟨k2,k3,f2,f3⟩:=Ka FL.o.e1;have Dq:=hd_ (FL.o.put1 vhi);refine wm_ rfl ?_;go_wp2_with fail;simp only[RP.walkR];generalize (wz.setCell ⟨w.heap.size+1,0,none⟩ (.string (itx vhi.num))).setCell ⟨w.heap.size+1,1,none⟩ (.string (dec vhi.den))=w9 at *;clear k2 k3 f2 f3 FL;obtain⟨c0',c1',-,-⟩:=Ka Dq.o.e0;obtain⟨c2',c3',-,-⟩:=Ka Dq.o.e1;go_wp2_with fail;exact bodyPost_ret (v := .tuple #[.agg #[.string (itx vlo.num),.string (dec vlo.den)],.agg #[.string (itx vhi.num),.string (dec vhi.den)]]) (by simp[results,Tryz.results124,go_sem,c0',c1',c2',c3']) rfl ⟨rfl,Dq.o.bel⟩
structure Zxq (w:World) (V:List Value) (ls:List (List Int)):Prop where
 len:V.length=ls.length
 at_:∀ i,i<ls.length->∃ a' c',V[i]?=some (.slice a' (ls.getD i []).length c')/\Rd w a' (Qw (ls.getD i []))
theorem Zxq.below{w w':World}{V:List Value}{ls:List (List Int)}{B:Nat}(h:Zxq w V ls)(hb:Below B w w')(hB:w.heap.size<=B):Zxq w' V ls :=
 ⟨h.len,fun i hi=>by obtain⟨a',c',h1,h2⟩:=h.at_ i hi;exact⟨a',c',h1,h2.below hb hB⟩⟩
theorem Zxq.nil(w:World):Zxq w [] []:=⟨rfl,fun i hi=>absurd hi (Nat.not_lt_zero i)⟩
theorem Zxq.append{w:World}{V V':List Value}{ls ls':List (List Int)}(h:Zxq w V ls)(k:Zxq w V' ls'):Zxq w (V++V') (ls++ls'):=by
 refine⟨by simp[h.len,k.len],fun i hi=>?_⟩
 by_cases CZ:i<ls.length
 ·obtain⟨a',c',h1,h2⟩:=h.at_ i CZ;have e:(ls++ls').getD i []=ls.getD i []:=by rw[List.getD_eq_getElem?_getD,List.getD_eq_getElem?_getD,List.getElem?_append_left CZ]
  rw[e];exact⟨a',c',by rw[List.getElem?_append_left (by rw[h.len];exact CZ)];exact h1,h2⟩
 ·rw[List.length_append] at hi;obtain⟨a',c',h1,h2⟩:=k.at_ (i-ls.length) (by omega);have e:(ls++ls').getD i []=ls'.getD (i-ls.length) []:=by rw[List.getD_eq_getElem?_getD,List.getD_eq_getElem?_getD,List.getElem?_append_right (by omega)]
  rw[e];exact⟨a',c',by rw[List.getElem?_append_right (by rw[h.len];omega),h.len];exact h1,h2⟩
theorem Zxq.one{w:World}{V:List Value}{ls:List (List Int)}(h:Zxq w V ls):∀ u∈V,u.oneCell'=true:=fun u hu=>by
 obtain⟨i,hi,rfl⟩:=List.mem_iff_getElem.1 hu;obtain⟨a',c',h1,_⟩:=h.at_ i (by rw[<- h.len];exact hi);rw[List.getElem?_eq_getElem hi] at h1;rw[Option.some.inj h1];rfl
theorem Zf3{P:Program}{w:World}{ops:Array Oper}{rest:List Oper}{o:Oper}{a:Act}{Q:Exit->Act->World->Prop}(dm:o.guard=none)(s x:Operand)(t:TypeId)
  (ho:o.op = .call { callee := .builtin .append,args := #[s,x],argTypes := #[t,t] }) {e:TypeId} {z:Value} {bytes:Nat} (E:Zba P t e z 1 bytes)
  (v:Value) (hs:a.eval s=v) {base n:Nat} {xs:List Value} (gl:w.ownsRow base e 1 v n xs) (ad:OA_) (m c:Nat) (V:List Value) (hx:a.eval x = .slice ad m c) (Gy:ad=none->m=0/\c=0) (hl:V.length=m) (hr:Rd w ad V) (h1:∀ u∈V,u.oneCell'=true)
  (h63:n+m<=4611686018427387904) (hbytes:(n+m)*bytes<=140737488355328) (hbase:base<=w.heap.size)
  (h:∀ v' w',w'.ownsRow base e 1 v' (n+m) (xs++V)->w.grownBy w' v.ownBlock->wpList P ops Q rest (a.put o.dst v') w'):wpList P ops Q (o::rest) a w:=by
 obtain⟨i,hi,hz,hsize,hby⟩:=E.info
 match ad,hr,Gy with
 | none,hr,Gy =>
  obtain⟨rfl,rfl⟩:=Gy rfl;obtain rfl:V=[]:=List.eq_nil_of_length_eq_zero hl;refine wpList_append_own_none dm s x t ho base e i 1 E.ht hi v n xs hs gl hx ?_;exact h v w (by simpa using gl) ⟨rfl,rfl,rfl,Nat.le_refl _,fun _ _ _=>rfl⟩
 | some ad,hr,_ =>
  refine wpList_append_own _ dm s x t ho base e i z 1 bytes E.ht hi hz hsize hby E.hzs E.pos v n xs hs gl ad m c V hx (by omega) ?_ h1 (by unfold maxLen;omega) hbytes hbase fun v' w' h2 h3 _=>h v' w' h2 h3
  intro j u hj;rcases hr with rfl|⟨b,off,hb,_,hc⟩
  ·simp at hj
  ·obtain rfl:=Option.some.inj hb;have:=hc j u hj
   have eD:(⟨b,off,none⟩:Addr).add j=⟨b,off+j,none⟩:=by unfold Addr.add;split<;>simp_all
   rw[eD];exact this
def Qgp (w:World) (n:Nat) (l:List Int) (e:Ending):Prop:=(mx l=0/\∃ a c,e = .returned (.tuple #[.slice a n c,.int .i64 0])/\Rd w a (Qw l))\/(mx l≠0/\e = .returned (.tuple #[.slice none 0 0,.int .i64 4]))
theorem Qgp.form{w:World}{n:Nat}{l:List Int}{e:Ending}(h:Qgp w n l e):∃ v1 v2,e = .returned (.tuple #[v1,v2]):=by
 rcases h with⟨_,a,c,h,_⟩|⟨_,h⟩
 ·exact⟨_,_,h⟩
 ·exact⟨_,_,h⟩
def Ok (c:Nat->Nat->Int) (u v:Nat):Prop:=0<=c v u/\(c v u=0->u<v)
structure Srt (c:Nat->Nat->Int) (n i:Nat) (F:Nat->Nat):Prop where
 lt:∀ k,k<n->F k<n
 inj:∀ k m,k<n->m<n->F k=F m->k=m
 hi:∀ k,i<=k->k<n->F k=k
 lo:∀ k,k<i->F k<i
 adj:∀ k,k+1<i->Ok c (F k) (F (k+1))
structure Ins (c:Nat->Nat->Int) (n i j:Nat) (F:Nat->Nat):Prop where
 lt:∀ k,k<n->F k<n
 inj:∀ k m,k<n->m<n->F k=F m->k=m
 x:F j=i
 hi:∀ k,i<k->k<n->F k=k
 lo:∀ k,k<=i->F k<=i
 a1:∀ k,k+1<j->Ok c (F k) (F (k+1))
 a2:∀ k,j<k->k+1<=i->Ok c (F k) (F (k+1))
 a3:∀ k,k+1=j->j<i->Ok c (F k) (F (j+1))
 a4:j<i->Ok c i (F (j+1))
 ji:j<=i
 n:i<n
theorem Srt.first(c:Nat->Nat->Int)(n:Nat):Srt c n 1 fun k=>k :=
 ⟨fun _ h=>h,fun _ _ _ _ h=>h,fun _ _ _=>rfl,fun _ h=>h,fun _ h=>by omega⟩
theorem Ins.stop{c:Nat->Nat->Int}{n i j:Nat}{F:Nat->Nat}(h:Ins c n i j F)(hs:j=0\/0<=c (F j) (F (j-1))):Srt c n (i+1) F:=by
 refine⟨h.lt,h.inj,fun k h1 h2=>h.hi k (by omega) h2,fun k hk=>Nat.lt_succ_of_le (h.lo k (by omega)),fun k hk=>?_⟩;have GS:=h.ji;have hn:=h.n;rcases Nat.lt_trichotomy (k+1) j with h1|h1|h1
 ·exact h.a1 k h1
 ·rcases hs with h0 | h0
  ·omega
  ·have e:j-1=k:=by omega
   rw[e] at h0;rw[h1];refine⟨h0,fun _=>?_⟩;have hx:=h.x;have h2:=h.lo k (by omega);have h3:F k≠F j:=fun e=>by have:=h.inj k j (by omega) (by omega) e;omega
   omega
 ·rcases Nat.lt_or_ge j k with h2 | h2
  ·exact h.a2 k h2 (by omega)
  ·have e:k=j:=by omega
   subst e;rw[h.x];exact h.a4 (by omega)
def swF (F:Nat->Nat) (j:Nat):Nat->Nat:=fun k=>if k=j then F (j+1) else if k=j+1 then F j else F k
theorem Ins.swap{c:Nat->Nat->Int}(hc:∀ u v,c v u = - c u v){n i j:Nat}{F:Nat->Nat}(h:Ins c n i (j+1) F)(hs:c (F (j+1)) (F j)<0):Ins c n i j (swF F j):=by
 have GS:=h.ji;have hn:=h.n;have hx:=h.x;have s1:swF F j j=i:=by unfold swF;rw[if_pos rfl];exact hx
 have s2:swF F j (j+1)=F j:=by unfold swF;rw[if_neg (by omega),if_pos rfl]
 have s3:∀ k,k≠j->k≠j+1->swF F j k=F k:=fun k h1 h2=>by unfold swF;rw[if_neg h1,if_neg h2]
 refine⟨fun k hk=>?_,fun k m hk hm e=>?_,s1,fun k h1 h2=>?_,fun k hk=>?_,fun k hk=>?_,fun k h1 h2=>?_,fun k h1 h2=>?_,fun h1=>?_,by omega,hn⟩
 ·unfold swF;split
  ·exact h.lt _ (by omega)
  ·split
   ·exact h.lt _ (by omega)
   ·exact h.lt _ hk
 ·unfold swF at e
  by_cases k1:k=j
  ·by_cases m1:m=j
   ·omega
   ·rw[if_pos k1,if_neg m1] at e
    by_cases m2:m=j+1
    ·rw[if_pos m2] at e;have:=h.inj _ _ (by omega) (by omega) e
     omega
    ·rw[if_neg m2] at e;have:=h.inj _ _ (by omega) hm e
     omega
  ·rw[if_neg k1] at e
   by_cases k2:k=j+1
   ·rw[if_pos k2] at e
    by_cases m1:m=j
    ·rw[if_pos m1] at e;have:=h.inj _ _ (by omega) (by omega) e
     omega
    ·rw[if_neg m1] at e
     by_cases m2:m=j+1
     ·omega
     ·rw[if_neg m2] at e;have:=h.inj _ _ (by omega) hm e
      omega
   ·rw[if_neg k2] at e
    by_cases m1:m=j
    ·rw[if_pos m1] at e;have:=h.inj _ _ hk (by omega) e
     omega
    ·rw[if_neg m1] at e
     by_cases m2:m=j+1
     ·rw[if_pos m2] at e;have:=h.inj _ _ hk (by omega) e
      omega
     ·rw[if_neg m2] at e;exact h.inj _ _ hk hm e
 ·rw[s3 k (by omega) (by omega)];exact h.hi k h1 h2
 ·unfold swF;split
  ·omega
  ·split
   ·exact h.lo _ (by omega)
   ·exact h.lo _ hk
 ·rw[s3 k (by omega) (by omega),s3 (k+1) (by omega) (by omega)];exact h.a1 k (by omega)
 ·rcases Nat.lt_or_ge (j+1) k with h3 | h3
  ·rw[s3 k (by omega) (by omega),s3 (k+1) (by omega) (by omega)];exact h.a2 k h3 h2
  ·have e:k=j+1:=by omega
   subst e;rw[s2,s3 (j+1+1) (by omega) (by omega)];exact h.a3 j rfl (by omega)
 ·subst h1;rw[s3 k (by omega) (by omega),s2];exact h.a1 k (by omega)
 ·rw[s2,<- hx];have e:=hc (F (j+1)) (F j);exact⟨by omega,fun h0=>by omega⟩
structure Zxr (W:World) (g n:Nat) (F:Nat->Nat):Prop where
 lt:g<W.heap.size
 cell:∀ k,k<n->W.cell? ⟨g,k,none⟩=some (.int .i64 (F k:Nat))
 fr:∀ k,W.frozen? ⟨g,k,none⟩=false
theorem Zxr.below{W W':World}{g n D:Nat}{F:Nat->Nat}(h:Zxr W g n F)(hb:Below D W W')(hD:W.heap.size<=D):Zxr W' g n F:=by
 have gd:=h.lt;have e:=hb.block g (by omega);have hs:=hb.size;refine⟨?_,fun k hk=>?_,fun k=>?_⟩
 ·have h2:=Array.getElem?_eq_some_iff.1 (show W.heap[g]?=some W.heap[g] from Array.getElem?_eq_getElem gd);rw[Array.getElem?_eq_getElem gd] at e;exact(Array.getElem?_eq_some_iff.1 e).1
 ·rw[hb.cell (p:=⟨g,k,none⟩) (show g<D by omega)];exact h.cell k hk
 ·have:=h.fr k
  unfold World.frozen? at this ⊢;rw[show W'.heap[(⟨g,k,none⟩:Addr).block]?=W.heap[(⟨g,k,none⟩:Addr).block]? from e];exact this
theorem Zxr.swap{W:World}{g n:Nat}{F:Nat->Nat}(h:Zxr W g n F)(j:Nat)(hj:j+1<n):
  Zxr ((W.setCell ⟨g,j+1,none⟩ (.int .i64 (F j:Nat))).setCell ⟨g,j,none⟩ (.int .i64 (F (j+1):Nat))) g n (swF F j):=by
 have h0:=h.cell j (by omega);have h1:=h.cell (j+1) hj;have ne:∀ a b:Nat,a≠b->(⟨g,a,none⟩:Addr)≠⟨g,b,none⟩:=fun a b G2 e=>by cases e;exact G2 rfl
 refine⟨by simpa using h.lt,fun k hk=>?_,fun k=>?_⟩
 ·unfold swF
  by_cases k1:k=j
  ·subst k1;rw[if_pos rfl];exact World.cell?_setCell_same _ _ _ (u := .int .i64 (F k:Nat)) (by rw[World.cell?_setCell_other _ _ _ _ (ne _ _ (by omega))];exact h0)
  ·rw[if_neg k1,World.cell?_setCell_other _ _ _ _ (ne _ _ (fun e=>k1 e.symm))]
   by_cases k2:k=j+1
   ·subst k2;rw[if_pos rfl];exact World.cell?_setCell_same _ _ _ h1
   ·rw[if_neg k2,World.cell?_setCell_other _ _ _ _ (ne _ _ (fun e=>k2 e.symm))];exact h.cell k hk
 ·have:=h.fr k
  simpa using this
structure Qgd (c:Nat->Nat->Int) (n:Nat) (F:Nat->Nat):Prop where
 lt:∀ k,k<n->F k<n
 inj:∀ k m,k<n->m<n->F k=F m->k=m
 adj:∀ k,k+1<n->Ok c (F k) (F (k+1))
structure Zxp (W:World) (ps:List Int) (g2 g3:Nat) (a0 al:OA_) (c0 cl:Nat) (LL:List (List Rat)):Prop where
 h2:W.heap[g2]?=some (.cells #[.slice a0 ps.length c0] 31 (0,0))
 h3:W.heap[g3]?=some (.cells #[.slice al LL.length cl] 54 (0,0))
 rp:Rd W a0 (Qw ps)
 rl:RdL W al (LL.map (List.map qs))
theorem Zxp.below{W W':World}{ps:List Int}{g2 g3:Nat}{a0 al:OA_}{c0 cl:Nat}{LL:List (List Rat)}(h:Zxp W ps g2 g3 a0 al c0 cl LL){D:Nat}(hb:Below D W W')(hD:W.heap.size<=D):Zxp W' ps g2 g3 a0 al c0 cl LL :=
 ⟨Zm5 h.h2 hb hD,Zm5 h.h3 hb hD,h.rp.below hb hD,h.rl.below hb hD⟩
structure Qfb (ps:List Int) (LL:List (List Rat)):Prop where
 p0:Vd ps=0
 pr:∀ p∈ps,2<=p/\p<=97
 pos:∀ p∈ps,0<p
 n:ps.length<=100
 len:∀ l∈LL,l.length=ps.length
 sm:∀ l∈LL,∀ q∈l,Sm 30 q
 good:∀ a∈LL,∀ b∈LL,Zh9 ps (Zuf a b)
def cS (ps:List Int) (LL:List (List Rat)) (u v:Nat):Int:=if u<LL.length/\v<LL.length then LN.sz ps (Zuf (LL.getD u []) (LL.getD v [])) else 0
theorem Zem{LL:List (List Rat)}{u:Nat}(h:u<LL.length):LL.getD u []∈LL:=by
 rw[List.getD_eq_getElem?_getD,List.getElem?_eq_getElem h];exact List.getElem_mem h
theorem Zxr.rd{W:World}{g n:Nat}{F:Nat->Nat}(h:Zxr W g n F):Rd W (some ⟨g,0,none⟩) (Qw ((List.range n).map fun (k:Nat)=>((F k:Nat):Int))):=by
 refine .inr ⟨g,0,rfl,h.lt,fun i v hv=>?_⟩;rw[Nat.zero_add];have hi:i<n:=by
  have:=(List.getElem?_eq_some_iff.1 hv).1
  simpa [Qn] using this
 rw[Zaf _ i (by simpa using hi)] at hv;cases hv
 rw[h.cell i hi];simp
theorem Zii{l:List UInt8}(h:Zbd l)(t:Nat)(ht:t<=18):Qt (l.take t)<1000000000000000000:=by
 have h1:=Zab (h.take t);have h2:10^(l.take t).length<=10^18:=Nat.pow_le_pow_right (by decide) (by simp;omega);exact Nat.lt_of_lt_of_le h1 h2
def Zuc (W:World) (g:Nat) (t:TypeId) (D:List UInt8):Prop:=W.rowIs g t D.length (fun i => .int .u8 ((D.getD i 0).toNat:Nat))
theorem Zuc.cell{W:World}{g:Nat}{t:TypeId}{D:List UInt8}(h:Zuc W g t D){i:Nat}(hi:i<D.length):W.cell? ⟨g,i,none⟩=some (.int .u8 ((D.getD i 0).toNat:Nat)):=World.rowIs.cell h hi
theorem Zuc.frozen{W:World}{g:Nat}{t:TypeId}{D:List UInt8}(h:Zuc W g t D)(i:Nat):W.frozen? ⟨g,i,none⟩=false:=World.rowIs.frozen h i
theorem Zuc.set{W:World}{g:Nat}{t:TypeId}{D:List UInt8}(h:Zuc W g t D)(i x:Nat)(hx:x<256):Zuc (W.setCell ⟨g,i,none⟩ (.int .u8 (x:Nat))) g t (D.set i (UInt8.ofNat x)):=by
 unfold Zuc;rw[List.length_set];refine(World.rowIs.set h i _).congr fun j hj=>?_
 by_cases e:j=i
 ·subst e;rw[if_pos rfl];simp only[List.getD_eq_getElem?_getD,List.getElem?_set];simp only[if_true,if_pos hj,Option.getD_some];simp[Nat.mod_eq_of_lt hx]
 ·rw[if_neg e];simp only[List.getD_eq_getElem?_getD,List.getElem?_set];rw[if_neg (fun h=>e h.symm)]
theorem Zuc.text{W:World}{g:Nat}{t src dst e:TypeId}{D:List UInt8}(h:Zuc W g t D)(k n c:Nat)(hn:k+n=D.length)
  (hs:Tryz.prog.underlying src=some (.slice e)) (he:Tryz.prog.underlying e=some (.int .u8)) (hd:Tryz.prog.underlying dst=some .string) :
  (convert src dst (.slice (some ⟨g,k,none⟩) n c)).run Tryz.prog W = .ok (.string ⟨(D.drop k).toArray⟩) W:=by
 have hl:(D.drop k).length=n:=by simp;omega
 rw[<- hl];refine run_convert_bytes_back W src dst e ⟨g,k,none⟩ c (D.drop k) hs he hd fun j hj=>?_
 rw[Lib.add_plain];rw[Zuc.cell h (by omega)];rw[List.getD_eq_getElem?_getD,List.getElem?_eq_getElem (by omega)];simp
def jn (L:List ByteArray):ByteArray:=⟨(Lib.join (L.map (·.data.toList)) [32]).toArray⟩
theorem Zbd.reverse{l:List UInt8}(h:Zbd l):Zbd l.reverse:=fun c hc=>h c (List.mem_reverse.1 hc)
structure JAt (w:World) (n:Nat) (T:List UInt8) (wr:World):Prop where
 row:∃ D,Zuc wr w.heap.size 5 D/\D.length=9*n+1/\(D.getD 0 0).toNat=48/\D.drop (9*n+1-T.length)=T
 bel:Bw_ w wr
theorem JAt.set{w wr:World}{n:Nat}{T:List UInt8}(h:JAt w n T wr)(m x:Nat)(hm:m+T.length=9*n)(di:0<m)(hx:x<256):JAt w n (UInt8.ofNat x::T) (wr.setCell ⟨w.heap.size,m,none⟩ (.int .u8 (x:Nat))):=by
 obtain⟨D,h1,h2,h3,h4⟩:=h.row;refine⟨⟨D.set m (UInt8.ofNat x),h1.set m x hx,by rw[List.length_set];exact h2,?_,?_⟩,h.bel.setCell nr_ _⟩
 ·rw[List.getD_eq_getElem?_getD,List.getElem?_set_ne (by omega),<- List.getD_eq_getElem?_getD];exact h3
 ·have e:9*n+1-(UInt8.ofNat x::T).length=m:=by simp;omega
  rw[e,List.drop_eq_getElem_cons (by simp;omega),List.getElem_set_self,List.drop_set,if_pos (by omega)];congr 1;rw[<- h4];congr 1;omega
theorem JAt.cell{w wr:World}{n:Nat}{T:List UInt8}(h:JAt w n T wr)(m:Nat)(hm:m<=9*n):(∃ x:Nat,wr.cell? ⟨w.heap.size,m,none⟩=some (.int .u8 x))/\wr.frozen? ⟨w.heap.size,m,none⟩=false:=by
 obtain⟨D,h1,h2,_,_⟩:=h.row;exact⟨⟨_,h1.cell (by omega)⟩,h1.frozen m⟩
theorem JAt.done{w wr:World}{n:Nat}{T:List UInt8}(h:JAt w n T wr)(hT:T.length=9*n)(hd:Zbd T):∃ D,Zuc wr w.heap.size 5 D/\D.length=9*n+1/\Zbd D/\Qt D=Qt T:=by
 obtain⟨D,h1,h2,h3,h4⟩:=h.row;have e:9*n+1-T.length=1:=by omega
 rw[e] at h4
 match D,h2,h3,h4 with
 | c::D,h2,h3,h4 =>
  obtain rfl:D=T:=by simpa using h4
  have hc:c.toNat=48:=by simpa using h3
  refine⟨_,h1,h2,fun y hy=>?_,?_⟩
  ·rcases List.mem_cons.1 hy with rfl | hy
   ·omega
   ·exact hd y hy
  ·rw[Zaj,hc];simp
end Go.Proofs.YtbielfplgbammaaGreatDoor

namespace Go.Proofs.YtbielfplgbammaaGreatDoor.LN
def upP:List Int->List Int->Nat
 | p::ps,k::ks=>p.toNat^k.toNat*upP ps ks
 | _,_=>1
theorem upP_snoc:∀ (ps ks:List Int) (p k:Int),ps.length=ks.length->upP (ps++[p]) (ks++[k])=upP ps ks*p.toNat^k.toNat
 | [],[],p,k,_=>by simp[upP]
 | q::ps,m::ks,p,k,h=>by
  have ih:=upP_snoc ps ks p k (by simpa using h);simp only[List.cons_append,upP];rw[ih,Nat.mul_assoc]
theorem upP_le(K:Nat):∀ (ps ks:List Int),(∀ p∈ps,2<=p/\p<=97)->(∀ k∈ks,k<=(K:Int))->upP ps ks<10^(2*K*ps.length+1)
 | [],_,_,_=>by simp[upP]
 | _::_,[],_,_=>by
  simp only[upP];exact Nat.one_lt_pow (by omega) (by decide)
 | p::ps,k::ks,h,h2=>by
  have ih:=upP_le K ps ks (fun q hq=>h q (List.mem_cons_of_mem _ hq)) fun q hq=>h2 q (List.mem_cons_of_mem _ hq)
  obtain⟨a,b⟩:=h p List.mem_cons_self;have hk:=h2 k List.mem_cons_self;simp only[upP];have h3:p.toNat^k.toNat<=100^k.toNat:=Nat.pow_le_pow_left (by omega) _;have h4:100^k.toNat<=100^K:=Nat.pow_le_pow_right (by decide) (by omega);have h5:(100:Nat)^K=10^(2*K):=by rw[show (100:Nat)=10^2 from rfl,<- Nat.pow_mul]
  rw[h5] at h4;have e:10^(2*K*(p::ps).length+1)=10^(2*K)*10^(2*K*ps.length+1):=by rw[<- Nat.pow_add];congr 1;rw[List.length_cons,Nat.mul_add];omega
  rw[e];exact Nat.mul_lt_mul_of_le_of_lt (Nat.le_trans h3 h4) ih (Nat.pow_pos (by decide))
end Go.Proofs.YtbielfplgbammaaGreatDoor.LN

namespace Go.Proofs.YtbielfplgbammaaGreatDoor
open Go.RowKit
structure Qe9 (ps ks:List Int) (k u d:Nat):Prop where
 up:u=LN.upP (ps.take k) (ks.take k)
 dn:d=LN.upP (ps.take k) ((ks.map fun z => -z).take k)
 le:∀ z∈ks.take k,z<=500 /\ -500<=z
theorem Zc6{α:Type}(l:List α)(k:Nat)(h:k<l.length):l.take (k+1)=l.take k++[l[k]]:=List.take_succ_eq_append_getElem h
theorem Qe9.next{ps ks:List Int}{k u d:Nat}(h:Qe9 ps ks k u d)(h1:k<ps.length)(hk:k<ks.length)(hz:ks[k]<=500 /\ -500<=ks[k]):
  Qe9 ps ks (k+1) (u*ps[k].toNat^ks[k].toNat) (d*ps[k].toNat^(-ks[k]).toNat):=by
 refine⟨?_,?_,?_⟩
 ·rw[Zc6 ps k h1,Zc6 ks k hk,LN.upP_snoc _ _ _ _ (by simp;omega),<- h.up]
 ·have fX:k<(ks.map fun z => -z).length:=by simpa using hk
  rw[Zc6 ps k h1,Zc6 _ k fX,LN.upP_snoc _ _ _ _ (by simp;omega),<- h.dn,List.getElem_map]
 ·intro z fA;rw[Zc6 ks k hk] at fA;rcases List.mem_append.1 fA with h3|h3
  ·exact h.le z h3
  ·obtain rfl:=List.mem_singleton.1 h3;exact hz
theorem Qe9.num{ps ks:List Int}{k u d:Nat}(h:Qe9 ps ks k u d)(hp:∀ p∈ps,2<=p/\p<=97)(hn:ps.length<=100):Num u/\Num d:=by
 have hl:(ps.take k).length<=100:=by simp;omega
 have hb:2*500*(ps.take k).length+1<=1000000:=by omega
 have Ie:∀ p∈ps.take k,2<=p/\p<=97:=fun p Cc=>hp p (List.mem_of_mem_take Cc)
 refine⟨?_,?_⟩
 ·rw[h.up];exact Ku (LN.upP_le 500 _ _ Ie fun z hz=>by have:=h.le z hz;omega) (by omega) hb
 ·rw[h.dn];refine Ku (LN.upP_le 500 _ _ Ie fun z hz=>?_) (by omega) hb;rw[<- List.map_take] at hz;obtain⟨y,hy,rfl⟩:=List.mem_map.1 hz;have:=h.le y hy
  omega
end Go.Proofs.YtbielfplgbammaaGreatDoor

namespace Go.Proofs.YtbielfplgbammaaGreatDoor
open Go.ChangeShapes Go.WideShapes Go.ChangeAt Go.RowKit Go.Joins
section
variable {H:Type} {enc:TypeId×Value->H} {W:World}
end
end Go.Proofs.YtbielfplgbammaaGreatDoor

namespace Go.Proofs.YtbielfplgbammaaGreatDoor
open Go.RowKit
theorem Zvp{w:World}{B1 B2 s1 s2 n1 n2:Nat}{e1 e2:TypeId}{v1 v2:Value}{x1 x2:List Value}(h1:w.ownsRow B1 e1 s1 v1 n1 x1)(h2:w.ownsRow B2 e2 s2 v2 n2 x2)(gm:e1≠e2):
  ∀ k,v1.ownBlock=some k->v2.ownBlock≠some k:=by
 intro k hk fX;rcases h1.2 with⟨rfl,_⟩|⟨g,cap,cur,rfl,_,hg,_⟩
 ·simp[Value.ownBlock] at hk
 ·rcases h2.2 with⟨rfl,_⟩ | ⟨g2,cap2,cur2,rfl,_,hg2,_⟩
  ·simp[Value.ownBlock] at fX
  ·simp only[Value.ownBlock,Option.some.injEq] at hk fX;subst hk;subst fX;rw[hg] at hg2;simp only[Option.some.injEq,Obj.cells.injEq] at hg2;exact gm hg2.2.1
structure Qde (w:World) (B:Nat) (b:OA_) (d:Nat) (n:Nat) (L:List (OA_×Nat)) (ls:List (List Rat)):Prop where
 len:L.length=ls.length
 row:w.ownsRow B 35 1 (.slice b L.length d) L.length (L.map fun x => .slice x.1 n x.2)
 each:∀ i (h1:i<L.length) (h2:i<ls.length),Zbc w B L[i].1 L[i].2 ls[i]
 lens:∀ l∈ls,l.length=n
theorem Qde.below{w w':World}{B d n:Nat}{b:OA_}{L:List (OA_×Nat)}{ls:List (List Rat)}(h:Qde w B b d n L ls)(hb:Bw_ w w'):Qde w' B b d n L ls :=
 ⟨h.len,Yg h.row hb nr_,fun i h1 h2=>(h.each i h1 h2).below hb nr_,h.lens⟩
end Go.Proofs.YtbielfplgbammaaGreatDoor

namespace Go.Proofs.YtbielfplgbammaaGreatDoor
open Go.RowKit Go.Proofs.YtbielfplgbammaaGreatDoor.RP
theorem Qde.put{w1 w3:World}{B d n c:Nat}{b a:OA_}{L:List (OA_×Nat)}{ls:List (List Rat)}{l:List Rat}{v':Value}(h:Qde w1 B b d n L ls)(ho:Zbc w1 B a c l)(hl:l.length=n)
  (gl:w3.ownsRow B 35 1 v' (L.length+1) ((L.map fun x=>Value.slice x.1 n x.2)++[.slice a n c])) (hg:(w1.alloc (.cells #[.slice a n c] 35)).grownBy w3 (Value.slice b L.length d).ownBlock) :
  ∃ b' d',v' = .slice b' (L.length+1) d'/\Qde w3 B b' d' n (L++[(a,c)]) (ls++[l]):=by
 obtain⟨b',d',rfl⟩:=Vk gl;have hA:Bw_ w1 (w1.alloc (.cells #[.slice a n c] 35)):=(Below.refl _ _).alloc nr_ _;have gR:=Yg h.row hA nr_;have GG:∀ (a2:OA_) (c2:Nat) (l2:List Rat),Zbc w1 B a2 c2 l2->Zbc w3 B a2 c2 l2:=fun a2 c2 l2 h2=>by
  have h3:=Zq3 (h2.below hA nr_);refine Zq2 (World.ownsRow.kept h3 hg ?_);have DQ:=Zvp gR h3 (by decide);cases hv:(Value.slice b L.length d).ownBlock with
  | none=>cases hv2:(Value.slice a2 l2.length c2).ownBlock<;>simp
  | some k=>exact .inr (DQ k hv)
 refine⟨b',d',rfl,?_,?_,?_,?_⟩
 ·simp[h.len]
 ·rw[List.length_append,List.map_append];exact gl
 ·intro i h1 h2
  by_cases hi:i<L.length
  ·have Cf:i<ls.length:=by rw[<- h.len];exact hi
   rw[List.getElem_append_left Cf];simp only[List.getElem_append_left hi];exact GG _ _ _ (h.each i hi Cf)
  ·have e:i=L.length:=by simp at h1;omega
   subst e;rw[List.getElem_append_right (by rw[h.len];exact Nat.le_refl _)];simp only[List.getElem_append_right nr_,h.len,Nat.sub_self,List.getElem_cons_zero];exact GG _ _ _ ho
 ·intro m hm;rcases List.mem_append.1 hm with hm|hm
  ·exact h.lens m hm
  ·rw[List.mem_singleton.1 hm];exact hl
end Go.Proofs.YtbielfplgbammaaGreatDoor

namespace Go.Proofs.YtbielfplgbammaaGreatDoor
open Go.RowKit
def Zue {α:Type} (pf : α->Bool):List α->Nat->Int
 | [],_ => -1
 | x::l,k=>if pf x=true then (k:Int) else Zue pf l (k+1)
theorem Zrl{α:Type}(pf : α->Bool):∀ (l:List α) (k:Nat),decide (0<=Zue pf l k)=l.any pf
 | [],_=>by simp[Zue]
 | x::l,k=>by
  unfold Zue;rw[List.any_cons]
  by_cases h:pf x=true
  ·rw[if_pos h,h];simp
  ·rw[if_neg h,Zrl pf l (k+1)];simp only[Bool.not_eq_true] at h;rw[h,Bool.false_or]
theorem Zla {f : FuncId} {fn : Func} {c : Code} (hf : Tryz.prog.funcs[f]? = some fn) (hname : (fn.name == "runtime.NumGoroutine") = false) (hb : fn.body = some c) : ∀ args w, (callFunc f args).run Tryz.prog w = .ok (.enter f args) w := enters_of hf hname hb
def sgE (lo hi:Rat):Int:=if 0<=lo.num.sign then 1 else if hi.num.sign<=0 then -1 else 0
theorem Ze4(q:Rat):0<=q.num.sign↔0<=q:=by
 rw[<- Rat.num_nonneg];rcases Int.lt_trichotomy q.num 0 with h|h|h
 ·rw[Int.sign_eq_neg_one_of_neg h];omega
 ·rw[h];decide
 ·rw[Int.sign_eq_one_of_pos h];omega
theorem Zi5(q:Rat):q.num.sign<=0↔q<=0:=by
 have h1:q<=0↔q.num<=0:=by
  have:=Ze4 (-q)
  rw[Rat.neg_num,Int.sign_neg] at this;constructor
  ·intro h;have h2:0 <= -q:=by grind
   have h3:=Rat.num_nonneg.2 h2;rw[Rat.neg_num] at h3;omega
  ·intro h;have h2:0<=(-q).num:=by rw[Rat.neg_num];omega
   have h3:=Rat.num_nonneg.1 h2
   grind
 rw[h1];rcases Int.lt_trichotomy q.num 0 with h|h|h
 ·rw[Int.sign_eq_neg_one_of_neg h];omega
 ·rw[h];decide
 ·rw[Int.sign_eq_one_of_pos h];omega
theorem Zu8(n:Nat)(ps:List Int)(l:List Rat):sgE (loE n ps l) (hiE n ps l)=Zid n ps l:=by
 unfold sgE Zid
 by_cases h1:0<=loE n ps l
 ·rw[if_pos ((Ze4 _).2 h1),if_pos h1]
 ·rw[if_neg fun h=>h1 ((Ze4 _).1 h),if_neg h1]
  by_cases h2:hiE n ps l<=0
  ·rw[if_pos ((Zi5 _).2 h2),if_pos h2]
  ·rw[if_neg fun h=>h2 ((Zi5 _).1 h),if_neg h2]
theorem Zrs(w:World)(a b:Rat):Kc Tryz.prog 123 #[fr a,fr b] w (.int .i64 (sgE a b)):=by
 have H3:=hd_ (Zz9.mk' w (itx a.num) (dec a.den) (itx b.num) (dec b.den));have Ha:=hd_ (fun W=>Zsy W a);have Hb:=hd_ (fun W=>Zsy W b);have Hv:Hid (sgE a b=if 0<=a.num.sign then 1 else if b.num.sign<=0 then -1 else 0):=rfl;generalize sgE a b=v at *;unfold Kc;unfold fr fv at Ha Hb ⊢;generalize a.num.sign=sa at *;generalize b.num.sign=sb at *
 by_cases h1:0<=sa
 ·have El:Hid (v=1):=by show _=_;rw[Hv.o,if_pos h1]
  clear Hv Hb;go_enter Tryz.func123,Tryz.ntmps123;obtain⟨k0,k1,-,-⟩:=Ka H3.o.fa;go_wp2_with fail;generalize (w.alloc (.cells #[.string (itx a.num),.string (dec a.den)] 101)).alloc (.cells #[.string (itx b.num),.string (dec b.den)] 101)=W0 at *;clear k0 k1;refine cm_ (Ha.o _) ?_;rintro e w1 ⟨rfl,HU⟩;have B1:=hd_ (H3.o.bel.trans (HU.mono H3.o.bel.size));clear HU Ha;go_wp2_with fail;go_ret;exact⟨by rw[El.o];rfl,B1.o⟩
 ·by_cases h2:sb<=0
  ·have El:Hid (v = -1):=by show _=_;rw[Hv.o,if_neg h1,if_pos h2]
   clear Hv;go_enter Tryz.func123,Tryz.ntmps123;obtain⟨k0,k1,-,-⟩:=Ka H3.o.fa;go_wp2_with fail;generalize (w.alloc (.cells #[.string (itx a.num),.string (dec a.den)] 101)).alloc (.cells #[.string (itx b.num),.string (dec b.den)] 101)=W0 at *;clear k0 k1;refine cm_ (Ha.o _) ?_;rintro e w1 ⟨rfl,HU⟩;have H4:=hd_ (H3.o.next HU);clear HU Ha H3;obtain⟨k2,k3,-,-⟩:=Ka H4.o.fb;go_wp2_with fail;clear k2 k3;refine cm_ (Hb.o _) ?_;rintro e w2 ⟨rfl,HU⟩;have B1:=hd_ (H4.o.bel.trans (HU.mono H4.o.bel.size));clear HU Hb;go_wp2_with fail;go_ret;exact⟨by rw[El.o];rfl,B1.o⟩
  ·have El:Hid (v=0):=by show _=_;rw[Hv.o,if_neg h1,if_neg h2]
   clear Hv;go_enter Tryz.func123,Tryz.ntmps123;obtain⟨k0,k1,-,-⟩:=Ka H3.o.fa;go_wp2_with fail;generalize (w.alloc (.cells #[.string (itx a.num),.string (dec a.den)] 101)).alloc (.cells #[.string (itx b.num),.string (dec b.den)] 101)=W0 at *;clear k0 k1;refine cm_ (Ha.o _) ?_;rintro e w1 ⟨rfl,HU⟩;have H4:=hd_ (H3.o.next HU);clear HU Ha H3;obtain⟨k2,k3,-,-⟩:=Ka H4.o.fb;go_wp2_with fail;clear k2 k3;refine cm_ (Hb.o _) ?_;rintro e w2 ⟨rfl,HU⟩;have B1:=hd_ (H4.o.bel.trans (HU.mono H4.o.bel.size));clear HU Hb;go_wp2_with fail;go_ret;exact⟨by rw[El.o];rfl,B1.o⟩
theorem Zzc(w:World)(a:OA_)(c:Nat)(l:List Rat)(hr:Rd w a (Km l))(hl:l.length<=1000000)(f:FuncId)(lb:Array Value)(eg:∀ args w,(callFunc f args).run Tryz.prog w = .ok (.enter f args) w)(pf:Rat->Bool)
  (CA:∀ W,Bw_ w W->∀ x∈l,Kc Tryz.prog f (#[fr x]++lb) W (.bool (pf x))) :
  Kc Tryz.prog 257 #[.slice a l.length c,.func (.func f) #[] lb] w (.int .i64 (Zue pf l 0)):=by
 unfold Kc;have Hr:=hd_ hr;have Nr:=hd_ CA;clear hr CA;generalize hm:l.length=m at *;have Hm:=hd_ hm;clear hm;generalize hv:Zue pf l 0=v at *;have Fe:Hid (v=Zue pf l 0):=hv.symm;clear hv;go_enter Tryz.func257,Tryz.ntmps257;go_wp2_with fail
 go_loopw [8] (fun i wr=>∃ k:Nat,k<=m/\i = .int .i64 k/\Hid (v=Zue pf (l.drop k) k)/\Hid (Bw_ w wr)) (fun i _=>m-(intOf i).toNat)
 case atStart=>exact⟨0,Nat.zero_le _,rfl,Fe,Below.refl _ _⟩
 case round =>
  clear Fe;obtain⟨k,hk,rfl,Hx,B⟩:=hrel
  by_cases gd:k<m
  ·have gu:(k:Int)<m:=by omega
   have GQ:k<l.length:=by rw[Hm.o];exact gd
   obtain⟨b,off,rfl,hb,hcells⟩:=Hr.o.open (by rw[Kw];omega);obtain⟨x0,x1⟩:=Qx hcells k (by rw[List.length_map];exact GQ);rw[Qu l k GQ] at x0 x1;rw[<- B.o.cell (p:=⟨b,off+k*2,none⟩) hb] at x0;rw[<- B.o.cell (p:=⟨b,off+k*2+1,none⟩) hb] at x1;have Hd:Hid (l.drop k=l[k]::l.drop (k+1)):=List.drop_eq_getElem_cons GQ;have Hc:=hd_ (Nr.o wr B.o l[k] (List.getElem_mem GQ));unfold fr fv at Hc;unfold qs at x0 x1;simp only at x0 x1;clear hcells;generalize l[k]=x at *;cases hf:pf x with
   | false =>
    have Hn:Hid (v=Zue pf (l.drop (k+1)) (k+1)):=by show _=_;rw[Hx.o,Hd.o,Zue,if_neg (by rw[hf];decide)]
    rw[hf] at Hc;go_wp2_with fail;refine cm_ Hc.o ?_;rintro e w1 ⟨rfl,HU⟩;have B1:=bt_ B HU;clear HU Hc B x0 x1;go_wp2_with fail
    go_roundw
    case rel=>exact⟨k+1,by omega,by go_num,Hn,B1⟩
    case measure=>simp[intOf];omega
   | true =>
    have Hn:Hid (v=k):=by show _=_;rw[Hx.o,Hd.o,Zue,if_pos hf]
    rw[hf] at Hc;go_wp2_with fail;refine cm_ Hc.o ?_;rintro e w1 ⟨rfl,HU⟩;have B1:=bt_ B HU;clear HU Hc B x0 x1;go_wp2_with fail;go_ret;exact⟨by rw[Hn.o];rfl,B1.o⟩
  ·have gu:¬ (k:Int)<m:=by omega
   have Hn:Hid (v = -1):=by show _=_;rw[Hx.o,List.drop_of_length_le (by rw[Hm.o];omega)];rfl
   go_wp2_with fail;go_ret;exact⟨by rw[Hn.o];rfl,B.o⟩
theorem Zzx(w:World)(a:OA_)(c:Nat)(l:List Rat)(hr:Rd w a (Km l))(hl:l.length<=1000000)(f:FuncId)(lb:Array Value)(eg:∀ args w,(callFunc f args).run Tryz.prog w = .ok (.enter f args) w)(pf:Rat->Bool)
  (CA:∀ W,Bw_ w W->∀ x∈l,Kc Tryz.prog f (#[fr x]++lb) W (.bool (pf x))) :
  Kc Tryz.prog 201 #[.slice a l.length c,.func (.func f) #[] lb] w (.bool (l.any pf)):=by
 unfold Kc;have Hc:=hd_ (Zzc w a c l hr hl f lb eg pf CA);have Hv:=hd_ (Zrl pf l 0);unfold Kc at Hc;clear hr CA;generalize l.length=m at *;generalize Zue pf l 0=v at *;generalize l.any pf=z at *;go_enter Tryz.func201,Tryz.ntmps201;go_wp2_with fail;refine cm_ Hc.o ?_;rintro e w1 ⟨rfl,HU⟩;have B1:=hd_ HU;clear HU Hc;go_wp2_with fail;go_ret;exact⟨by rw[<- Hv.o];rfl,B1.o⟩
def nzQ (q:Rat):Bool:=q.num.sign != 0
theorem Zxz(w:World)(q:Rat):Kc Tryz.prog 202 #[fr q] w (.bool (nzQ q)):=by
 unfold Kc;have gC:=hd_ ((Below.refl w.heap.size w).alloc nr_ (.cells #[.string (itx q.num),.string (dec q.den)] 101));have Hs:=hd_ (fun W=>Zsy W q);have Hv:Hid (nzQ q=(q.num.sign != 0)):=rfl;have F:=Zc1.new w q;generalize nzQ q=v at *;unfold fr fv at Hs ⊢;generalize q.num.sign=s at *;go_enter Tryz.func202,Tryz.ntmps202;obtain⟨k0,k1,-,-⟩:=Ka F;clear F;go_wp2_with fail;generalize w.alloc (.cells #[.string (itx q.num),.string (dec q.den)] 101)=W0 at *;clear k0 k1;refine cm_ (Hs.o _) ?_;rintro e w1 ⟨rfl,HU⟩;have B1:=bt_ gC HU;clear HU Hs;go_wp2_with fail;go_ret;exact⟨by rw[Hv.o];rfl,B1.o⟩
theorem Zzk(w:World)(a:OA_)(c:Nat)(l:List Rat)(hr:Rd w a (Km l))(hl:l.length<=1000000):
  Kc Tryz.prog 119 #[.slice a l.length c] w (.bool (!l.any nzQ)):=by
 unfold Kc;have Hc:=hd_ (Zzx w a c l hr hl 202 #[] (Zla Tryz.func202 (by kernel_rfl) rfl) nzQ fun W _ x _=>Zxz W x);unfold Kc at Hc;clear hr hl;generalize l.length=m at *;generalize l.any nzQ=z at *;go_enter Tryz.func119,Tryz.ntmps119;go_wp2_with fail;refine cm_ Hc.o ?_;rintro e w1 ⟨rfl,HU⟩;have B1:=hd_ HU;clear HU Hc;go_wp2_with fail;go_ret;exact⟨rfl,B1.o⟩
def Qfd (w w':World) (ps:List Int) (l:List Rat) (T:Nat->Bool) (e:Ending):Prop :=
 ∃ R B n,e = .returned (.tuple #[.pointer (some ⟨R,0,none⟩),.int .i64 (n:Nat),.bool true])/\Zqf w' R ps l B/\n<=B/\B<=1000/\Zcy T n/\Bw_ w w'
theorem Zm4(w:World)(ps:List Int)(l:List Rat)(a0 a1:OA_)(c0 c1 D:Nat)(rp:Rd w a0 (Qw ps))(rl:Rd w a1 (Km l))(hl:l.length=ps.length)(hn:ps.length<=100)(hp:∀ p∈ps,∃ q:Nat,p=q/\(q=2\/q∈Za4))(hs:∀ q∈l,Sm D q)(hD:D<=300)
  (f:FuncId) (lb:Array Value) (eg:∀ args w,(callFunc f args).run Tryz.prog w = .ok (.enter f args) w) (T:Nat->Bool)
  (hT:∀ W,Bw_ w W->∀ b,b<=1000->Kc Tryz.prog f (#[fr (loE b ps l),fr (hiE b ps l)]++lb) W (.bool (T b))) (GH:T 1000=true) (L:Qg w) :
  Calls Tryz.prog 134 #[.slice a0 ps.length c0,.slice a1 ps.length c1,.func (.func f) #[] lb] w fun e w'=>Qfd w w' ps l T e:=by
 have iJ:=hd_ (fun W (hW:Bw_ w W) B hB=>Zjh W ps l B a0 a1 c0 c1 (rp.below hW nr_) (rl.below hW nr_) hl hn hp hB (L.below hW));have E6:=hd_ (fun W (hW:Bw_ w W) R B b (H:Zqf W R ps l B) (hb:b<=B) (hB:B<=1000)=>Zdl W R ps l B b D H hl hn hp hs hD hb hB (L.below hW));have HT:=hd_ hT;have Fg:=hd_ GH;clear rp rl hs hp hT GH L;unfold fr fv at E6 HT;generalize EC:ps.length=n at *;have Hn:=hd_ EC;clear EC;go_enter Tryz.func134,Tryz.ntmps134;go_wp2_with fail;refine cm_ (iJ.o _ (Below.refl _ _) 32 (by decide)) ?_;rintro e w1 ⟨R0,rfl,hg,hR,hb⟩;have aJ:=hd_ hg;have B1:=hd_ hb;clear hg hR hb;go_wp2_with fail
 go_loopw [9,10] (fun m p wr=>∃ (B R:Nat),32<=B/\B<=1000/\m = .int .i64 B/\p = .pointer (some ⟨R,0,none⟩)/\Hid (Zqf wr R ps l B)/\Hid (Bw_ w wr)) (fun m _ _=>1000-(intOf m).toNat)
 case atStart=>exact⟨32,R0,Nat.le_refl _,by decide,rfl,rfl,aJ,B1⟩
 case round =>
  obtain⟨B,R,GN,hB2,rfl,rfl,HG,HB⟩:=hrel;clear aJ B1;go_wp2_with fail;refine cm_ (E6.o _ HB.o R B B HG.o nr_ hB2) ?_;rintro e w2 ⟨rfl,hb⟩;have GC:=bt_ HB hb;have lc:=hd_ (HG.o.below hb);clear hb HG HB;have Hc:=hd_ (HT.o w2 GC.o B hB2);cases hf:T B with
  | false =>
   rw[hf] at Hc;have Ll:B<1000:=by
    rcases Nat.lt_or_ge B 1000 with h|h
    ·exact h
    ·obtain rfl:B=1000:=by omega
     rw[Fg.o] at hf;cases hf
   obtain⟨B',hB'⟩:∃ B',min (2*B) 1000=B':=⟨_,rfl⟩;have hm:min (2*(B:Int)) 1000=(B':Nat):=by omega
   have hw:IntKind.i64.wrap (2*(B:Int))=2*(B:Int):=iw_ _ (by omega);have gm:((B:Int)==1000)=false:=by rw[beq_eq_false_iff_ne];omega
   have iI:=hd_ (fun W hW=>iJ.o W hW B' (by omega));have Gn:32<=B':=by omega
   have fY:B'<=1000:=by omega
   have GE:B<B':=by omega
   clear hf hB';go_wp2_with fail;refine cm_ Hc.o ?_;rintro e w3 ⟨rfl,hb⟩;have fg:=bt_ GC hb;clear hb Hc GC lc;go_wp2_with fail;refine cm_ (iI.o _ fg.o) ?_;rintro e w4 ⟨R',rfl,hg,hR,hb⟩;have CP:=hd_ hg;have ff:=bt_ fg hb;clear hg hR hb fg iI;go_wp2_with fail;refine⟨⟨B',R',Gn,fY,rfl,rfl,CP,ff⟩,by simp[intOf];omega⟩
  | true =>
   rw[hf] at Hc;have Bu:=hd_ hf;clear hf;go_wp2_with fail;refine cm_ Hc.o ?_;rintro e w3 ⟨rfl,hb⟩;have fg:=bt_ GC hb;have mY:=hd_ (lc.o.below hb);clear hb Hc GC lc;go_wp2_with fail
   go_loopw [11,12] (fun u v wr=>∃ (fI:Int) (t:Nat),-1<=fI/\fI<t/\t<=B/\u = .int .i64 fI/\v = .int .i64 t/\Hid (T t=true/\(fI = -1\/T fI.toNat=false))/\Hid (Zqf wr R ps l B)/\Hid (Bw_ w wr)) (fun u v _=>(intOf v-intOf u).toNat)
   case atStart=>exact⟨-1,B,Int.le_refl _,by omega,Nat.le_refl _,rfl,rfl,⟨Bu.o,.inl rfl⟩,mY,fg⟩
   case round =>
    obtain⟨fI,t,bU,hf2,ht,rfl,rfl,HX,HG,HB⟩:=hrel;clear mY fg;have fH:IntKind.i64.wrap ((t:Int)-fI)=(t:Int)-fI:=iw_ _ (by omega)
    by_cases hc:1<(t:Int)-fI
    ·obtain⟨m,hm⟩:∃ m:Nat,((m:Nat):Int)=(fI+t)/2:=⟨((fI+t)/2).toNat,by omega⟩;have fM:IntKind.i64.wrap (fI+(t:Int))=fI+t:=iw_ _ (by omega);have hq:Int.tdiv (fI+(t:Int)) 2=(m:Nat):=by rw[Int.tdiv_eq_ediv_of_nonneg (by omega)];omega
     have jq:(fI+(t:Int))/2=(m:Nat):=hm.symm;have Fc:fI<m:=by omega
     have dY:m<t:=by omega
     clear hm;go_wp2_with fail;refine cm_ (E6.o _ HB.o R B m HG.o (by omega) hB2) ?_;rintro e w4 ⟨rfl,hb⟩;have ff:=bt_ HB hb;have CP:=hd_ (HG.o.below hb);clear hb HG HB;have Hc:=hd_ (HT.o w4 ff.o m (by omega));cases hf:T m with
     | true =>
      rw[hf] at Hc;have GO:Hid (T m=true/\(fI = -1\/T fI.toNat=false)):=⟨hf,HX.o.2⟩;clear hf HX;go_wp2_with fail;refine cm_ Hc.o ?_;rintro e w5 ⟨rfl,hb⟩;have CS:=bt_ ff hb;have iN:=hd_ (CP.o.below hb);clear hb Hc ff CP;go_wp2_with fail;refine⟨⟨fI,m,bU,Fc,by omega,rfl,rfl,GO,iN,CS⟩,by simp[intOf];omega⟩
     | false =>
      rw[hf] at Hc;have GO:Hid (T t=true/\((m:Int) = -1\/T ((m:Int)).toNat=false)):=⟨HX.o.1,.inr (by rw[Int.toNat_natCast];exact hf)⟩;clear hf HX;go_wp2_with fail;refine cm_ Hc.o ?_;rintro e w5 ⟨rfl,hb⟩;have CS:=bt_ ff hb;have iN:=hd_ (CP.o.below hb);clear hb Hc ff CP;go_wp2_with fail;refine⟨⟨(m:Int),t,by omega,by omega,ht,rfl,rfl,GO,iN,CS⟩,by simp[intOf];omega⟩
    ·have jS:fI=(t:Int)-1:=by omega
     have HL:Hid (Zcy T t):=by
      refine⟨HX.o.1,?_,by omega⟩;rcases HX.o.2 with h|h
      ·left;omega
      ·by_cases h0:t=0
       ·left;exact h0
       ·right;rw[show t-1=fI.toNat by omega];exact h
     clear jS HX;go_wp2_with fail
     go_ret3
     exact⟨R,B,t,rfl,HG.o,ht,hB2,HL.o,HB.o⟩
def Zf1 (l:List (Int×Int×ByteArray)):List Value:=l.flatMap fun x=>[.int .i64 x.1,.int .i64 x.2.1,.string x.2.2]
theorem Zls(l m:List (Int×Int×ByteArray)):Zf1 (l++m)=Zf1 l++Zf1 m:=by simp[Zf1]
def Zt9 (n:Nat) (ps:List Int) (l:List Rat):List (Int×Int×ByteArray):=(ps.zip l).filterMap fun x=>if x.2.num=0 then none else some (x.1,(n:Int),dec (lgN x.1 n))
theorem Zxj(n:Nat)(ps:List Int)(l:List Rat)(k:Nat)(h1:k<ps.length)(h2:k<l.length):
  Zt9 n (ps.take (k+1)) (l.take (k+1))=Zt9 n (ps.take k) (l.take k)++(if l[k].num=0 then [] else [(ps[k],(n:Int),dec (lgN ps[k] n))]):=by
 unfold Zt9;have e:∀ n,(ps.take n).zip (l.take n)=(ps.zip l).take n:=fun n=>(List.take_zipWith ..).symm
 rw[e,e,List.take_add_one,List.getElem?_eq_getElem (by rw[List.length_zip];omega),List.filterMap_append];congr 1;rw[List.getElem_zip]
 by_cases h:l[k].num=0
 ·rw[if_pos h]
  show List.filterMap _ [(ps[k],l[k])]=[]
  rw[List.filterMap_cons,if_pos h];rfl
 ·rw[if_neg h]
  show List.filterMap _ [(ps[k],l[k])]=_
  rw[List.filterMap_cons,if_neg h];rfl
theorem Qem:(Tryz.prog.info? 124).map (fun i=>(i.zero,i.size,i.bytes))=some (some (.agg #[.int .i64 0,.int .i64 0,.string ⟨#[]⟩]),3,32):=by kernel_rfl
theorem Qg2:Zba Tryz.prog 44 124 (.agg #[.int .i64 0,.int .i64 0,.string ⟨#[]⟩]) 3 32:=⟨Tryz.underlying44,info_parts Qem,rfl,by decide⟩
theorem Zt2(w:World)(a b:Rat):Kc Tryz.prog 135 #[fr a,fr b] w (.bool (sgE a b != 0)):=by
 have H3:=hd_ (Zz9.mk' w (itx a.num) (dec a.den) (itx b.num) (dec b.den));have Hs:=hd_ (fun W=>Zrs W a b);unfold Kc;unfold fr fv at Hs ⊢;generalize sgE a b=v at *;go_enter Tryz.func135,Tryz.ntmps135;obtain⟨k0,k1,-,-⟩:=Ka H3.o.fa;obtain⟨k2,k3,-,-⟩:=Ka H3.o.fb;go_wp2_with fail;generalize (w.alloc (.cells #[.string (itx a.num),.string (dec a.den)] 101)).alloc (.cells #[.string (itx b.num),.string (dec b.den)] 101)=W0 at *;clear k0 k1 k2 k3;refine cm_ (Hs.o _) ?_;rintro e w1 ⟨rfl,HU⟩;have B1:=hd_ (H3.o.bel.trans (HU.mono H3.o.bel.size));clear HU Hs;go_wp2_with fail;go_ret;exact⟨rfl,B1.o⟩
def Qg5 (sg n:Int) (a:OA_) (m c:Nat):Value := .agg #[.int .i64 sg,.int .i64 n,.slice a m c]
def Qg9 (w w':World) (ps:List Int) (l:List Rat) (e:Ending):Prop :=
 ∃ (n:Nat) (a:OA_) (c:Nat),e = .returned (.tuple #[Qg5 (Zid n ps l) n a (Zt9 n ps l).length c,.int .i64 0])/\Zcy (fun b=>Zid b ps l != 0) n/\Rd w' a (Zf1 (Zt9 n ps l))/\Bw_ w w'
structure DcI (w w3 wr:World) (sg:Int) (n m:Nat) (a:OA_) (c:Nat) (bl:List (Int×Int×ByteArray)):Prop where
 res:wr.heap[w.heap.size]?=some (.cells #[.int .i64 0,.int .i64 0,.slice none 0 0] 46 (0,0))
 ob:wr.heap[w3.heap.size]?=some (.cells #[.int .i64 sg,.int .i64 n,.slice a m c] 46 (0,0))
 own:wr.ownsRow (w3.heap.size+1) 124 3 (.slice a m c) m (Zf1 bl)
 bel:Bw_ w3 wr
 sz:w3.heap.size+1<=wr.heap.size
theorem DcI.below{w w3 wr w':World}{sg:Int}{n m:Nat}{a:OA_}{c:Nat}{bl:List (Int×Int×ByteArray)}(h:DcI w w3 wr sg n m a c bl)(hb:Bw_ wr w'):DcI w w3 w' sg n m a c bl :=
 ⟨by rw[hb.block _ (Array.getElem?_eq_some_iff.1 h.res).1];exact h.res,by rw[hb.block _ (Array.getElem?_eq_some_iff.1 h.ob).1];exact h.ob,Yg h.own hb nr_,h.bel.trans (hb.mono h.bel.size),Nat.le_trans h.sz hb.size⟩
theorem Zgh(w:World)(a0 a1:OA_)(c0 c1:Nat)(ps:List Int)(l:List Rat)(rp:Rd w a0 (Qw ps))(rl:Rd w a1 (Km l))(hi:Zgm ps)(hl:l.length=ps.length)(hn:ps.length<=100)(hs:∀ q∈l,Sm 30 q)(f9:Vd ps=0)(L:Qg w):
  Kc Tryz.prog 78 #[.slice a0 ps.length c0,.slice a1 ps.length c1] w (.int .i64 0):=by
 have My:Ssz (l.map qs):=fun x hx=>by
  obtain⟨q,hq,rfl⟩:=List.mem_map.1 hx;have h1:=Zk5 q.num 30 (by decide) (hs q hq).1;have h2:=(Yz q.den 30 (by decide)).2 (hs q hq).2;refine⟨Nat.le_trans h1 (by decide),Nat.le_trans h2 (by decide)⟩
 have h:=Zkj w a0 a1 c0 c1 ps (l.map qs) rp hi (by omega) rl (by rw[List.length_map];omega) My L;rw[List.length_map,hl] at h;have h0:Zxh ps (l.map qs)=0:=by unfold Zxh;rw[if_pos f9,Zec hs hl]
 rw[h0] at h;exact h
theorem Zu9{w:World}{R:Nat}{x y z z':Value}{t:TypeId}(h:w.heap[R]?=some (.cells #[x,y,z] t (0,0))):
  (w.setCell ⟨R,2,none⟩ z').heap[R]?=some (.cells #[x,y,z'] t (0,0)):=by
 have gd:=lt_of_block h;have h':w.heap[R] = .cells #[x,y,z] t (0,0):=by simpa [Array.getElem?_eq_getElem gd] using h
 show (w.heap.modify R _)[R]?=_
 rw[Array.getElem?_eq_getElem (by simpa using gd),Array.getElem_modify_self,h'];rfl
theorem Zos{w:World}{B e:Nat}{a:OA_}{c m:Nat}{vs:List Value}{sz:Nat}(h:w.ownsRow B e sz (.slice a m c) m vs):Rd w a vs:=by
 by_cases hn:0<m
 ·obtain⟨g,cap,hv,h1,h2,h3,h4,h5⟩:=Ye h hn;simp only[Value.slice.injEq] at hv;obtain⟨rfl,-,-⟩:=hv;refine .inr ⟨g,0,rfl,h2,fun i v hi=>?_⟩;have gd:=(List.getElem?_eq_some_iff.1 hi).1;have gh:=h.1;rw[Nat.zero_add,h4 i (by omega)];exact hi
 ·obtain rfl:m=0:=by omega
  have gh:=h.1;exact .inl (List.length_eq_zero_iff.1 (by omega))
theorem DcI.push{w w3 W w5:World}{sg:Int}{n mm c d:Nat}{a a3:OA_}{bl:List (Int×Int×ByteArray)}{x:Int×Int×ByteArray}{news:List Value}(h:DcI w w3 W sg n mm a c bl)(hw:w.heap.size<w3.heap.size)
  (hnews:news=[.int .i64 x.1,.int .i64 x.2.1,.string x.2.2])
  (hg:(W.alloc (.cells news.toArray 124)).grownBy w5 (Value.slice a mm c).ownBlock) (ho:w5.ownsRow (w3.heap.size+1) 124 3 (.slice a3 (mm+1) d) (mm+1) (Zf1 bl++news)) :
  (∃ v,w5.cell? ⟨w3.heap.size,2,none⟩=some v)/\w5.frozen? ⟨w3.heap.size,2,none⟩=false/\DcI w w3 (w5.setCell ⟨w3.heap.size,2,none⟩ (.slice a3 (mm+1) d)) sg n (mm+1) a3 d (bl++[x]):=by
 have gl:∀ k,(Value.slice a mm c).ownBlock=some k->w3.heap.size+1<=k:=fun k hk=>(World.ownsRow.lt h.own k hk).1
 have GG:∀ k o,k<w3.heap.size+1->W.heap[k]?=some o->w5.heap[k]?=some o:=fun k o hk ho=>by
  rw[hg.block k (by simp;have:=h.sz;omega) (fun e=>by have:=gl k e.symm;omega)];rw[((Below.refl W.heap.size W).alloc nr_ _).block k (by have:=h.sz;omega)];exact ho
 have lw:=GG _ _ (Nat.lt_succ_self _) h.ob;obtain⟨-,-,k2,kf⟩:=Qh lw;refine⟨⟨_,k2⟩,kf 2,?_,Zu9 lw,?_,?_,?_⟩
 ·rw[Below.heap_setCell _ _ _ _ (by show w.heap.size≠w3.heap.size;omega)];exact GG _ _ (by omega) h.res
 ·have:=ownsRow_setCell_below (a:=⟨w3.heap.size,2,none⟩) ho (Nat.lt_succ_self _) (.slice a3 (mm+1) d)
  rw[Zls];subst hnews;exact this
 ·refine Below.setCell (p:=⟨w3.heap.size,2,none⟩) ?_ nr_ _;exact(h.bel.alloc h.bel.size _).grown hg (by simp;have:=h.sz;omega) (fun k hk=>by have:=gl k hk;omega)
 ·rw[World.size_setCell];have:=hg.size
  simp at this;have:=h.sz
  omega
theorem Zw4(w:World)(a0 a1:OA_)(c0 c1 D:Nat)(ps:List Int)(l:List Rat)(rp:Rd w a0 (Qw ps))(rl:Rd w a1 (Km l))(hi:Zgm ps)(hl:l.length=ps.length)(hn:ps.length<=100)(hp:∀ p∈ps,∃ q:Nat,p=q/\(q=2\/q∈Za4))(hs:∀ q∈l,Sm D q)(hD:D<=30)
  (f9:Vd ps=0) (js:l.any nzQ=true) (GH:Zid 1000 ps l≠0) (L:Qg w) :
  Calls Tryz.prog 56 #[.slice a0 ps.length c0,.slice a1 ps.length c1] w fun e w'=>Qg9 w w' ps l e:=by
 have Cm:=hd_ (fun W (hW:Bw_ w W)=>Zgh W a0 a1 c0 c1 ps l (rp.below hW nr_) (rl.below hW nr_) hi hl hn (fun q hq=>(hs q hq).le hD) f9 (L.below hW));have Iy:=hd_ (fun W (hW:Bw_ w W)=>Zzk W a1 c1 l (rl.below hW nr_) (by omega));rw[js,hl] at Iy;have dS:=hd_ (fun W (hW:Bw_ w W)=>Zm4 W ps l a0 a1 c0 c1 D (rp.below hW nr_) (rl.below hW nr_) hl hn hp hs (by omega) 135 #[] (Zla Tryz.func135 (by kernel_rfl) rfl) (fun b=>Zid b ps l != 0) (fun W' _ b _=>by
  have:=Zt2 W' (loE b ps l) (hiE b ps l)
  rw[Zu8] at this;exact this) (by rw[bne_iff_ne];exact GH) (L.below hW))
 have E6:=hd_ (fun W (hW:Bw_ w W) R B b (H:Zqf W R ps l B) (hb:b<=B) (hB:B<=1000)=>Zdl W R ps l B b D H hl hn hp hs (by omega) hb hB (L.below hW));have JU:=hd_ (fun W b=>Zrs W (loE b ps l) (hiE b ps l));have aK:=hd_ (fun W (hW:Bw_ w W) R B b k (H:Zqf W R ps l B) (hk:k<ps.length) (Gl:k<l.length) (hz:l[k].num≠0) (hb:b<=B) (hB:B<=1000)=>Qa5 W R ps l B b k H hl hn hk Gl (hp _ (List.getElem_mem hk)) hz hb hB (L.below hW));have aH:=hd_ rp;have aI:=hd_ rl;have Hl:=hd_ hl;have gi:Hid ((w.alloc (.cells #[.int .i64 0,.int .i64 0,.slice none 0 0] 46)).heap[w.heap.size]?=some (.cells #[.int .i64 0,.int .i64 0,.slice none 0 0] 46 (0,0))):=heap_alloc_new w _;have gC:=hd_ ((Below.refl w.heap.size w).alloc nr_ (.cells #[.int .i64 0,.int .i64 0,.slice none 0 0] 46));clear rp rl hs hp f9 js GH L hi;unfold fr fv at E6 JU;obtain⟨n,EC⟩:∃ n,ps.length=n:=⟨_,rfl⟩;have Hn:=hd_ EC;rw[EC] at hn Cm Iy dS ⊢;clear EC hl;go_enter Tryz.func56,Tryz.ntmps56;go_wp2_with fail;generalize w.alloc (.cells #[.int .i64 0,.int .i64 0,.slice none 0 0] 46)=W0 at *;refine cm_ (Cm.o _ gC.o) ?_;rintro e w1 ⟨rfl,hb⟩;have B1:=bt_ gC hb;have C1:=hd_ hb;clear hb Cm gC;go_wp2_with fail;refine cm_ (Iy.o _ B1.o) ?_;rintro e w2 ⟨rfl,hb⟩;have B2:=bt_ B1 hb;have C2:=bt_ C1 hb;clear hb Iy B1 C1;go_wp2_with fail;refine cm_ (dS.o _ B2.o) ?_;rintro e w3a ⟨R,B,m,rfl,hg,hm,hB,hN,hb⟩;have B3:=bt_ B2 hb;have C3:=bt_ C2 hb;have HG:=hd_ hg;have HN:=hd_ hN;clear hb dS B2 C2 hg hN;go_wp2_with fail;refine cm_ (E6.o _ B3.o R B m HG.o hm hB) ?_;rintro e w3b ⟨rfl,hb⟩;have B4:=bt_ B3 hb;have C4:=bt_ C3 hb;have CP:=hd_ (HG.o.below hb);clear hb E6 B3 C3 HG;go_wp2_with fail;refine cm_ (JU.o _ m) ?_;rintro e w3 ⟨rfl,hb⟩;have B5:=bt_ B4 hb;have C5:=bt_ C4 hb;have iN:=hd_ (CP.o.below hb);clear hb JU B4 C4 CP;have GB:sgE (loE m ps l) (hiE m ps l)=Zid m ps l:=Zu8 m ps l;have gI:=hd_ GB;rw[GB];clear GB;obtain⟨sg,hsgd⟩:∃ sg,Zid m ps l=sg:=⟨_,rfl⟩;have Dn:Hid (sg=Zid m ps l):=hsgd.symm;rw[hsgd];clear hsgd;have Fj:Hid (DcI w w3 (w3.alloc (.cells #[.int .i64 sg,.int .i64 m,.slice none 0 0] 46)) sg m 0 none 0 (Zt9 m (ps.take 0) (l.take 0))):=by
  have Ca:w3.heap[w.heap.size]?=some (.cells #[.int .i64 0,.int .i64 0,.slice none 0 0] 46 (0,0)):=by
   rw[C5.o.block _ (Array.getElem?_eq_some_iff.1 gi.o).1];exact gi.o
  refine⟨?_,heap_alloc_new w3 _,World.ownsRow_nil ..,(Below.refl _ _).alloc nr_ _,by simp⟩;rw[((Below.refl w3.heap.size w3).alloc nr_ _).block _ (Array.getElem?_eq_some_iff.1 Ca).1];exact Ca
 have Ek:Hid (w.heap.size<w3.heap.size):=by
  have:=(Array.getElem?_eq_some_iff.1 gi.o).1
  have:=C5.o.size
  show _<_
  omega
 clear gi C5;go_wp2_with fail
 go_loopw [43] (fun i wr=>∃ (k:Nat) (a:OA_) (c mm:Nat),k<=n/\i = .int .i64 k/\mm<=k/\Hid (mm=(Zt9 m (ps.take k) (l.take k)).length)/\Hid (DcI w w3 wr sg m mm a c (Zt9 m (ps.take k) (l.take k)))) (fun i _=>n-(intOf i).toNat)
 case atStart=>exact⟨0,none,0,0,Nat.zero_le _,rfl,Nat.le_refl _,rfl,Fj⟩
 case round =>
  obtain⟨k,a,c,mm,hk,rfl,a7,Hmm,HI⟩:=hrel;clear Fj
  by_cases gd:k<n
  ·have gu:(k:Int)<n:=by omega
   have G5:k<ps.length:=by rw[Hn.o];exact gd
   have Gl:k<l.length:=by rw[Hl.o,Hn.o];exact gd
   have Bw:=bt_ B5 HI.o.bel;obtain⟨b0,o0,rfl,Gu,fZ⟩:=aH.o.open (by rw[Qn];omega);have E2:Hid (∀ W,Bw_ w W->W.cell? ⟨b0,o0+k,none⟩=some (.int .i64 ps[k])):=fun W hW=>by
    rw[hW.cell (p:=⟨b0,o0+k,none⟩) Gu];exact fZ k _ (Zaf ps k G5)
   obtain⟨b1,o1,rfl,HU,Ga⟩:=aI.o.open (by rw[Kw];omega);obtain⟨x0,x1⟩:=Qx Ga k (by rw[List.length_map];exact Gl);rw[Qu l k Gl] at x0 x1;rw[<- Bw.o.cell (p:=⟨b1,o1+k*2,none⟩) HU] at x0;rw[<- Bw.o.cell (p:=⟨b1,o1+k*2+1,none⟩) HU] at x1;have Ac:IntKind.i64.wrap ((k:Int)+1)=((k+1:Nat):Int):=by rw[<- Int.natCast_succ];exact iw_ _ (by omega)
   have dQ:=hd_ (fun W=>Zsy W l[k]);have IL:=hd_ (Zxj m ps l k G5 Gl);have F7:=hd_ (fun W (hW:Bw_ w3 W) (hz:l[k].num≠0)=>aK.o W (bu_ B5 hW) R B m k (iN.o.below hW) G5 Gl hz hm hB);clear fZ Ga;unfold fr fv at dQ;unfold qs at x0 x1;simp only at x0 x1;generalize l[k]=q at *;generalize ps[k]=pk at *;have iM:=hd_ (HI.o.below ((Below.refl _ _).alloc nr_ (.cells #[.string (itx q.num),.string (dec q.den)] 101)));have k8:=Ka (heap_alloc_new wr (.cells #[.string (itx q.num),.string (dec q.den)] 101))
   by_cases hz:q.num=0
   ·have Bb:=IL.o;rw[if_pos hz,List.append_nil] at Bb;have cI:=hd_ Bb;rw[hz] at dQ x0 k8 iM;clear F7 Bb IL hz;go_wp2_with fail;refine cm_ (dQ.o _) ?_;rintro e w4 ⟨rfl,hb⟩;have gv:=hd_ (iM.o.below hb);clear hb dQ k8 iM HI;go_wp2_with fail;refine⟨⟨k+1,a,c,mm,by omega,by go_num,by omega,by rw[cI.o];exact Hmm,by rw[cI.o];exact gv⟩,by simp[intOf];omega⟩
   ·have Cr:(q.num.sign != 0)=true:=by
     rw[bne_iff_ne];intro h;exact hz (Int.sign_eq_zero_iff_zero.1 h)
    have Bb:=IL.o;rw[if_neg hz] at Bb;have cI:=hd_ Bb;have iR:=hd_ (fun W hW=>F7.o W hW hz);clear F7 Bb IL hz;go_wp2_with fail;refine cm_ (dQ.o _) ?_;rintro e w4 ⟨rfl,hb⟩;have gv:=hd_ (iM.o.below hb);clear hb dQ k8 iM HI x0 x1;obtain⟨k0,k1,k2,-⟩:=Qh gv.o.ob;have cp:=E2.o w4 (bu_ B5 gv.o.bel);have q0:=NW.cell k2;have q1:=NW.cell cp;have gj:Nonempty (NW w4):=⟨⟨w4,Below.refl _ _⟩⟩;have I:Hid (Bw_ w4 w4.drew):=(Below.refl _ _).drew;clear k0 k1 k2 cp;go_wp2_with fail;refine wn_ 13 [(2,0),(1,1),(2,2),(2,3),(2,4),(1,5),(2,6),(2,7),(2,8),(2,9),(0,10),(0,11),(0,12),(0,13),(2,14),(0,15)] I ?_;refine wa_ rfl ?_;go_big_quiet_step (fail);refine wq_ ?_;refine wr_ rfl ?_;go_big_quiet_step (fail);refine wq_ ?_;iterate 3 (refine wa_ rfl ?_;go_big_quiet_step (fail);refine wq_ ?_)
    refine wr_ rfl ?_;go_big_quiet_step (fail);refine wq_ ?_;iterate 4 (refine wa_ rfl ?_;go_big_quiet_step (fail);refine wq_ ?_)
    clear gj q0 q1;refine wm_ rfl ?_;go_wp2_with fail;refine cm_ (iR.o _ (gv.o.bel.trans (I.o.mono gv.o.bel.size))) ?_;rintro e x1 ⟨rfl,hb⟩;have I1:Hid (Bw_ w4 x1):=I.o.trans (hb.mono I.o.size);clear hb I iR;go_wp2_with fail;refine⟨⟨⟨_,I1.o⟩,rfl⟩,?_⟩;refine wm_ rfl ?_;go_wp2_with fail;refine⟨⟨⟨_,I1.o⟩,rfl⟩,?_⟩;refine wm_ rfl ?_;go_wp2_with fail;refine⟨⟨⟨_,I1.o.alloc I1.o.size _⟩,rfl⟩,?_⟩;have gL:=hd_ (gv.o.below I1.o);have Ff:=hd_ gL.o.sz;refine wm_ rfl ?_
    go_wp2_with (at_builtin;refine Kz rfl (.tmp 52) (.tmp 63) 44 rfl Qg2 _ 1 [.int .i64 pk,.int .i64 m,.string (dec (lgN pk m))] rfl rfl gL.o.own Ff.o rfl (by simp[Value.oneCell']) (by omega) (by omega) ?_)
    intro v' w5 gl GE Gy;obtain⟨a3,d3,rfl⟩:=Vk gl;obtain⟨⟨v2,hv2⟩,hf2,hI5⟩:=gL.o.push (x:=(pk,(m:Int),dec (lgN pk m))) Ek.o rfl GE gl;rw[<- cI.o] at hI5;have Fi:=hd_ hI5;have Jv:Hid (mm+1=(Zt9 m (ps.take (k+1)) (l.take (k+1))).length):=by
     show _=_
     rw[cI.o,List.length_append,<- Hmm.o];rfl
    clear gl GE Gy hI5 gL I1;go_wp2_with fail;refine wa_ rfl ?_;go_big_quiet_step (fail);refine wq_ ?_;refine wm_ rfl ?_;go_wp2_with fail;simp only[RP.walkR];go_wp2_with fail;refine⟨⟨k+1,a3,d3,mm+1,by omega,by go_num,by omega,Jv,Fi⟩,by simp[intOf];omega⟩
  ·obtain rfl:k=n:=by omega
   have gu:¬ (k:Int)<k:=by omega
   have Ey:Zt9 m (ps.take k) (l.take k)=Zt9 m ps l:=by
    rw[<- Hn.o,List.take_length,List.take_of_length_le (by rw[Hl.o,Hn.o];omega)]
   have D7:=hd_ Ey;obtain⟨k0,k1,k2,-⟩:=Qh HI.o.ob;obtain⟨r0,r1,r2,rf⟩:=Qh HI.o.res;have f0:=rf 0;have f1:=rf 1;have f2:=rf 2;have Bw:=bt_ B5 HI.o.bel;have Nv:Hid (Rd (((wr.setCell ⟨w.heap.size,0,none⟩ (.int .i64 sg)).setCell ⟨w.heap.size,1,none⟩ (.int .i64 m)).setCell ⟨w.heap.size,2,none⟩ (.slice a mm c)) a (Zf1 (Zt9 m ps l))):=by
    have:=HI.o.own
    rw[Ey] at this;have bO:w.heap.size<w3.heap.size+1:=Nat.lt_succ_of_lt Ek.o;exact Zos (ownsRow_setCell_below (ownsRow_setCell_below (ownsRow_setCell_below this (a:=⟨w.heap.size,0,none⟩) bO _) (a:=⟨w.heap.size,1,none⟩) bO _) (a:=⟨w.heap.size,2,none⟩) bO _)
   rw[Ey] at Hmm;clear Ey rf aK;go_wp2;obtain⟨z0,z1,z2,hb3⟩:=Zfq (.int .i64 sg) (.int .i64 m) (.slice a mm c) r0 r1 r2 nr_ Bw.o;generalize ((wr.setCell ⟨w.heap.size,0,none⟩ (.int .i64 sg)).setCell ⟨w.heap.size,1,none⟩ (.int .i64 m)).setCell ⟨w.heap.size,2,none⟩ (.slice a mm c)=w9 at *;exact bodyPost_ret (v := .tuple #[.agg #[.int .i64 sg,.int .i64 m,.slice a mm c],.int .i64 0]) (by simp[results,Tryz.results56,go_sem,z0,z1,z2]) rfl ⟨m,a,c,by rw[<- Hmm.o,<- (show sg=Zid m ps l from Dn.o)];rfl,HN.o,Nv.o,hb3⟩
structure Qc5 (w W:World):Prop where
 e0:W.heap[w.heap.size]?=some (.cells #[.string ⟨#[]⟩,.string ⟨#[]⟩] 101 (0,0))
 e1:W.heap[w.heap.size+1]?=some (.cells #[.string ⟨#[]⟩,.string ⟨#[]⟩] 101 (0,0))
 bel:Bw_ w W
theorem Qc5.mk'(w:World):Qc5 w ((w.alloc (.cells #[.string ⟨#[]⟩,.string ⟨#[]⟩] 101)).alloc (.cells #[.string ⟨#[]⟩,.string ⟨#[]⟩] 101)):=by
 have h1:=heap_alloc_new w (.cells #[.string ⟨#[]⟩,.string ⟨#[]⟩] 101);have h2:=heap_alloc_new (w.alloc (.cells #[.string ⟨#[]⟩,.string ⟨#[]⟩] 101)) (.cells #[.string ⟨#[]⟩,.string ⟨#[]⟩] 101);refine⟨?_,?_,((Below.refl _ _).alloc nr_ _).alloc (by simp) _⟩
 ·rw[((Below.refl (w.alloc (.cells #[.string ⟨#[]⟩,.string ⟨#[]⟩] 101)).heap.size _).alloc nr_ _).block _ (Array.getElem?_eq_some_iff.1 h1).1];exact h1
 ·have e:(w.alloc (.cells #[.string ⟨#[]⟩,.string ⟨#[]⟩] 101)).heap.size=w.heap.size+1:=by simp
  rw[e] at h2;exact h2
theorem Qc5.below{w W W':World}(h:Qc5 w W)(hb:Bw_ W W'):Qc5 w W' :=
 ⟨by rw[hb.block _ (Array.getElem?_eq_some_iff.1 h.e0).1];exact h.e0,by rw[hb.block _ (Array.getElem?_eq_some_iff.1 h.e1).1];exact h.e1,h.bel.trans (hb.mono h.bel.size)⟩
theorem Zpk{w W:World}(h:Qc5 w W)(x y z u:Value):∃ w9,(((W.setCell ⟨w.heap.size,0,none⟩ x).setCell ⟨w.heap.size,1,none⟩ y).setCell ⟨w.heap.size+1,0,none⟩ z).setCell ⟨w.heap.size+1,1,none⟩ u=w9 /\
  w9.heap[w.heap.size]?=some (.cells #[x,y] 101 (0,0))/\w9.heap[w.heap.size+1]?=some (.cells #[z,u] 101 (0,0))/\Bw_ w w9:=by
 have h1:=Za1 (x':=x) (y':=y) h.e0;have e1:((W.setCell ⟨w.heap.size,0,none⟩ x).setCell ⟨w.heap.size,1,none⟩ y).heap[w.heap.size+1]?=some (.cells #[.string ⟨#[]⟩,.string ⟨#[]⟩] 101 (0,0)):=by
  rw[Below.heap_setCell _ _ _ _ (by show w.heap.size+1≠w.heap.size;omega),Below.heap_setCell _ _ _ _ (by show w.heap.size+1≠w.heap.size;omega)];exact h.e1
 refine⟨_,rfl,?_,Za1 e1,(((h.bel.setCell (p:=⟨w.heap.size,0,none⟩) nr_ _).setCell (p:=⟨w.heap.size,1,none⟩) nr_ _).setCell (p:=⟨w.heap.size+1,0,none⟩) (Nat.le_succ _) _).setCell (p:=⟨w.heap.size+1,1,none⟩) (Nat.le_succ _) _⟩;rw[Below.heap_setCell _ _ _ _ (by show w.heap.size≠w.heap.size+1;omega),Below.heap_setCell _ _ _ _ (by show w.heap.size≠w.heap.size+1;omega)];exact h1
theorem Zt0(w:World)(a0 a1:OA_)(c0 c1 D b:Nat)(ps:List Int)(l:List Rat)(rp:Rd w a0 (Qw ps))(rl:Rd w a1 (Km l))(hi:Zgm ps)(hl:l.length=ps.length)(hn:ps.length<=100)(hp:∀ p∈ps,∃ q:Nat,p=q/\(q=2\/q∈Za4))(hs:∀ q∈l,Sm D q)(hD:D<=30)
  (f9:Vd ps=0) (hb:b<=1000) (L:Qg w) :
  Kc Tryz.prog 107 #[.slice a0 ps.length c0,.slice a1 ps.length c1,.int .i64 b] w (.tuple #[fr (loE b ps l),fr (hiE b ps l),.int .i64 0]):=by
 unfold Kc;have HE:=hd_ (Qc5.mk' w);have Cm:=hd_ (Zgh _ a0 a1 c0 c1 ps l (rp.below HE.o.bel nr_) (rl.below HE.o.bel nr_) hi hl hn (fun q hq=>(hs q hq).le hD) f9 (L.below HE.o.bel));have iJ:=hd_ (fun W (hW:Bw_ w W)=>Zjh W ps l b a0 a1 c0 c1 (rp.below hW nr_) (rl.below hW nr_) hl hn hp hb (L.below hW));have E6:=hd_ (fun W (hW:Bw_ w W) R (H:Zqf W R ps l b)=>Zdl W R ps l b b D H hl hn hp hs (by omega) nr_ hb (L.below hW));clear rp rl hs hp f9 L hi hl;generalize loE b ps l=lo at *;generalize hiE b ps l=hi at *;unfold fr fv at E6 ⊢;generalize ps.length=n at *;go_enter Tryz.func107,Tryz.ntmps107;go_wp2_with fail;generalize (w.alloc (.cells #[.string ⟨#[]⟩,.string ⟨#[]⟩] 101)).alloc (.cells #[.string ⟨#[]⟩,.string ⟨#[]⟩] 101)=W0 at *;refine cm_ Cm.o ?_;rintro e w1 ⟨rfl,hbx⟩;have eW:=hd_ (HE.o.below hbx);clear hbx Cm HE;go_wp2_with fail;refine cm_ (iJ.o _ eW.o.bel) ?_;rintro e w2 ⟨R,rfl,hg,hR,hbx⟩;have FL:=hd_ (eW.o.below hbx);have HG:=hd_ hg;clear hbx hg hR iJ eW;go_wp2_with fail;refine cm_ (E6.o _ FL.o.bel R HG.o) ?_;rintro e w3 ⟨rfl,hbx⟩;have Dq:=hd_ (FL.o.below hbx);clear hbx HG E6 FL;obtain⟨k0,k1,f0,f1⟩:=Ka Dq.o.e0;obtain⟨k2,k3,f2,f3⟩:=Ka Dq.o.e1;go_wp2_with fail;obtain⟨w9,hw9,h0,h1,De⟩:=Zpk Dq.o (.string (itx lo.num)) (.string (dec lo.den)) (.string (itx hi.num)) (.string (dec hi.den));rw[hw9];have HI:Hid (EnI w w9 lo hi):=⟨h0,h1,De⟩;clear hw9 h0 h1 De k0 k1 k2 k3 f0 f1 f2 f3 Dq;have CA:∀ p:EnW w lo hi,p.w.cell? ⟨w.heap.size,0,none⟩=some (.string (itx lo.num)):=fun p=>p.cells.1
 have bY:∀ p:EnW w lo hi,p.w.cell? ⟨w.heap.size,1,none⟩=some (.string (dec lo.den)):=fun p=>p.cells.2.1
 have bX:∀ p:EnW w lo hi,p.w.cell? ⟨w.heap.size+1,0,none⟩=some (.string (itx hi.num)):=fun p=>p.cells.2.2.1
 have bW:∀ p:EnW w lo hi,p.w.cell? ⟨w.heap.size+1,1,none⟩=some (.string (dec hi.den)):=fun p=>p.cells.2.2.2
 have gj:Nonempty (EnW w lo hi):=⟨⟨_,HI.o⟩⟩;have BQ:=hd_ (HI.o.below (Qj w9 1));refine RP.wp_region_readers 3 [(1,0),(1,1),(0,2),(0,3),(2,4)] (fun w'=>∃ p:EnW w lo hi,w'=p.w) (by kernel_rfl) (by kernel_rfl) ?_ ?_
 ·exact⟨⟨_,BQ.o⟩,rfl⟩
 iterate 2 (refine wr_ rfl ?_;go_big_quiet_step (fail);refine wq_ ?_)
 clear gj CA bY bX bW;obtain⟨k0,k1,f0,f1⟩:=Ka HI.o.e0;have eW:=hd_ (BQ.o.put0 lo);refine wm_ rfl ?_;go_wp2_with fail;refine⟨⟨⟨_,eW.o⟩,rfl⟩,?_⟩;have FL:Hid (EnI w ((w9.setCell ⟨w.heap.size,0,none⟩ (.string (itx lo.num))).setCell ⟨w.heap.size,1,none⟩ (.string (dec lo.den))).drew lo hi):=eW.o;clear k0 k1 f0 f1 eW BQ HI;generalize ((w9.setCell ⟨w.heap.size,0,none⟩ (.string (itx lo.num))).setCell ⟨w.heap.size,1,none⟩ (.string (dec lo.den))).drew=wz at *;obtain⟨k2,k3,f2,f3⟩:=Ka FL.o.e1;have Dq:=hd_ (FL.o.put1 hi);refine wm_ rfl ?_;go_wp2_with fail;refine wa_ rfl ?_;go_big_quiet_step (fail);refine wq_ ?_;simp only[RP.walkR];generalize (wz.setCell ⟨w.heap.size+1,0,none⟩ (.string (itx hi.num))).setCell ⟨w.heap.size+1,1,none⟩ (.string (dec hi.den))=wy at *;clear k2 k3 f2 f3 FL;obtain⟨z0,z1,-,-⟩:=Ka Dq.o.e0;obtain⟨z2,z3,-,-⟩:=Ka Dq.o.e1;go_wp2_with fail;exact bodyPost_ret (v := .tuple #[.agg #[.string (itx lo.num),.string (dec lo.den)],.agg #[.string (itx hi.num),.string (dec hi.den)],.int .i64 0]) (by simp[results,Tryz.results107,go_sem,z0,z1,z2,z3]) rfl ⟨rfl,Dq.o.bel⟩
def scE (k:Nat) (x:Rat):Int:=Zig (x*((1200*10^k:Nat):Rat))
theorem Qal(N:Nat):((N:Nat):Rat).num=N/\((N:Nat):Rat).den=1:=⟨Rat.num_natCast N,Rat.den_natCast N⟩
theorem Zg7(w:World)(x:Rat)(D k:Nat)(hx:Sm D x)(hD:D<=900000)(hk:k<=9)(L:Qg w):
  Kc Tryz.prog 188 #[fr x,.int .i64 k] w (.string (itx (scE k x))):=by
 unfold Kc;obtain⟨N,hN⟩:∃ N,1200*10^k=N:=⟨_,rfl⟩;have Ld:N<=1200000000000:=by
  rw[<- hN];exact Nat.le_trans (Nat.mul_le_mul_left 1200 (Nat.pow_le_pow_right (show 0<10 by decide) hk)) (by decide)
 have jX:Sm 13 ((N:Nat):Rat):=by
  obtain⟨h1,h2⟩:=Qal N;refine⟨by rw[h1,Int.natAbs_natCast];exact Nat.lt_of_le_of_lt Ld (by decide),by rw[h2];decide⟩
 have gC:=hd_ ((Below.refl w.heap.size w).alloc nr_ (.cells #[.string (itx x.num),.string (dec x.den)] 101));have F:=hd_ (Zc1.new w x);have Gj:=hd_ (fun W (hW:Bw_ w W)=>show Kc Tryz.prog 13 #[.int .i64 N] W (.string (dec N)) from by
  have:=Zam W N (by omega) (by omega) (L.below hW)
  rw[Kg] at this;exact this)
 have dR:=hd_ (fun W (hW:Bw_ w W)=>Qdb W x ((N:Nat):Rat) D 13 hx jX (by omega) (L.below hW));have bv:=hd_ (fun W (hW:Bw_ w W)=>Zyt W (x*((N:Nat):Rat)) (D+13) (hx.mul jX) (by omega) (L.below hW));have hv:scE k x=Zig (x*((N:Nat):Rat)):=by unfold scE;rw[hN]
 rw[hv];have ee:fr ((N:Nat):Rat) = .agg #[.string (dec N),.string ⟨#[49]⟩]:=by
  obtain⟨h1,h2⟩:=Qal N;unfold fr fv;rw[h1,h2,Kg,Yo]
 rw[ee] at dR;have HN:Hid (∀ j,j<=k->1200*10^j<=N):=fun j hj=>by rw[<- hN];exact Nat.mul_le_mul_left _ (Nat.pow_le_pow_right (by decide) hj)
 have mT:=hd_ hN;clear L hx hN hv ee jX;generalize Zig (x*((N:Nat):Rat))=res at *;generalize x*((N:Nat):Rat)=y at *;unfold fr fv at dR bv ⊢;go_enter Tryz.func188,Tryz.ntmps188;go_wp2_with fail;generalize hW0:w.alloc (.cells #[.string (itx x.num),.string (dec x.den)] 101)=W0 at *
 go_loopw [5,7] (fun b i wr=>∃ (j M:Nat),j<=k/\M<=1200000000000/\b = .int .i64 M/\i = .int .i64 j/\Hid (M=1200*10^j)/\Hid (wr=W0)) (fun _ i _=>k-(intOf i).toNat)
 case atStart=>exact⟨0,1200,Nat.zero_le _,by decide,rfl,rfl,rfl,rfl⟩
 case round =>
  obtain⟨j,M,hj,hM,rfl,rfl,HM,FM⟩:=hrel;have ja:=FM.o;subst ja;clear FM
  by_cases gd:j<k
  ·have gu:(j:Int)<k:=by omega
   have bL:1200*10^(j+1)=M*10:=by rw[HM.o,Nat.pow_succ,Nat.mul_assoc]
   have Gb:M*10<=1200000000000:=by rw[<- bL];exact Nat.le_trans (HN.o (j+1) gd) Ld
   have hw:IntKind.i64.wrap ((M:Int)*10)=((M*10:Nat):Int):=by rw[show (M:Int)*10=((M*10:Nat):Int) by omega];exact iw_ _ (by omega)
   have MO:IntKind.i64.wrap ((j:Int)+1)=((j+1:Nat):Int):=by rw[<- Int.natCast_succ];exact iw_ _ (by omega)
   have BM:Hid (M*10=1200*10^(j+1)):=bL.symm;clear bL;go_wp2_with fail;refine⟨⟨j+1,M*10,by omega,Gb,by go_num,by go_num,BM,trivial⟩,by simp[intOf];omega⟩
  ·obtain rfl:j=k:=by omega
   have gu:¬ (j:Int)<j:=by omega
   have nl:M=N:=by rw[HM.o];exact mT.o
   subst nl;obtain⟨k0,k1,-,-⟩:=Ka F.o;have q0:=NW.cell k0;have q1:=NW.cell k1;have gj:Nonempty (NW wr):=⟨⟨wr,Below.refl _ _⟩⟩;have I:Hid (Bw_ wr wr.drew):=(Below.refl _ _).drew;clear HM HN mT k0 k1;go_wp2_with fail;refine wn_ 5 [(1,0),(2,1),(0,2),(0,3),(0,4),(0,5),(2,6)] I ?_;refine wr_ rfl ?_;go_big_quiet_step (fail);refine wq_ ?_;refine wa_ rfl ?_;go_big_quiet_step (fail);refine wq_ ?_;clear gj q0 q1;refine wm_ rfl ?_;go_wp2_with fail;refine cm_ (Gj.o _ (bu_ gC I.o)) ?_;rintro e w1 ⟨rfl,hb⟩;have I1:Hid (Bw_ wr w1):=I.o.trans (hb.mono I.o.size);clear hb I Gj;go_wp2_with fail;refine⟨⟨⟨_,I1.o⟩,rfl⟩,?_⟩;refine wm_ rfl ?_;go_wp2_with fail;refine⟨⟨⟨_,I1.o⟩,rfl⟩,?_⟩;refine wm_ rfl ?_;go_wp2_with fail;refine cm_ (dR.o _ (bu_ gC I1.o)) ?_;rintro e w2 ⟨rfl,hb⟩;have I2:Hid (Bw_ wr w2):=I1.o.trans (hb.mono I1.o.size);clear hb I1 dR;go_wp2_with fail;refine⟨⟨⟨_,I2.o⟩,rfl⟩,?_⟩;refine wm_ rfl ?_;go_wp2_with fail;refine cm_ (bv.o _ (bu_ gC I2.o)) ?_;rintro e w3 ⟨rfl,hb⟩;have I3:Hid (Bw_ w w3):=gC.o.trans ((bu_ I2 hb).mono gC.o.size);clear hb I2 bv;go_wp2_with fail;refine wa_ rfl ?_;go_big_quiet_step (fail);refine wq_ ?_;simp only[RP.walkR];go_wp2_with fail;go_ret;exact⟨rfl,I3.o⟩
def Zbs (k:Nat) (a b:Rat):Bool:=(itx (scE k a)).toList==(itx (scE k b)).toList
theorem Zp8(w:World)(a b:Rat)(D k g:Nat)(ha:Sm D a)(hb:Sm D b)(hD:D<=900000)(hk:k<=9)(hg:w.cell? ⟨g,0,none⟩=some (.int .i64 k))(L:Qg w):
  Kc Tryz.prog 187 #[fr a,fr b,.pointer (some ⟨g,0,none⟩)] w (.bool (Zbs k a b)):=by
 have H3:=hd_ (Zz9.mk' w (itx a.num) (dec a.den) (itx b.num) (dec b.den));have Ha:=hd_ (fun W (hW:Bw_ w W)=>Zg7 W a D k ha hD hk (L.below hW));have Hb:=hd_ (fun W (hW:Bw_ w W)=>Zg7 W b D k hb hD hk (L.below hW));have Hv:Hid (Zbs k a b=((itx (scE k a)).toList==(itx (scE k b)).toList)):=rfl;have dI:=block_lt_of_cell hg;have Hg:=hd_ hg;clear ha hb hD L hg;generalize Zbs k a b=v at *;generalize itx (scE k a)=sa at *;generalize itx (scE k b)=sb at *;unfold Kc;unfold fr fv at Ha Hb ⊢;go_enter Tryz.func187,Tryz.ntmps187;go_wp2_with fail;generalize (w.alloc (.cells #[.string (itx a.num),.string (dec a.den)] 101)).alloc (.cells #[.string (itx b.num),.string (dec b.den)] 101)=W0 at *;have fK:W0.cell? ⟨g,0,none⟩=some (.int .i64 k):=(H3.o.bel.cell (p:=⟨g,0,none⟩) dI).trans Hg.o;obtain⟨k0,k1,-,-⟩:=Ka H3.o.fa;obtain⟨k2,k3,-,-⟩:=Ka H3.o.fb;have q0:=NW.cell k0;have q1:=NW.cell k1;have q2:=NW.cell k2;have q3:=NW.cell k3;have q4:=NW.cell fK;have gj:Nonempty (NW W0):=⟨⟨W0,Below.refl _ _⟩⟩;have I:Hid (Bw_ W0 W0.drew):=(Below.refl _ _).drew;clear k0 k1 k2 k3 fK;refine wn_ 5 [(1,0),(1,1),(1,3),(1,4),(0,2),(0,5),(2,6),(2,7)] I ?_;iterate 4 (refine wr_ rfl ?_;go_big_quiet_step (fail);refine wq_ ?_)
 clear gj q0 q1 q2 q3 q4;refine wm_ rfl ?_;go_wp2_with fail;refine cm_ (Ha.o _ (H3.o.bel.trans (I.o.mono H3.o.bel.size))) ?_;rintro e w1 ⟨rfl,hbx⟩;have I1:Hid (Bw_ W0 w1):=I.o.trans (hbx.mono I.o.size);clear hbx I Ha;go_wp2_with fail;refine⟨⟨⟨_,I1.o⟩,rfl⟩,?_⟩;refine wm_ rfl ?_;go_wp2_with fail;refine cm_ (Hb.o _ (H3.o.bel.trans (I1.o.mono H3.o.bel.size))) ?_;rintro e w2 ⟨rfl,hbx⟩;have I2:Hid (Bw_ w w2):=H3.o.bel.trans ((bu_ I1 hbx).mono H3.o.bel.size);clear hbx I1 Hb;go_wp2_with fail;iterate 2 (refine wa_ rfl ?_;go_big_quiet_step (fail);refine wq_ ?_)
 simp only[RP.walkR];go_wp2_with fail;go_ret;exact⟨by rw[Hv.o];rfl,I2.o⟩
def Qha (w w':World) (ps:List Int) (l:List Rat) (k:Nat) (e:Ending):Prop :=
 ∃ n:Nat,e = .returned (.tuple #[.int .i64 n,.string (itx (scE k (loE n ps l))),.int .i64 0])/\Zcy (fun b=>Zbs k (loE b ps l) (hiE b ps l)) n/\Bw_ w w'
theorem Zp7(w:World)(a1 a2:OA_)(c1 c2 n1 n2:Nat)(k:Int)(hck:∀ W,Bw_ w W->Kc Tryz.prog 78 #[.slice a1 n1 c1,.slice a2 n2 c2] W (.int .i64 0))(he:k<0\/9<k):
  Kc Tryz.prog 109 #[.slice a1 n1 c1,.slice a2 n2 c2,.int .i64 k] w (.tuple #[.int .i64 0,.string ⟨#[]⟩,.int .i64 3]):=by
 unfold Kc;have B0:=hd_ ((Below.refl w.heap.size w).alloc nr_ (.cells #[.int .i64 k] 3));have N0:Hid ((w.alloc (.cells #[.int .i64 k] 3)).cell? ⟨w.heap.size,0,none⟩=some (.int .i64 k)):=cell_of_row _ _ 0 _ 3 (0,0) (heap_alloc_new w _);have HC:=hd_ (hck _ B0.o);clear hck
 by_cases h1:k<0
 ·go_enter Tryz.func109,Tryz.ntmps109;go_wp2_with fail;generalize w.alloc (.cells #[.int .i64 k] 3)=W0 at *;refine cm_ HC.o ?_;rintro e w1 ⟨rfl,hb⟩;have c1:=(hb.cell (block_lt_of_cell N0.o)).trans N0.o;have B1:=bt_ B0 hb;clear hb HC;go_wp2_with fail
  go_ret3
  exact⟨rfl,B1.o⟩
 ·have h2:9<k:=by omega
  go_enter Tryz.func109,Tryz.ntmps109;go_wp2_with fail;generalize w.alloc (.cells #[.int .i64 k] 3)=W0 at *;refine cm_ HC.o ?_;rintro e w1 ⟨rfl,hb⟩;have c1:=(hb.cell (block_lt_of_cell N0.o)).trans N0.o;have B1:=bt_ B0 hb;clear hb HC;go_wp2_with fail
  go_ret3
  exact⟨rfl,B1.o⟩
theorem Zjx(w:World)(a0 a1:OA_)(c0 c1 D k:Nat)(ps:List Int)(l:List Rat)(rp:Rd w a0 (Qw ps))(rl:Rd w a1 (Km l))(hi:Zgm ps)(hl:l.length=ps.length)(hn:ps.length<=100)(hp:∀ p∈ps,∃ q:Nat,p=q/\(q=2\/q∈Za4))(hs:∀ q∈l,Sm D q)(hD:D<=30)
  (f9:Vd ps=0) (hk:k<=9) (GH:Zbs k (loE 1000 ps l) (hiE 1000 ps l)=true) (L:Qg w) :
  Calls Tryz.prog 109 #[.slice a0 ps.length c0,.slice a1 ps.length c1,.int .i64 k] w fun e w'=>Qha w w' ps l k e:=by
 have B0:=hd_ ((Below.refl w.heap.size w).alloc nr_ (.cells #[.int .i64 k] 3));have N0:Hid ((w.alloc (.cells #[.int .i64 k] 3)).cell? ⟨w.heap.size,0,none⟩=some (.int .i64 k)):=cell_of_row _ _ 0 _ 3 (0,0) (heap_alloc_new w _);have Cm:=hd_ (Zgh _ a0 a1 c0 c1 ps l (rp.below B0.o nr_) (rl.below B0.o nr_) hi hl hn (fun q hq=>(hs q hq).le hD) f9 (L.below B0.o));have GF:∀ b,b<=1000->Sm 100000 (loE b ps l)/\Sm 100000 (hiE b ps l):=fun b hb=>by
  have h:=Zlc (show b<=1056 by omega) hp hl hs ps.length nr_;rw[List.take_length,List.take_of_length_le (by omega)] at h;have H7:1+ps.length*(D+356)<=100000:=by
   have:ps.length*(D+356)<=100*386:=Nat.mul_le_mul hn (by omega)
   omega
  exact⟨h.1.le H7,h.2.le H7⟩
 have dS:=hd_ (fun W (hW:Bw_ w W) (hc:W.cell? ⟨w.heap.size,0,none⟩=some (.int .i64 k))=>Zm4 W ps l a0 a1 c0 c1 D (rp.below hW nr_) (rl.below hW nr_) hl hn hp hs (by omega) 187 #[.pointer (some ⟨w.heap.size,0,none⟩)] (Zla Tryz.func187 (by kernel_rfl) rfl) (fun b=>Zbs k (loE b ps l) (hiE b ps l)) (fun W' Dg b hb =>
  Zp8 W' (loE b ps l) (hiE b ps l) 100000 k w.heap.size (GF b hb).1 (GF b hb).2 (by decide) hk ((Dg.cell (block_lt_of_cell hc)).trans hc) (L.below (bv_ hW Dg))) GH (L.below hW))
 have E6:=hd_ (fun W (hW:Bw_ w W) R B b (H:Zqf W R ps l B) (hb:b<=B) (hB:B<=1000)=>Zdl W R ps l B b D H hl hn hp hs (by omega) hb hB (L.below hW));have JV:=hd_ (fun W (hW:Bw_ w W) b (hb:b<=1000)=>Zg7 W (loE b ps l) 100000 k (GF b hb).1 (by decide) hk (L.below hW));clear rp rl hs hp f9 L hi GH GF;unfold fr fv at E6 JV;obtain⟨n,EC⟩:∃ n,ps.length=n:=⟨_,rfl⟩;rw[EC] at hn Cm dS ⊢;clear EC hl;go_enter Tryz.func109,Tryz.ntmps109;go_wp2_with fail;generalize w.alloc (.cells #[.int .i64 k] 3)=W0 at *;refine cm_ Cm.o ?_;rintro e w1 ⟨rfl,hb⟩;have B1:=bt_ B0 hb;have Lv:=(hb.cell (block_lt_of_cell N0.o)).trans N0.o;have N1:=hd_ Lv;have EF:¬ ((k:Int)<0):=by omega
 have CY:¬ (9<(k:Int)):=by omega
 clear hb Cm N0 B0;go_wp2_with fail;refine cm_ (dS.o _ B1.o N1.o) ?_;rintro e w2 ⟨R,B,m,rfl,hg,hm,hB,hN,hb⟩;have B2:=bt_ B1 hb;have Lu:=(hb.cell (block_lt_of_cell N1.o)).trans N1.o;have N2:=hd_ Lu;have HG:=hd_ hg;have HN:=hd_ hN;clear hb dS B1 hg hN Lv N1 Lu;go_wp2_with fail;refine cm_ (E6.o _ B2.o R B m HG.o hm hB) ?_;rintro e w3 ⟨rfl,hb⟩;have B3:=bt_ B2 hb;have j8:=(hb.cell (block_lt_of_cell N2.o)).trans N2.o;have N3:=hd_ j8;have cz:=Lib.cell?_alloc_some (.cells #[.string (itx (hiE m ps l).num),.string (dec (hiE m ps l).den)] 101) (Lib.cell?_alloc_some (.cells #[.string (itx (loE m ps l).num),.string (dec (loE m ps l).den)] 101) j8);have B4:=hd_ ((B3.o.alloc B3.o.size (.cells #[.string (itx (loE m ps l).num),.string (dec (loE m ps l).den)] 101)).alloc (Nat.le_trans B3.o.size (by simp)) (.cells #[.string (itx (hiE m ps l).num),.string (dec (hiE m ps l).den)] 101));clear hb E6 B2 HG N2 j8;go_wp2_with fail;refine cm_ (JV.o _ B4.o m (by omega)) ?_;rintro e w4 ⟨rfl,hb⟩;have B5:=bt_ B4 hb;clear hb JV B4 B3 N3 cz;go_wp2_with fail
 go_ret3
 exact⟨m,rfl,HN.o,B5.o⟩
theorem Zt5(w:World)(a1 a2:OA_)(c1 c2 n1 n2:Nat)(v k:Int)(hc:Kc Tryz.prog 109 #[.slice a1 n1 c1,.slice a2 n2 c2,.int .i64 k] w (.tuple #[.int .i64 0,.string ⟨#[]⟩,.int .i64 v]))(he:v≠0):
  Kc Tryz.prog 44 #[.slice a1 n1 c1,.slice a2 n2 c2,.int .i64 k] w (.tuple #[.string ⟨#[]⟩,.int .i64 v]):=by
 have HC:=hd_ hc;have js:(v != 0)=true:=by rw[bne_iff_ne];exact he
 clear he hc;unfold Kc;go_enter Tryz.func44,Tryz.ntmps44;go_wp2_with fail;refine cm_ HC.o ?_;rintro e w1 ⟨rfl,hb⟩;have B1:=hd_ hb;clear hb HC;go_wp2_with fail
 go_ret2
 exact⟨rfl,B1.o⟩
theorem Zxc(w:World)(a1 a2:OA_)(c1 c2 n1 n2 k N:Nat)(hN:0<N)(hk:0<k)(CY:k<=9)(hs:k<(dec N).size)(G1:(dec N).size<=1000000)(hc:Calls Tryz.prog 109 #[.slice a1 n1 c1,.slice a2 n2 c2,.int .i64 k] w fun e w'=>(∃ m:Int,e = .returned (.tuple #[.int .i64 m,.string (dec N),.int .i64 0]))/\Bw_ w w'):
  Kc Tryz.prog 44 #[.slice a1 n1 c1,.slice a2 n2 c2,.int .i64 k] w (.tuple #[.string ((dec N).extract 0 ((dec N).size-k)++⟨#[46]⟩++(dec N).extract ((dec N).size-k) (dec N).size),.int .i64 0]):=by
 unfold Kc;have HC:=hd_ hc;have HA:=hd_ (fun W=>show Kc Tryz.prog 110 #[.string (dec N)] W (.string (dec N)) from by
  have:=Zd2 W (N:Int)
  rw[Kg,Int.natAbs_natCast] at this;exact this)
 have HS:=hd_ (fun W=>show Kc Tryz.prog 59 #[.string (dec N)] W (.int .i64 1) from by
  have:=Ys W (N:Int)
  rw[Kg,Zf8 hN] at this;exact this)
 clear hc hN;generalize dec N=s at *;obtain⟨z,hz⟩:∃ z,s.size=z:=⟨_,rfl⟩;have Hz:=hd_ hz;rw[hz] at hs G1;clear hz;go_enter Tryz.func44,Tryz.ntmps44;go_wp2_with fail;refine cm_ HC.o ?_;rintro e w1 ⟨⟨m,rfl⟩,hb⟩;have B1:=hd_ hb;clear hb HC;go_wp2_with fail;refine cm_ (HA.o _) ?_;rintro e w2 ⟨rfl,hb⟩;have B2:=bt_ B1 hb;clear hb HA B1;have hz:=Hz.o;have GM:¬ ((s.size:Int)<=k):=by rw[hz];omega
 have EF:(0:Int)<k:=by omega
 have hw:IntKind.i64.wrap ((s.size:Int)-k)=((s.size-k:Nat):Int):=by rw[hz,show (z:Int)-k=((z-k:Nat):Int) by omega];exact iw_ _ (by omega)
 clear hz;have Cy:((s.size-k:Nat):Int)<=s.size:=by omega
 have dt:¬ (9223372036854775807<s.size-k+1):=by rw[Hz.o];omega
 have dp:¬ (9223372036854775807<s.size-k+1+(s.size-(s.size-k))):=by rw[Hz.o];omega
 go_wp2_with fail;refine RP.wp_region_readers 14 [(2,0),(2,1),(2,2),(2,3),(2,4),(2,5),(2,6),(2,7),(2,8),(2,9),(2,10),(2,11),(2,12),(2,13),(0,14)] (fun _=>True) (by kernel_rfl) (by kernel_rfl) ?_ ?_
 ·trivial
 iterate 14 (refine wa_ rfl ?_;go_big_quiet_step (fail);refine wq_ ?_)
 refine wm_ rfl ?_;go_wp2_with fail;simp only[RP.walkR];go_wp2_with fail;refine cm_ (HS.o _) ?_;rintro e w3 ⟨rfl,hb⟩;have B3:=hd_ ((Qb B2.o 1).trans (hb.mono (Qb B2.o 1).size));clear hb HS B2;go_wp2_with fail
 go_ret2
 exact⟨rfl,B3.o⟩
theorem Zga{k:Nat}{x y:Rat}(h:x<=y):scE k x<=scE k y:=by
 unfold scE Zig;have h1:x*((1200*10^k:Nat):Rat)<=y*((1200*10^k:Nat):Rat):=Rat.mul_le_mul_of_nonneg_right h (by exact_mod_cast Nat.zero_le _);exact Rat.floor_monotone (Rat.add_le_add_right.2 h1)
theorem Zed{k:Nat}{x y:Rat}:Zbs k x y=true↔scE k x=scE k y:=by
 unfold Zbs;constructor
 ·intro h;have h1:=eq_of_beq h;refine Zk7 ?_;exact ByteArray.ext (Array.ext' (by simpa [ByteArray.toList_eq] using h1))
 ·intro h;rw[h];exact beq_self_eq_true _
theorem Zvb{k n m:Nat}{ps:List Int}{l:List Rat}(h:∀ p∈ps,∃ q:Nat,p=q/\(q=2\/q∈Za4))(_hn:n<=1000)(hm:m<=1000)(h1:Zbs k (loE n ps l) (hiE n ps l)=true)(dh:n<=m):
  scE k (loE m ps l)=scE k (loE n ps l)/\Zbs k (loE m ps l) (hiE m ps l)=true:=by
 obtain⟨u1,u2⟩:=Zlb (n:=n) (l:=l) h (m-n) (by omega);rw[show n+(m-n)=m by omega] at u1 u2;have h2:=Zed.1 h1;have h3:=Zle m ps l;have a1:=Zga (k:=k) u1;have a2:=Zga (k:=k) h3;have a3:=Zga (k:=k) u2;refine⟨by omega,Zed.2 (by omega)⟩
theorem Qdv{k n m:Nat}{ps:List Int}{l:List Rat}(h:∀ p∈ps,∃ q:Nat,p=q/\(q=2\/q∈Za4))(hn:n<=1000)(hm:m<=1000)(h1:Zbs k (loE n ps l) (hiE n ps l)=true)(h2:Zbs k (loE m ps l) (hiE m ps l)=true):
  scE k (loE m ps l)=scE k (loE n ps l):=by
 rcases Nat.le_total n m with h3|h3
 ·exact(Zvb h hn hm h1 h3).1
 ·exact(Zvb h hm hn h2 h3).1.symm
/-! The numbers. -/
def kP:List Int:=[2,3]
def kA:List Rat:=[-19,12]
def kB:List Rat:=[-1,1]
theorem Zwe:∀ p∈kP,∃ q:Nat,p=q/\(q=2\/q∈Za4):=by
 intro p hp;simp only[kP,List.mem_cons,List.not_mem_nil,or_false] at hp;rcases hp with rfl|rfl
 ·exact⟨2,rfl,.inl rfl⟩
 ·exact⟨3,rfl,.inr (by decide)⟩
theorem Qa1:∀ p∈kP,p∈Zd1:=by decide
theorem Qf3:lgN 3 3=12:=by decide +kernel
theorem Zwd:Zid 9 kP kA=1:=by decide +kernel
theorem Qec:Zid 8 kP kA=0:=by decide +kernel
theorem Qf2:loE 7 kP kA = -1/16:=by decide +kernel
theorem Qf4:hiE 7 kP kA=1/32:=by decide +kernel
theorem Qa0:Zbs 3 (loE 30 kP kB) (hiE 30 kP kB)=true:=by decide +kernel
theorem Qcg:scE 3 (loE 30 kP kB)=701955:=by decide +kernel
theorem Qee:Zt9 9 kP kA=[(2,9,dec 512),(3,9,dec 811)]:=by
 have h1:lgN 2 9=512:=by decide +kernel
 have h2:lgN 3 9=811:=by decide +kernel
 show List.filterMap _ [((2:Int),(-19:Rat)),(3,12)]=_
 rw[List.filterMap_cons,List.filterMap_cons];rw[if_neg (by decide +kernel),if_neg (by decide +kernel),h1,h2];rfl
theorem Qcf{n:Nat}(h:Zcy (fun b=>Zid b kP kA != 0) n):n=9:=by
 refine Zcy.uniq (T:=fun b=>Zid b kP kA != 0) (fun b hb hx=>?_) h ⟨?_,.inr ?_,by decide⟩
 ·show (Zid (b+1) kP kA != 0)=true
  rw[bne_iff_ne];refine Zw5 (d:=1) Qa1 (by omega) ?_;have Mk:(Zid b kP kA != 0)=true:=hx
  rwa [bne_iff_ne] at Mk
 ·show (Zid 9 kP kA != 0)=true
  rw[Zwd];rfl
 ·show (Zid 8 kP kA != 0)=false
  rw[Qec];rfl
theorem Qed{n:Nat}(h:Zcy (fun b=>Zbs 3 (loE b kP kB) (hiE b kP kB)) n):scE 3 (loE n kP kB)=701955:=by
 rw[Qdv Zwe (show 30<=1000 by decide) h.le Qa0 h.at_,Qcg]
theorem Qf5:Zbs 3 (loE 1000 kP kB) (hiE 1000 kP kB)=true:=(Zvb Zwe (by decide) (by decide) Qa0 (by decide)).2
theorem Qeb:Zid 1000 kP kA≠0:=Zw5 (n:=9) (d:=991) Qa1 (by decide) (by rw[Zwd];decide)
theorem Zru(f:Int->Nat):∀ tl:List (Int×Int),(∀ x∈tl,x.1=2)->LN.eLo f tl=LN.eHi f tl
 | [],_=>rfl
 | x::tl,h=>by
  rw[Zry,Zrz,Zru f tl fun y hy=>h y (List.mem_cons_of_mem _ hy)];have e:LN.hiL f x.1=f x.1:=by unfold LN.hiL;rw[if_pos (h x List.mem_cons_self)]
  rw[e]
theorem Zvt{T0 T1 J:Int}{m G U V:Nat}(hB:(T1-m*T0).natAbs<=V)(hA:(G*T0-J).natAbs<=U):(G*T1-J*m).natAbs<=G*V+m*U:=by
 have e:G*T1-J*m=G*(T1-m*T0)+m*(G*T0-J):=by grind
 rw[e];have h1:((G:Int)*(T1-m*T0)).natAbs<=G*V:=by rw[Int.natAbs_mul,Int.natAbs_natCast];exact Nat.mul_le_mul_left _ hB
 have h2:((m:Int)*(G*T0-J)).natAbs<=m*U:=by rw[Int.natAbs_mul,Int.natAbs_natCast];exact Nat.mul_le_mul_left _ hA
 have h3:=Int.natAbs_add_le ((G:Int)*(T1-m*T0)) (m*(G*T0-J));omega
theorem Zyr{lo hi T0 J:Int}{G W:Nat}(h3:hi<=T0+W)(h4:T0<=lo+W)(fu:G*lo<J)(hhi:J<=G*hi):(G*T0-J).natAbs<=G*W:=by
 have a1:(G:Int)*hi<=G*(T0+W):=Int.mul_le_mul_of_nonneg_left h3 (by omega);have a2:(G:Int)*T0<=G*(lo+W):=Int.mul_le_mul_of_nonneg_left h4 (by omega);rw[Int.mul_add] at a1 a2;have e:(G:Int)*W=((G*W:Nat):Int):=by rw[Int.natCast_mul]
 rw[e] at a1 a2;generalize (G:Int)*hi=x at *;generalize (G:Int)*lo=y at *;generalize (G:Int)*T0=t at *;generalize G*W=g at *;omega
theorem Qd2{lo hi J:Int}{G X:Nat}(h1:lo.natAbs<=X)(h2:hi.natAbs<=X)(fu:G*lo<J)(hhi:J<=G*hi):J.natAbs<=G*X:=by
 have a1:(G:Int)*hi<=G*(X:Int):=Int.mul_le_mul_of_nonneg_left (by omega) (by omega);have a2:(G:Int)*(-(X:Int))<=G*lo:=Int.mul_le_mul_of_nonneg_left (by omega) (by omega);have e:(G:Int)*X=((G*X:Nat):Int):=by rw[Int.natCast_mul]
 rw[Int.mul_neg] at a2;rw[e] at a1 a2;generalize (G:Int)*hi=x at *;generalize (G:Int)*lo=y at *;generalize G*X=g at *;omega
theorem Zzz:2400000000000*4096+(2400000000000*393216)*12*1<=LN.KA/\2400000000000*(6*(4096*16777216))+16777216*(2400000000000*(6*4096))<LN.SA:=by decide +kernel
theorem Zxa{tl:List (Int×Int)}{n G d:Nat}{j:Int}(hn:n+24=1024)(h1:∀ x∈tl,x.1∈Vm)(h0:∀ x∈tl,x.2≠0)(hd:(tl.map Prod.fst).Nodup)(hk:∀ x∈tl,x.2.natAbs<=4096)(hl:tl.length<=6)
  (hG0:0<G) (hG:G<=2400000000000) (G':0<d) (hd12:d<=12)
  (fu:G*LN.eLo (lf n) tl<j*d*((lf n 2:Nat):Int)) (hhi:j*d*((lf n 2:Nat):Int)<=G*LN.eHi (lf n) tl):False:=by
 obtain⟨-,-,n3,n4⟩:=Zdc (lf n) 4096 tl hk;have hcut:=Zqq (n:=n) (d:=24) (K:=4096) (by omega) tl (fun x hx=>Zah (h1 x hx)) hk;have hX:=Zho (n:=n) (E:=13) (by omega) tl (fun x hx=>Zbx (Zah (h1 x hx))) (fun x hx=>Nat.lt_of_le_of_lt (hk x hx) (by decide));have hP:lf n 2=2^n:=Zq n;have e1:((2:Nat)^24)=16777216:=by decide
 have jW:lf 1024 2=2^n*16777216:=by rw[<- hn,<- e1];exact(Zq (n+24)).trans (Nat.pow_add 2 n 24)
 have jV:(2:Nat)^(13+(n+3))=65536*2^n:=by
  rw[show 13+(n+3)=16+n by omega,Nat.pow_add]
 have nj:0<(2:Nat)^n:=Nat.two_pow_pos n;have e2:((2:Int)^24)=((16777216:Nat):Int):=by decide
 rw[hn,e1,e2] at hcut;rw[jV] at hX;rw[hP] at fu hhi;generalize (2:Nat)^n=P at *;clear hP jV e1 e2;have hW:tl.length*4096<=6*4096:=Nat.mul_le_mul_right _ hl;have ng:tl.length*(4096*16777216)<=6*(4096*16777216):=Nat.mul_le_mul_right _ hl;have Av:tl.length*(65536*P)<=393216*P:=by
  have:=Nat.mul_le_mul_right (65536*P) hl
  omega
 have hA:=Zyr n3 n4 fu hhi;have hB:=Zvt (m:=16777216) hcut hA;have hJ:=Qd2 (Nat.le_trans hX.1 Av) (Nat.le_trans hX.2 Av) fu hhi;have hj:j.natAbs<=2400000000000*393216:=by
  rw[Int.natAbs_mul,Int.natAbs_mul,Int.natAbs_natCast,Int.natAbs_natCast] at hJ;have q1:j.natAbs*1*P<=j.natAbs*d*P:=Nat.mul_le_mul_right _ (Nat.mul_le_mul_left _ G');have q2:G*(393216*P)<=2400000000000*393216*P:=by rw[Nat.mul_assoc 2400000000000];exact Nat.mul_le_mul_right _ hG
  rw[Nat.mul_one] at q1;exact Nat.le_of_mul_le_mul_right (Nat.le_trans q1 (Nat.le_trans hJ q2)) nj
 obtain⟨c1,c2⟩:=Zzz;have bK:((G:Int)*LN.sumT (lf 1024) tl-j*d*LN.sumT (lf 1024) [((2:Int),(1:Int))]).natAbs<LN.SA:=by
  have e3:LN.sumT (lf 1024) [((2:Int),(1:Int))]=((P*16777216:Nat):Int):=by
   show (1:Int)*((lf 1024 2:Nat):Int)+0=_
   rw[jW,Int.one_mul,Int.add_zero]
  have e4:j*d*((P*16777216:Nat):Int)=j*d*(P:Int)*((16777216:Nat):Int):=by rw[Int.natCast_mul,Int.mul_assoc (j*d)]
  rw[e3,e4];have q1:G*(tl.length*(4096*16777216))<=2400000000000*(6*(4096*16777216)):=Nat.mul_le_mul hG ng;have q2:16777216*(G*(tl.length*4096))<=16777216*(2400000000000*(6*4096)):=Nat.mul_le_mul_left _ (Nat.mul_le_mul hG hW);exact Nat.lt_of_le_of_lt (Nat.le_trans hB (Nat.add_le_add q1 q2)) c2
 have hc:=Zhw (pr:=Vm) Zea Zux (tx:=tl) (ty:=[((2:Int),(1:Int))]) (d:=d) (g:=G) (Kx:=4096) (Ky:=1) (R:=2400000000000*393216) (j:=j) h1
  (by intro x hx;obtain rfl:=List.mem_singleton.1 hx;decide) hd (by simp) hk (by intro x hx;obtain rfl:=List.mem_singleton.1 hx;decide) hj
  (by
   have q1:G*4096<=2400000000000*4096:=Nat.mul_le_mul_right _ hG;have q2:2400000000000*393216*d*1<=2400000000000*393216*12*1:=Nat.mul_le_mul_right _ (Nat.mul_le_mul_left _ hd12);exact Nat.le_trans (Nat.add_le_add q1 q2) c1) bK
 have jg:∀ x∈tl,x.1=2:=fun x hx=>by
  refine Decidable.byContradiction fun gm=>h0 x hx ?_
  have h5:=hc x.1 (h1 x hx);rw[LN.coefP_mem tl hd x hx,LN.coefP_none x.1 [((2:Int),(1:Int))] (by simpa using gm),Int.mul_zero] at h5;rcases Int.mul_eq_zero.1 h5 with h6|h6
  ·omega
  ·exact h6
 rw[Zru (lf n) tl jg] at fu;omega
theorem Zlq{k:Nat}(hk:k<=9):0<1200*10^k/\1200*10^k<=1200000000000:=by
 have h1:10^k<=10^9:=Nat.pow_le_pow_right (by decide) hk;have h2:0<10^k:=Nat.pow_pos (by decide);omega
theorem Qbu{n k:Nat}(hn:n+24=1024){ps:List Int}{l:List Rat}(hk:k<=9)(h1:∀ p∈ps,p∈Vm)(h2:ps.Nodup)(h6:ps.length<=6)(hs:Sml 4096 12 l):Zbs k (loE n ps l) (hiE n ps l)=true:=by
 refine Zed.2 ?_;have fO:=Zga (k:=k) (Zle n ps l);refine Int.le_antisymm fO (Int.not_lt.1 fun gd=>?_);obtain⟨N0,hN⟩:=Zlq hk;obtain⟨z,hz⟩:∃ z,scE k (hiE n ps l)=z:=⟨_,rfl⟩;have hD:=LN.tden_pos' l;have j5:=hs.den;obtain⟨e1,e2⟩:=Zld hD n ps l fun q hq=>LN.tden_dvd hq
 have au:(0:Rat)<(Ko l:Rat):=Rat.natCast_pos.2 hD;have ni:=Za3 n;have ar:((lf n 2:Nat):Rat)=2^n:=by
  rw[show lf n 2=2^n from Zq n,Za2]
 rw[hz] at gd;unfold scE Zig at gd hz;have b1:=Rat.floor_lt_iff.1 gd;have b2:=Rat.floor_le (hiE n ps l*((1200*10^k:Nat):Rat)+1/2);rw[hz] at b2;generalize hNN:1200*10^k=N at *;have Lh:(((2*N:Nat):Int):Rat)=2*(N:Rat):=by rw[Rat.intCast_natCast,Rat.natCast_mul];rfl
 have Lf:(((2*z-1)*((Ko l:Nat):Int)*((lf n 2:Nat):Int):Int):Rat)=(2*(z:Rat)-1)*(Ko l:Rat)*2^n:=by
  rw[Rat.intCast_mul,Rat.intCast_mul,Rat.intCast_sub,Rat.intCast_mul,Rat.intCast_natCast,Rat.intCast_natCast,ar];rfl
 have Lk:(0:Rat)<(Ko l:Rat)*2^n:=Rat.mul_pos au ni;refine Zxa hn (tl:=tlQ ps l) (G:=2*N) (d:=Ko l) (j:=2*z-1) (fun x hx=>h1 _ (Qm hx).1) (fun x hx=>Zl5 hx) (Zgw h2) (hs.kb (by decide)) (Zcf h6 l) (by omega) (by omega) hD j5 ?_ ?_
 ·refine Rat.intCast_lt_intCast.1 ?_;rw[Rat.intCast_mul (2*N:Nat),Lh,Lf];unfold tlQ;rw[e1];have b3:=Rat.mul_lt_mul_of_pos_right b1 Lk;generalize (Ko l:Rat)=D at *;generalize (2:Rat)^n=P at *
  grind
 ·refine Rat.intCast_le_intCast.1 ?_;rw[Rat.intCast_mul (2*N:Nat),Lh,Lf];unfold tlQ;rw[e2];have b3:=Rat.mul_le_mul_of_nonneg_right b2 (Rat.le_of_lt Lk);generalize (Ko l:Rat)=D at *;generalize (2:Rat)^n=P at *
  grind
theorem Zvc{k:Nat}{ps:List Int}{l:List Rat}(hk:k<=9)(h1:∀ p∈ps,p∈Vm)(h2:ps.Nodup)(h6:ps.length<=6)(hs:Sml 4096 12 l):Zbs k (loE 1000 ps l) (hiE 1000 ps l)=true:=Qbu rfl hk h1 h2 h6 hs
theorem Sml.sm{N D:Nat}{l:List Rat}(h:Sml N 12 l)(hN:N<10^D)(hD:2<=D):∀ q∈l,Sm D q:=fun q hq=>by
 obtain⟨h1,h2⟩:=h q hq;have h3:=Nat.le_of_dvd (by decide) h1;have h4:=Nat.div_pos h3 q.den_pos;refine⟨?_,?_⟩
 ·unfold LN.ex at h2;rw[Int.natAbs_mul,Int.natAbs_natCast] at h2;have:q.num.natAbs*1<=q.num.natAbs*(12/q.den):=Nat.mul_le_mul_left _ h4
  omega
 ·have:10^2<=10^D:=Nat.pow_le_pow_right (by decide) hD
  omega
structure FlS (ps:List Int) (la lb:List Rat):Prop where
 p0:Vd ps=0
 q1:∀ p∈ps,p∈Vm
 q2:ps.Nodup
 n4:ps.length<=4
 p13:∀ p∈ps,2<=p/\p<=13
 l1:la.length=ps.length
 l2:lb.length=ps.length
 ma:Sml 480 12 la
 mb:Sml 480 12 lb
 ne:∃ q∈lb,q≠0
structure FlF (ps:List Int) (la lb:List Rat) (q n:Int):Prop where
 f1:LN.FloorOf ps la lb q
 f2:LN.FloorOf ps (Ki la lb 2 1) (Ki lb lb 2 0) n
 b1:q.natAbs<=QC+1
 b2:n.natAbs<=QC+1
theorem FlS.mt{ps:List Int}{la lb:List Rat}(S:FlS ps la lb):Sml 1440 12 (Ki la lb 2 1):=Sml.comb (by decide) S.ma S.mb 2 1
theorem FlS.mu{ps:List Int}{la lb:List Rat}(S:FlS ps la lb):Sml 960 12 (Ki lb lb 2 0):=Sml.comb (by decide) S.mb S.mb 2 0
theorem FlS.lt{ps:List Int}{la lb:List Rat}(S:FlS ps la lb):(Ki la lb 2 1).length=ps.length:=(Qf _ _ _ _ (S.l1.trans S.l2.symm)).trans S.l1
theorem FlS.lu{ps:List Int}{la lb:List Rat}(S:FlS ps la lb):(Ki lb lb 2 0).length=ps.length:=(Qf _ _ _ _ rfl).trans S.l2
theorem FlS.neu{ps:List Int}{la lb:List Rat}(S:FlS ps la lb):∃ q∈Ki lb lb 2 0,q≠0:=by
 obtain⟨q,hq,h0⟩:=S.ne;obtain⟨i,hi,rfl⟩:=List.mem_iff_getElem.1 hq;have h:i<(Ki lb lb 2 0).length:=by rw[Qf _ _ _ _ rfl];exact hi
 refine⟨_,List.getElem_mem h,?_⟩;simp only[Ki,List.getElem_zipWith]
 grind
theorem FlS.o1{ps:List Int}{la lb:List Rat}(S:FlS ps la lb):Zud ps la lb 13:=Zna S.q1 S.q2 (by have:=S.n4;omega) S.l1 S.l2 (S.ma.le (by decide)) (S.mb.le (by decide)) S.ne
theorem FlS.o2{ps:List Int}{la lb:List Rat}(S:FlS ps la lb):Zud ps (Ki la lb 2 1) (Ki lb lb 2 0) 13:=Zna S.q1 S.q2 (by have:=S.n4;omega) S.lt S.lu (S.mt.le (by decide)) (S.mu.le (by decide)) S.neu
def NB:Nat:=1440+960*(QC+2)
theorem Qfz:NB<=Kb:=by decide +kernel
theorem Qdz:NB<10^30:=by decide +kernel
theorem FlS.ok{ps:List Int}{la lb l:List Rat}(S:FlS ps la lb){W:World}{a0 a1:OA_}(r0:Rd W a0 (Qw ps))(r1:Rd W a1 (Km l))(hl:l.length=ps.length)(hm:Sml NB 12 l):Vj W ps a0 a1 l 30 :=
 ⟨r0,r1,hl,by have:=S.n4;omega,fun p hp=>by have:=S.p13 p hp;omega,hm.sm Qdz (by decide),by decide⟩
theorem Zyu{N:Nat}(h:N<=1440):N<=NB:=Nat.le_trans h (Nat.le_add_right _ _)
theorem FlS.good{ps:List Int}{la lb l:List Rat}(S:FlS ps la lb)(hm:Sml NB 12 l):Zh9 ps l:=hm.good (by decide) Qfz S.q1 S.q2
theorem FlF.floor{ps:List Int}{la lb:List Rat}{q n:Int}(F:FlF ps la lb q n)(S:FlS ps la lb)(W:World)(a0 a1 a2:OA_)(c0 c1 c2:Nat)(r0:Rd W a0 (Qw ps))(r1:Rd W a1 (Km la))(r2:Rd W a2 (Km lb))(L:Qg W):
  Kc Tryz.prog 97 #[.slice a0 ps.length c0,.slice a1 ps.length c1,.slice a2 ps.length c2] W (.tuple #[.string (itx q),.int .i64 0]):=by
 have A:=S.ok r0 r1 S.l1 (S.ma.le (Zyu (by decide)));have B:=S.ok r0 r2 S.l2 (S.mb.le (Zyu (by decide)));have h:=Qab W ps a0 a1 a2 c0 c1 c2 la lb A B S.p0 L (Zl6 S.l2 S.ne) q fun W' Dg=>Zhm W' ps a0 a1 a2 c0 c1 c2 30 13 _ _ (A.below Dg) (B.below Dg) (by decide) S.o1 (L.below Dg) F.f1
 rw[S.l1,S.l2] at h;exact h
theorem FlF.round{ps:List Int}{la lb:List Rat}{q n:Int}(F:FlF ps la lb q n)(S:FlS ps la lb)(W:World)(a0 a1 a2:OA_)(c0 c1 c2:Nat)(r0:Rd W a0 (Qw ps))(r1:Rd W a1 (Km la))(r2:Rd W a2 (Km lb))(L:Qg W):
  Kc Tryz.prog 118 #[.slice a0 ps.length c0,.slice a1 ps.length c1,.slice a2 ps.length c2] W (.tuple #[.string (itx n),.int .i64 0]):=by
 have A:=S.ok r0 r1 S.l1 (S.ma.le (Zyu (by decide)));have B:=S.ok r0 r2 S.l2 (S.mb.le (Zyu (by decide)));have h:=Zsi W ps a0 a1 a2 c0 c1 c2 la lb A B S.p0 L (Zl6 S.l2 S.ne) n fun W' a3 a4 c3 c4 A' B' L'=>by
  have e1:=Zke ps.length la lb 2 1 S.l1 S.l2;have e2:=Zg1 ps.length lb 2 S.l2;rw[e1] at A' ⊢;rw[e2] at B' ⊢;exact Zhm W' ps a0 a3 a4 c0 c3 c4 (2*30+5) 13 _ _ A' B' (by decide) S.o2 L' F.f2
 rw[S.l1,S.l2] at h;exact h
theorem Zzh{d g nx ny S R X N:Nat}(hd:d<=12)(hg:g<=12)(hx:nx<=6)(hy:ny<=6)(h1:6*64<S)(h2:X*12<R*(S-6*64))(h3:12*N+R*12*64<=LN.KA)(h4:12*(6*N)+R*12*(6*64)<LN.SA):
  Qfm LN.KA LN.SA N 64 d g S R (nx*N) (ny*64) X:=by
 have b1:nx*N<=6*N:=Nat.mul_le_mul_right _ hx;have b2:ny*64<=6*64:=Nat.mul_le_mul_right _ hy;have b3:R*d<=R*12:=Nat.mul_le_mul_left _ hd;refine⟨by clear h2 h3 h4;omega,?_,?_,?_⟩
 ·have c1:X*g<=X*12:=Nat.mul_le_mul_left _ hg;have c2:R*(S-6*64)<=R*(S-ny*64):=Nat.mul_le_mul_left _ (by clear h2 h3 h4;omega);clear h3 h4;omega
 ·have c1:R*d*64<=R*12*64:=Nat.mul_le_mul_right _ b3;have c2:g*N<=12*N:=Nat.mul_le_mul_right _ hg;clear h2 h4;omega
 ·have c1:R*d*(ny*64)<=R*12*(6*64):=Nat.mul_le_mul b3 b2;have c2:g*(nx*N)<=12*(6*N):=Nat.mul_le_mul hg b1;clear h2 h3;omega
theorem Qdt{N M D:Nat}{l:List Rat}(h:Sml N M l)(hM:0<M)(hN:N<10^D)(hD:M<10^D):∀ q∈l,Sm D q:=fun q hq=>by
 obtain⟨h1,h2⟩:=h q hq;have h3:=Nat.le_of_dvd hM h1;have h4:=Nat.div_pos h3 q.den_pos;refine⟨?_,?_⟩
 ·unfold LN.ex at h2;rw[Int.natAbs_mul,Int.natAbs_natCast] at h2;have:q.num.natAbs*1<=q.num.natAbs*(M/q.den):=Nat.mul_le_mul_left _ h4
  omega
 ·omega
def zrQ (n:Nat):List Rat:=List.replicate n 0
theorem Zsm(n:Nat):(zrQ n).length=n:=by simp[zrQ]
theorem Qba(n M:Nat):Sml 0 M (zrQ n):=fun q hq=>by
 obtain⟨_,rfl⟩:=List.mem_replicate.1 hq;refine⟨by show (1:Nat) ∣ M;exact Nat.one_dvd M,?_⟩;rw[LN.ex_zero 0 rfl];decide
def psL (n:Nat) (D:List (List Rat)):Nat->List Rat
 | 0=>zrQ n
 | k+1=>Ki (psL n D k) (D.getD k []) 1 1
structure Zdp (ps:List Int) (N M:Nat) (D:List (List Rat)):Prop where
 p0:Vd ps=0
 h13:∀ p∈ps,2<=p/\p<=13
 small:∀ p∈ps,p∈Vm
 nd:ps.Nodup
 n4:ps.length<=100
 M0:0<M
 M1:M<=1000000
 N1:N<=1000000
 len:∀ d∈D,d.length=ps.length
 sml:∀ d∈D,Sml N M d
 pos:∀ d∈D,0<LN.sz ps d
 m1:0<D.length
 m14:D.length<=14
theorem Zdp.p{ps:List Int}{N M:Nat}{D:List (List Rat)}(h:Zdp ps N M D):∀ p∈ps,0<p:=Zi1 h.small
theorem Zdp.i64{ps:List Int}{N M:Nat}{D:List (List Rat)}(h:Zdp ps N M D):Zgm ps:=fun x hx=>by have:=h.h13 x hx;omega
theorem Zdp.plen{ps:List Int}{N M:Nat}{D:List (List Rat)}(h:Zdp ps N M D):∀ k,k<=D.length->(psL ps.length D k).length=ps.length
 | 0,_=>Zsm _
 | k+1,hk=>by
  have h1:=h.plen k (by omega);rw[psL,Qf _ _ _ _ (by rw[h1,h.len _ (Zem (by omega))]),h1]
theorem Zdp.psml{ps:List Int}{N M:Nat}{D:List (List Rat)}(h:Zdp ps N M D):∀ k,k<=D.length->Sml (N*k) M (psL ps.length D k)
 | 0,_=>(Qba _ _).le (Nat.zero_le _)
 | k+1,hk=>by
  have h1:=h.psml k (by omega);have h2:=Sml.comb h.M0 h1 (h.sml _ (Zem (show k<D.length by omega))) 1 1;rw[psL];refine(show Sml _ M _ from h2).le ?_;rw[Nat.mul_succ];simp
theorem Zdp.dsm{ps:List Int}{N M:Nat}{D:List (List Rat)}(h:Zdp ps N M D):∀ d∈D,∀ q∈d,Sm 30 q:=fun d hd=>by
 have h2:=h.N1;have h3:=h.M1;exact Qdt (D:=30) (h.sml d hd) h.M0 (Nat.lt_of_le_of_lt h2 (by decide)) (Nat.lt_of_le_of_lt h3 (by decide))
theorem Qb0{n:Nat}{D:List (List Rat)}{k:Nat}(h1:(psL n D k).length=n)(h2:(D.getD k []).length=n):Zuf (psL n D (k+1)) (psL n D k)=D.getD k []:=by
 rw[psL];generalize psL n D k=a at *;generalize D.getD k []=b at *;have hc:(Ki a b 1 1).length=n:=by rw[Qf _ _ _ _ (by omega),h1]
 refine List.ext_getElem (by rw[Zdy _ _ (by omega),hc,h2]) fun i i1 i2=>?_
 rw[Zlk _ _ i (by omega) (by omega)];simp only[Ki,List.getElem_zipWith]
 grind
theorem Zdp.up{ps:List Int}{N M:Nat}{D:List (List Rat)}(h:Zdp ps N M D){k:Nat}(hk:k<D.length):LN.sz ps (Zuf (psL ps.length D k) (psL ps.length D (k+1)))<0:=by
 rw[Qbl h.p ((h.plen (k+1) (by omega)).trans (h.plen k (by omega)).symm),Qb0 (h.plen k (by omega)) (h.len _ (Zem hk))];have:=h.pos _ (Zem hk)
 omega
theorem Zdp.good{ps:List Int}{N M:Nat}{D:List (List Rat)}(h:Zdp ps N M D){k:Nat}(hk:k<D.length):Zh9 ps (Zuf (psL ps.length D k) (psL ps.length D (k+1))):=by
 have h1:=h.m14;have h2:=Sml.comb h.M0 (h.psml k (by omega)) (h.psml (k+1) (by omega)) 1 (-1);refine Sml.good h.M0 h2 (Nat.le_trans ?_ (Qao (show 56000000<=1000000000 by decide))) h.small h.nd;have a1:N*k<=1000000*14:=Nat.mul_le_mul h.N1 (by omega);have a2:N*(k+1)<=1000000*14:=Nat.mul_le_mul h.N1 (by omega);simp;omega
theorem Zdp.sort{ps:List Int}{N M:Nat}{D:List (List Rat)}(h:Zdp ps N M D):Qfb ps D:=by
 refine⟨h.p0,fun p hp=>by have:=h.h13 p hp;omega,h.p,h.n4,h.len,h.dsm,fun a ha b hb=>?_⟩;have h2:=Sml.comb h.M0 (h.sml a ha) (h.sml b hb) 1 (-1);refine Sml.good h.M0 h2 (Nat.le_trans ?_ (Qao (show 2000000<=1000000000 by decide))) h.small h.nd;have:=h.N1
 simp;omega
structure Qc7 (w:World) (ps:List Int) (a0 al:OA_) (D:List (List Rat)):Prop where
 rp:Rd w a0 (Qw ps)
 rl:∃ b off,al=some ⟨b,off,none⟩/\b<w.heap.size/\∀ k,k<D.length->∃ a' c',w.cell? ⟨b,off+k,none⟩=some (.slice a' ps.length c')/\Rd w a' (Km (psL ps.length D (k+1)))
theorem Qc7.below{w w':World}{ps:List Int}{a0 al:OA_}{D:List (List Rat)}{B:Nat}(h:Qc7 w ps a0 al D)(hb:Below B w w')(hB:w.heap.size<=B):Qc7 w' ps a0 al D:=by
 obtain⟨b,off,h1,h2,h3⟩:=h.rl;refine⟨h.rp.below hb hB,b,off,h1,Nat.lt_of_lt_of_le h2 hb.size,fun k hk=>?_⟩;obtain⟨a',c',k1,k2⟩:=h3 k hk;exact⟨a',c',(hb.cell (p:=⟨b,off+k,none⟩) (Nat.lt_of_lt_of_le h2 hB)).trans k1,k2.below hb hB⟩
end Go.Proofs.YtbielfplgbammaaGreatDoor

namespace Go.Proofs.YtbielfplgbammaaGreatDoor
def SoB (G:Nat->Nat) (a b:Nat):Prop:=∀ i j,a<=i->i<j->j<b->G i<G j
structure PmB (F F':Nat->Nat) (a b:Nat):Prop where
 o:∀ k,k<a\/b<=k->F' k=F k
 src:∀ k,a<=k->k<b->∃ m,a<=m/\m<b/\F' k=F m
theorem PmB.refl(F:Nat->Nat)(a b:Nat):PmB F F a b:=⟨fun _ _=>rfl,fun k h1 h2=>⟨k,h1,h2,rfl⟩⟩
theorem PmB.trans{F F' F'':Nat->Nat}{a b:Nat}(h:PmB F F' a b)(k:PmB F' F'' a b):PmB F F'' a b :=
 ⟨fun i hi=>(k.o i hi).trans (h.o i hi),fun i h1 h2=>by
  obtain⟨m,m1,m2,e⟩:=k.src i h1 h2;obtain⟨l,l1,l2,e2⟩:=h.src m m1 m2;exact⟨l,l1,l2,e.trans e2⟩⟩
theorem PmB.wide{F F':Nat->Nat}{a b c d:Nat}(h:PmB F F' c d)(h1:a<=c)(h2:d<=b):PmB F F' a b :=
 ⟨fun i hi=>h.o i (by omega),fun i h3 h4=>by
  by_cases hc:c<=i/\i<d
  ·obtain⟨m,m1,m2,e⟩:=h.src i hc.1 hc.2;exact⟨m,by omega,by omega,e⟩
  ·exact⟨i,h3,h4,h.o i (by omega)⟩⟩
def Zdj (F:Nat->Nat) (lo i j k:Nat):Nat:=if k<lo then F k else if k<lo+j then F (k+i) else if k<lo+i+j then F (k-j) else F k
def sw2 (F:Nat->Nat) (x y k:Nat):Nat:=if k=x then F y else if k=y then F x else F k
theorem Zg8(r F:Nat->Nat)(l i j k:Nat):r (Zdj F l i j k)=Zdj (fun x=>r (F x)) l i j k:=by
 unfold Zdj
 repeat' split
 all_goals rfl
theorem Qbv(F:Nat->Nat){l i j a b:Nat}(h1:a<=l)(h2:l+i+j<=b):PmB F (Zdj F l i j) a b:=by
 refine⟨fun k hk=>?_,fun k h3 h4=>?_⟩
 ·unfold Zdj
  repeat' split
  all_goals first | rfl | omega
 ·unfold Zdj
  repeat' split
  ·exact⟨k,h3,h4,rfl⟩
  ·exact⟨k+i,by omega,by omega,rfl⟩
  ·exact⟨k-j,by omega,by omega,rfl⟩
  ·exact⟨k,h3,h4,rfl⟩
theorem Qdp(F:Nat->Nat){x y a b:Nat}(h1:a<=x)(h2:x<b)(h3:a<=y)(h4:y<b):PmB F (sw2 F x y) a b:=by
 refine⟨fun k hk=>?_,fun k h5 h6=>?_⟩
 ·unfold sw2;rw[if_neg (by omega),if_neg (by omega)]
 ·unfold sw2
  repeat' split
  ·exact⟨y,h3,h4,rfl⟩
  ·exact⟨x,h1,h2,rfl⟩
  ·exact⟨k,h5,h6,rfl⟩
theorem Zvd{G:Nat->Nat}{a m b s e mid:Nat}(h1:SoB G a m)(h2:SoB G m b)(q1:a<=s)(q2:s<=m)(q3:m<=e)(q4:e<=b)(hmid:mid+m=s+e)
  (x1:∀ i j,a<=i->i<s->e<=j->j<b->G i<G j) (x2:∀ i j,m<=i->i<e->s<=j->j<m->G i<G j) :
  SoB (Zdj G s (m-s) (e-m)) a s/\SoB (Zdj G s (m-s) (e-m)) s mid/\SoB (Zdj G s (m-s) (e-m)) mid e/\SoB (Zdj G s (m-s) (e-m)) e b /\
  ∀ i j,a<=i->i<mid->mid<=j->j<b->Zdj G s (m-s) (e-m) i<Zdj G s (m-s) (e-m) j:=by
 have v1:∀ z,z<s->Zdj G s (m-s) (e-m) z=G z:=fun z hz=>by unfold Zdj;rw[if_pos hz]
 have v2:∀ z,s<=z->z<mid->Zdj G s (m-s) (e-m) z=G (z+(m-s)):=fun z hz fA=>by unfold Zdj;rw[if_neg (by omega),if_pos (by omega)]
 have v3:∀ z,mid<=z->z<e->Zdj G s (m-s) (e-m) z=G (z-(e-m)):=fun z hz fA=>by unfold Zdj;rw[if_neg (by omega),if_neg (by omega),if_pos (by omega)]
 have v4:∀ z,e<=z->Zdj G s (m-s) (e-m) z=G z:=fun z hz=>by unfold Zdj;rw[if_neg (by omega),if_neg (by omega),if_neg (by omega)]
 refine⟨fun x y c1 c2 c3=>?_,fun x y c1 c2 c3=>?_,fun x y c1 c2 c3=>?_,fun x y c1 c2 c3=>?_,fun x y c1 c2 c3 c4=>?_⟩
 ·rw[v1 x (by omega),v1 y (by omega)];exact h1 _ _ (by omega) c2 (by omega)
 ·rw[v2 x (by omega) (by omega),v2 y (by omega) (by omega)];exact h2 _ _ (by omega) (by omega) (by omega)
 ·rw[v3 x (by omega) (by omega),v3 y (by omega) (by omega)];exact h1 _ _ (by omega) (by omega) (by omega)
 ·rw[v4 x (by omega),v4 y (by omega)];exact h2 _ _ (by omega) (by omega) (by omega)
 ·by_cases k1:x<s
  ·rw[v1 x k1]
   by_cases k2:y<e
   ·rw[v3 y c3 k2];exact h1 _ _ c1 (by omega) (by omega)
   ·rw[v4 y (by omega)];exact x1 _ _ c1 k1 (by omega) c4
  ·rw[v2 x (by omega) c2]
   by_cases k2:y<e
   ·rw[v3 y c3 k2];exact x2 _ _ (by omega) (by omega) (by omega) (by omega)
   ·rw[v4 y (by omega)];exact h2 _ _ (by omega) (by omega) c4
theorem Ztl{r F F':Nat->Nat}{a mid b:Nat}(hx:∀ i j,a<=i->i<mid->mid<=j->j<b->r (F i)<r (F j))(p1:PmB F F' a mid):
  ∀ i j,a<=i->i<mid->mid<=j->j<b->r (F' i)<r (F' j):=fun i j c1 c2 c3 c4=>by
 obtain⟨m,m1,m2,e⟩:=p1.src i c1 c2;rw[e,p1.o j (by omega)];exact hx _ _ m1 m2 c3 c4
theorem Zpe{r F F':Nat->Nat}{a mid b:Nat}(hx:∀ i j,a<=i->i<mid->mid<=j->j<b->r (F i)<r (F j))(p1:PmB F F' mid b):
  ∀ i j,a<=i->i<mid->mid<=j->j<b->r (F' i)<r (F' j):=fun i j c1 c2 c3 c4=>by
 obtain⟨m,m1,m2,e⟩:=p1.src j c3 c4;rw[e,p1.o i (by omega)];exact hx _ _ c1 c2 m1 m2
theorem SoB.join{G:Nat->Nat}{a mid b:Nat}(h1:SoB G a mid)(h2:SoB G mid b)(hx:∀ i j,a<=i->i<mid->mid<=j->j<b->G i<G j):SoB G a b:=fun i j c1 c2 c3=>by
 by_cases k1:j<mid
 ·exact h1 i j c1 c2 k1
 ·by_cases k2:i<mid
  ·exact hx i j c1 k2 (by omega) c3
  ·exact h2 i j (by omega) c2 c3
theorem SoB.o{r F F':Nat->Nat}{a b c d:Nat}(h:SoB (fun k=>r (F k)) a b)(p:PmB F F' c d)(hd:b<=c\/d<=a):SoB (fun k=>r (F' k)) a b:=fun i j c1 c2 c3=>by
 show r (F' i)<r (F' j)
 rw[p.o i (by omega),p.o j (by omega)];exact h i j c1 c2 c3
theorem SoB.one(G:Nat->Nat)(a b:Nat)(h:b<=a+1):SoB G a b:=fun i j c1 c2 c3=>by omega
structure Qdf (G:Nat->Nat) (a i j:Nat):Prop where
 ord:∀ x y,a<=x->x<y->y<=i->x≠j->y≠j->G x<G y
 hi:∀ y,j<y->y<=i->G j<G y
 aj:a<=j
 ji:j<=i
theorem Qdf.stop{G:Nat->Nat}{a i j:Nat}(h:Qdf G a i j)(hs:j=a\/G (j-1)<G j):SoB G a (i+1):=fun x y h1 h2 h3=>by
 have oH:=h.aj;have GS:=h.ji
 by_cases hy:y=j
 ·subst hy;rcases hs with h0|h0
  ·omega
  ·rcases Nat.lt_or_ge x (y-1) with h4 | h4
   ·exact Nat.lt_trans (h.ord x (y-1) h1 h4 (by omega) (by omega) (by omega)) h0
   ·rw[show x=y-1 by omega];exact h0
 ·by_cases hx:x=j
  ·subst hx;exact h.hi y h2 (by omega)
  ·exact h.ord x y h1 h2 (by omega) hx hy
theorem Qdf.swap{G:Nat->Nat}{a i j:Nat}(h:Qdf G a i (j+1))(ha:a<=j)(hs:G (j+1)<G j):Qdf (sw2 G (j+1) j) a i j:=by
 have GS:=h.ji;have s1:sw2 G (j+1) j (j+1)=G j:=by unfold sw2;rw[if_pos rfl]
 have s2:sw2 G (j+1) j j=G (j+1):=by unfold sw2;rw[if_neg (by omega),if_pos rfl]
 have s3:∀ k,k≠j->k≠j+1->sw2 G (j+1) j k=G k:=fun k h1 h2=>by unfold sw2;rw[if_neg h2,if_neg h1]
 refine⟨fun x y h1 h2 h3 h4 h5=>?_,fun y h1 h2=>?_,ha,by omega⟩
 ·by_cases hx:x=j+1
  ·subst hx;rw[s1,s3 y h5 (by omega)];exact h.ord j y ha (by omega) h3 (by omega) (by omega)
  ·rw[s3 x h4 hx]
   by_cases hy:y=j+1
   ·subst hy;rw[s1];exact h.ord x j h1 (by omega) (by omega) hx (by omega)
   ·rw[s3 y h5 hy];exact h.ord x y h1 h2 h3 hx hy
 ·rw[s2]
  by_cases hy:y=j+1
  ·subst hy;rw[s1];exact hs
  ·rw[s3 y (by omega) hy];exact h.hi y (by omega) h2
theorem Zx9(r F:Nat->Nat)(x y k:Nat):r (sw2 F x y k)=sw2 (fun z=>r (F z)) x y k:=by
 unfold sw2
 repeat' split
 all_goals rfl
end Go.Proofs.YtbielfplgbammaaGreatDoor

namespace Go.Proofs.YtbielfplgbammaaGreatDoor
def Bef (c:Nat->Nat->Int) (u v:Nat):Prop:=c u v<0\/(c u v=0/\u<v)
structure Pre (c:Nat->Nat->Int) (n:Nat):Prop where
 neg:∀ u v,c v u = - c u v
 tr:∀ u v w,u<n->v<n->w<n->c u v<=0->c v w<=0->c u w<=0
theorem Pre.bef_tr{c:Nat->Nat->Int}{n:Nat}(h:Pre c n){u v w:Nat}(hu:u<n)(hv:v<n)(hw:w<n)(h1:Bef c u v)(h2:Bef c v w):Bef c u w:=by
 have n1:=h.neg u v;have n2:=h.neg v w;have n3:=h.neg u w;have a1:c u v<=0:=by rcases h1 with h1 | h1<;>omega
 have a2:c v w<=0:=by rcases h2 with h2 | h2<;>omega
 have a3:=h.tr u v w hu hv hw a1 a2;unfold Bef;rcases Int.lt_or_eq_of_le a3 with h3|h3
 ·exact .inl h3
 ·have a4:=h.tr v w u hv hw hu a2 (by omega);have a5:=h.tr w u v hw hu hv (by omega) a1;refine .inr ⟨h3,?_⟩;rcases h1 with h1|⟨h1,FV⟩
  ·omega
  ·rcases h2 with h2 | ⟨h2,Ei⟩
   ·omega
   ·omega
theorem Pre.bef_or{c:Nat->Nat->Int}{n:Nat}(h:Pre c n){u v:Nat}(gm:u≠v):Bef c u v\/Bef c v u:=by
 have n1:=h.neg u v;unfold Bef;omega
theorem Pre.bef_not{c:Nat->Nat->Int}{n:Nat}(h:Pre c n){u v:Nat}(h1:Bef c u v):¬ Bef c v u:=by
 have n1:=h.neg u v;unfold Bef at *
 omega
instance (c:Nat->Nat->Int) (u v:Nat):Decidable (Bef c u v):=inferInstanceAs (Decidable (_\/_))
theorem Zhv{α:Type}{p q : α->Bool}:∀ {l:List α},(∀ x∈l,p x=true->q x=true)->∀ {u : α},u∈l->q u=true->p u=false->l.countP p<l.countP q
 | [],_,u,hu,_,_=>by cases hu
 | x::l,h,u,hu,h1,h2=>by
  have hl:∀ y∈l,p y=true->q y=true:=fun y hy=>h y (List.mem_cons_of_mem _ hy)
  have fO:l.countP p<=l.countP q:=List.countP_mono_left hl;rcases List.mem_cons.1 hu with rfl|hu
  ·rw[List.countP_cons_of_neg (by simp[h2]),List.countP_cons_of_pos (by simpa using h1)];omega
  ·have ih:=Zhv hl hu h1 h2;have hx:=h x List.mem_cons_self;rw[List.countP_cons,List.countP_cons];cases hp:p x
   ·simp;omega
   ·rw[hx hp];simp;omega
def rkB (c:Nat->Nat->Int) (n u:Nat):Nat:=(List.range n).countP fun v=>decide (Bef c v u)
theorem Zmm{c:Nat->Nat->Int}{n:Nat}(h:Pre c n){u v:Nat}(hu:u<n)(hv:v<n)(hb:Bef c u v):rkB c n u<rkB c n v:=by
 refine Zhv (u:=u) (fun x hx hp=>?_) (List.mem_range.2 hu) (by simpa using hb) ?_
 ·exact decide_eq_true (h.bef_tr (List.mem_range.1 hx) hu hv (of_decide_eq_true hp) hb)
 ·exact decide_eq_false fun hc=>h.bef_not hc hc
theorem Qbx{c:Nat->Nat->Int}{n:Nat}(h:Pre c n){u v:Nat}(hu:u<n)(hv:v<n):rkB c n u<rkB c n v↔Bef c u v:=by
 refine⟨fun hr=>?_,Zmm h hu hv⟩;refine Classical.byContradiction fun hc=>?_
 by_cases e:u=v
 ·subst e;omega
 ·rcases h.bef_or e with h1 | h1
  ·exact hc h1
  ·have:=Zmm h hv hu h1;omega
theorem Qbw{c:Nat->Nat->Int}{n:Nat}(h:Pre c n){u v:Nat}(hu:u<n)(hv:v<n)(e:rkB c n u=rkB c n v):u=v:=by
 refine Classical.byContradiction fun hc=>?_
 rcases h.bef_or hc with h1|h1
 ·have:=Zmm h hu hv h1;omega
 ·have:=Zmm h hv hu h1;omega
theorem Qdw{c:Nat->Nat->Int}{n:Nat}(h:Pre c n){u:Nat}(hu:u<n):rkB c n u<n:=by
 have:rkB c n u<(List.range n).countP fun _=>true:=Zhv (u:=u) (fun _ _ _=>rfl) (List.mem_range.2 hu) rfl (decide_eq_false fun hc=>h.bef_not hc hc)
 simpa using this
theorem Qfp{G:Nat->Nat}{n:Nat}(h:∀ k,k+1<n->G k<G (k+1))(hb:∀ k,k<n->G k<n):∀ k,k<n->G k=k:=by
 have lo:∀ k,k<n->k<=G k:=fun k=>by
  induction k with
  | zero=>intro _;exact Nat.zero_le _
  | succ k ih=>intro hk;have:=ih (by omega);have:=h k hk;omega
 have hi:∀ d k,k+d+1=n->G k<=k:=fun d=>by
  induction d with
  | zero=>intro k hk;have:=hb k (by omega);omega
  | succ d ih=>intro k hk;have:=ih (k+1) (by omega);have:=h k (by omega);omega
 intro k hk;have:=lo k hk
 have:=hi (n-1-k) k (by omega)
 omega
theorem Qgd.rank{c:Nat->Nat->Int}{n:Nat}{F:Nat->Nat}(h:Qgd c n F)(p:Pre c n):∀ k,k<n->rkB c n (F k)=k :=
 Qfp (G:=fun k=>rkB c n (F k)) (fun k hk=>Zmm p (h.lt k (by omega)) (h.lt _ hk) (by
  obtain⟨h1,h2⟩:=h.adj k hk;have:=p.neg (F k) (F (k+1))
  unfold Bef;omega)) fun k hk=>Qdw p (h.lt k hk)
end Go.Proofs.YtbielfplgbammaaGreatDoor

namespace Go.Proofs.YtbielfplgbammaaGreatDoor
open Go.RowKit
structure Qdg (c:Nat->Nat->Int) (r:Nat->Nat) (n:Nat):Prop where
 iff:∀ x y,x<n->y<n->x<y->(c y x<0↔r y<r x)
 inj:∀ x y,x<n->y<n->r x=r y->x=y
 bd:∀ u v,-1<=c u v/\c u v<=1
theorem Qdg.of{c:Nat->Nat->Int}{n:Nat}(p:Pre c n)(hb:∀ u v,-1<=c u v/\c u v<=1):Qdg c (rkB c n) n:=by
 refine⟨fun x y hx hy ep=>?_,fun x y hx hy e=>Qbw p hx hy e,hb⟩;rw[Qbx p hy hx];unfold Bef;omega
theorem Qdg.no{c:Nat->Nat->Int}{r:Nat->Nat}{n:Nat}(h:Qdg c r n){x y:Nat}(hx:x<n)(hy:y<n)(ep:x<y)(hc:¬ c y x<0):r x<r y:=by
 have h1:=h.iff x y hx hy ep;have h2:=h.inj x y hx hy;omega
theorem Zxr.sw2{W:World}{g n:Nat}{F:Nat->Nat}(h:Zxr W g n F)(x y:Nat)(hx:x<n)(hy:y<n)(ep:x≠y):
  Zxr ((W.setCell ⟨g,x,none⟩ (.int .i64 (F y:Nat))).setCell ⟨g,y,none⟩ (.int .i64 (F x:Nat))) g n (sw2 F x y):=by
 have h0:=h.cell x hx;have h1:=h.cell y hy;have ne:∀ a b:Nat,a≠b->(⟨g,a,none⟩:Addr)≠⟨g,b,none⟩:=fun a b G2 e=>by cases e;exact G2 rfl
 refine⟨by simpa using h.lt,fun k hk=>?_,fun k=>?_⟩
 ·unfold Go.Proofs.YtbielfplgbammaaGreatDoor.sw2
  by_cases k2:k=x
  ·subst k2;rw[if_pos rfl,World.cell?_setCell_other _ _ _ _ (ne _ _ (fun e=>ep e.symm))];exact World.cell?_setCell_same _ _ _ h0
  ·rw[if_neg k2]
   by_cases k1:k=y
   ·subst k1;rw[if_pos rfl];exact World.cell?_setCell_same _ _ _ (u := .int .i64 (F k:Nat)) (by rw[World.cell?_setCell_other _ _ _ _ (ne _ _ (by omega))];exact h1)
   ·rw[if_neg k1,World.cell?_setCell_other _ _ _ _ (ne _ _ (fun e=>k1 e.symm)),World.cell?_setCell_other _ _ _ _ (ne _ _ (fun e=>k2 e.symm))];exact h.cell k hk
 ·have:=h.fr k
  simpa using this
structure Qgc (r:Nat->Nat) (F0 F:Nat->Nat) (a i j:Nat):Prop where
 I:Qdf (fun k=>r (F k)) a i j
 x:F j=i
 lo:∀ k,a<=k->k<=i->k≠j->F k<i
 p:PmB F0 F a (i+1)
theorem Qgc.swap{r F0 F:Nat->Nat}{a i j:Nat}(h:Qgc r F0 F a i (j+1))(ha:a<=j)(hs:r (F (j+1))<r (F j)):Qgc r F0 (sw2 F (j+1) j) a i j:=by
 have GS:=h.I.ji;refine⟨?_,?_,fun k h1 h2 h3=>?_,h.p.trans (Qdp F (by omega) (by omega) ha (by omega))⟩
 ·have:=h.I.swap ha hs
  have e:(fun k=>r (sw2 F (j+1) j k))=sw2 (fun k=>r (F k)) (j+1) j:=by funext k;exact Zx9 r F (j+1) j k
  rw[e];exact this
 ·unfold sw2;rw[if_neg (by omega),if_pos rfl];exact h.x
 ·unfold sw2
  by_cases k1:k=j+1
  ·rw[if_pos k1];exact h.lo j ha (by omega) (by omega)
  ·rw[if_neg k1,if_neg h3];exact h.lo k h1 h2 k1
structure Qg7 (r F:Nat->Nat) (n a m b:Nat):Prop where
 am:a<m
 mb:m<b
 s1:SoB (fun k=>r (F k)) a m
 s2:SoB (fun k=>r (F k)) m b
 lt:∀ i j,a<=i->i<m->m<=j->j<b->F i<F j
 bd:∀ k,a<=k->k<b->F k<n
theorem Qdg.yes{c:Nat->Nat->Int}{r:Nat->Nat}{n:Nat}(h:Qdg c r n){x y:Nat}(hx:x<n)(hy:y<n)(ep:x<y)(hc:c y x<0):r y<r x:=(h.iff x y hx hy ep).1 hc
theorem Zkn{r F:Nat->Nat}{l i j a b:Nat}(h:SoB (Zdj (fun k=>r (F k)) l i j) a b):SoB (fun k=>r (Zdj F l i j k)) a b:=by
 rw[show (fun k=>r (Zdj F l i j k))=Zdj (fun k=>r (F k)) l i j from funext fun k=>Zg8 r F l i j k];exact h
structure Qfl (r F F2:Nat->Nat) (n a m b s e mid:Nat):Prop where
 s1:SoB (fun k=>r (F2 k)) a s
 s2:SoB (fun k=>r (F2 k)) s mid
 s3:SoB (fun k=>r (F2 k)) mid e
 s4:SoB (fun k=>r (F2 k)) e b
 x:∀ i j,a<=i->i<mid->mid<=j->j<b->r (F2 i)<r (F2 j)
 l1:∀ i j,a<=i->i<s->s<=j->j<mid->F2 i<F2 j
 l2:∀ i j,mid<=i->i<e->e<=j->j<b->F2 i<F2 j
 pm:PmB F F2 a b
 bd:∀ k,a<=k->k<b->F2 k<n
 q1:a<=s
 q2:s<=mid
 q3:mid<=e
 q4:e<=b
theorem PmB.bd{F F':Nat->Nat}{a b n:Nat}(p:PmB F F' a b)(h:∀ k,a<=k->k<b->F k<n):∀ k,a<=k->k<b->F' k<n:=fun k h1 h2=>by
 obtain⟨m,m1,m2,e⟩:=p.src k h1 h2;rw[e];exact h m m1 m2
theorem Qfl.of{r F:Nat->Nat}{n a m b s e mid:Nat}(M:Qg7 r F n a m b)(q1:a<=s)(q2:s<=m)(q3:m<=e)(q4:e<=b)(hmid:mid+m=s+e)
  (x1:∀ i j,a<=i->i<s->e<=j->j<b->r (F i)<r (F j)) (x2:∀ i j,m<=i->i<e->s<=j->j<m->r (F i)<r (F j)):Qfl r F (Zdj F s (m-s) (e-m)) n a m b s e mid:=by
 obtain⟨p1,p2,p3,p4,p5⟩:=Zvd (G:=fun k=>r (F k)) M.s1 M.s2 q1 q2 q3 q4 hmid x1 x2;have v1:∀ z,z<s->Zdj F s (m-s) (e-m) z=F z:=fun z hz=>by unfold Zdj;rw[if_pos hz]
 have v2:∀ z,s<=z->z<mid->Zdj F s (m-s) (e-m) z=F (z+(m-s)):=fun z hz fA=>by unfold Zdj;rw[if_neg (by omega),if_pos (by omega)]
 have v3:∀ z,mid<=z->z<e->Zdj F s (m-s) (e-m) z=F (z-(e-m)):=fun z hz fA=>by unfold Zdj;rw[if_neg (by omega),if_neg (by omega),if_pos (by omega)]
 have v4:∀ z,e<=z->Zdj F s (m-s) (e-m) z=F z:=fun z hz=>by unfold Zdj;rw[if_neg (by omega),if_neg (by omega),if_neg (by omega)]
 have pm:PmB F (Zdj F s (m-s) (e-m)) a b:=Qbv F q1 (by omega);refine⟨Zkn p1,Zkn p2,Zkn p3,Zkn p4,fun i j c1 c2 c3 c4=>?_,fun i j c1 c2 c3 c4=>?_,fun i j c1 c2 c3 c4=>?_,pm,pm.bd M.bd,q1,by omega,by omega,q4⟩
 ·rw[Zg8 r,Zg8 r];exact p5 i j c1 c2 c3 c4
 ·rw[v1 i c2,v2 j c3 c4];exact M.lt _ _ (by omega) (by omega) (by omega) (by omega)
 ·rw[v3 i c1 c2,v4 j c3];exact M.lt _ _ (by omega) (by omega) (by omega) (by omega)
theorem Qfl.fin{r F F2 F3 F4:Nat->Nat}{n a m b s e mid:Nat}(D:Qfl r F F2 n a m b s e mid)(p3:PmB F2 F3 a mid)(s3:SoB (fun k=>r (F3 k)) a mid)(p4:PmB F3 F4 mid b)(s4:SoB (fun k=>r (F4 k)) mid b):
  SoB (fun k=>r (F4 k)) a b/\PmB F F4 a b:=by
 have h1:=D.q1;have h2:=D.q2;have h3:=D.q3;have h4:=D.q4;refine⟨SoB.join (G:=fun k=>r (F4 k)) (SoB.o s3 p4 (.inl nr_)) s4 (Zpe (Ztl D.x p3) p4),(D.pm.trans (p3.wide nr_ (by omega))).trans (p4.wide (by omega) nr_)⟩
def gB (x y z:Nat):Bool:=decide (x<y)&&decide (y<z)
structure BkP (r F:Nat->Nat) (n z a:Nat):Prop where
 o:∀ k,n<=k->F k=k
 bd:∀ k,k<n->F k<n
 q1:∀ k,k<n->a<=k->F k/z=k/z
 s1:∀ i j,a<=i->i<j->j<n->i/z=j/z->r (F i)<r (F j)
 q2:∀ k,k<n->k<a->F k/(2*z)=k/(2*z)
 s2:∀ i j,i<j->j<a->j<n->i/(2*z)=j/(2*z)->r (F i)<r (F j)
theorem Zw0(k z:Nat):k/(2*z)=k/z/2:=by rw[Nat.div_div_eq_div_mul,Nat.mul_comm]
theorem Qew{z t k:Nat}(h1:z*t<=k)(h2:k<z*t+z):k/z=t:=by
 have hz:0<z:=by omega
 have e1:t<=k/z:=by rw[Nat.le_div_iff_mul_le hz,Nat.mul_comm];exact h1
 have e2:k/z<t+1:=by rw[Nat.div_lt_iff_lt_mul hz,Nat.add_mul,Nat.one_mul,Nat.mul_comm];exact h2
 omega
theorem Qeo{z t k:Nat}(hz:0<z)(h:k/z=t):z*t<=k/\k<z*t+z:=by
 have h1:=Nat.div_mul_le_self k z;have h2:=Nat.lt_div_mul_add (a:=k) hz;rw[h,Nat.mul_comm] at h1 h2;exact⟨h1,h2⟩
theorem BkP.step{r F F':Nat->Nat}{n z t b:Nat}(hz:0<z)(h:BkP r F n z (2*z*t))(hb:b<=n)(H7:b=2*z*t+2*z\/(b=n/\n<=2*z*t+2*z))(p:PmB F F' (2*z*t) b)(s:SoB (fun k=>r (F' k)) (2*z*t) b):BkP r F' n z (2*z*(t+1)):=by
 have e:2*z*(t+1)=2*z*t+2*z:=by rw[Nat.mul_add,Nat.mul_one]
 rw[e];generalize hA:2*z*t=A at *;have k2:∀ k,A<=k->k<A+2*z->k/(2*z)=t:=fun k x1 x2=>Qew (by rw[hA];exact x1) (by rw[hA];exact x2)
 have f':∀ k,k<A\/b<=k->F' k=F k:=p.o;refine⟨fun k hk=>?_,fun k hk=>?_,fun k hk fX=>?_,fun i j x1 x2 x3 x4=>?_,fun k hk fX=>?_,fun i j x1 x2 x3 x4=>?_⟩
 ·rw[f' k (by omega)];exact h.o k hk
 ·by_cases hx:A<=k/\k<b
  ·obtain⟨m,m1,m2,e'⟩:=p.src k hx.1 hx.2;rw[e'];exact h.bd m (by omega)
  ·rw[f' k (by omega)];exact h.bd k hk
 ·rw[f' k (by omega)];exact h.q1 k hk (by omega)
 ·rw[f' i (by omega),f' j (by omega)];exact h.s1 i j (by omega) x2 x3 x4
 ·by_cases hx:A<=k
  ·obtain⟨m,m1,m2,e'⟩:=p.src k hx (by omega);rw[e',Zw0,h.q1 m (by omega) m1,<- Zw0,k2 m m1 (by omega),k2 k hx fX]
  ·rw[f' k (by omega)];exact h.q2 k hk (by omega)
 ·by_cases hx:A<=i
  ·exact s i j hx x1 (by omega)
  ·have hj:j<A:=by
    rcases Nat.lt_or_ge j A with hj|hj
    ·exact hj
    ·exfalso;rw[k2 j hj x2] at x4;have:=(Qeo (z:=2*z) (by omega) x4).1
     omega
   rw[f' i (by omega),f' j (by omega)];exact h.s2 i j x1 hj x3 x4
theorem BkP.next{r F:Nat->Nat}{n z a:Nat}(h:BkP r F n z a)(ha:n<=a):BkP r F n (2*z) 0 :=
 ⟨h.o,h.bd,fun k hk _=>h.q2 k hk (by omega),fun i j _ x2 x3 x4=>h.s2 i j x2 (by omega) x3 x4,fun _ _ fX=>absurd fX (Nat.not_lt_zero _),fun _ _ _ x2=>absurd x2 (Nat.not_lt_zero _)⟩
structure BkI (r F:Nat->Nat) (n a:Nat):Prop where
 id:∀ k,a<=k->F k=k
 bd:∀ k,k<n->F k<n
 q:∀ k,k<n->F k/20=k/20
 s:∀ i j,i<j->j<a->i/20=j/20->r (F i)<r (F j)
theorem BkI.step{r F F':Nat->Nat}{n t b:Nat}(h:BkI r F n (20*t))(_h0:20*t<=n)(hb:b<=n)(H7:b<=20*t+20)(hb3:20*t<=b)(p:PmB F F' (20*t) b)(s:SoB (fun k=>r (F' k)) (20*t) b):BkI r F' n b:=by
 refine⟨fun k hk=>?_,fun k hk=>?_,fun k hk=>?_,fun i j x1 x2 x3=>?_⟩
 ·rw[p.o k (by omega)];exact h.id k (by omega)
 ·by_cases hx:20*t<=k/\k<b
  ·obtain⟨m,m1,m2,e'⟩:=p.src k hx.1 hx.2;rw[e'];exact h.bd m (by omega)
  ·rw[p.o k (by omega)];exact h.bd k hk
 ·by_cases hx:20*t<=k/\k<b
  ·obtain⟨m,m1,m2,e'⟩:=p.src k hx.1 hx.2;rw[e',h.q m (by omega)];omega
  ·rw[p.o k (by omega)];exact h.q k hk
 ·by_cases hx:20*t<=i
  ·exact s i j hx x1 x2
  ·rw[p.o i (by omega),p.o j (by omega)];exact h.s i j x1 (by omega) x3
theorem BkI.all{r F:Nat->Nat}{n:Nat}(h:BkI r F n n):BkP r F n 20 0 :=
 ⟨h.id,h.bd,fun k hk _=>h.q k hk,fun i j _ x2 x3 x4=>h.s i j x2 x3 x4,fun _ _ fX=>absurd fX (Nat.not_lt_zero _),fun _ _ _ x2=>absurd x2 (Nat.not_lt_zero _)⟩
theorem BkP.done{r F:Nat->Nat}{n z:Nat}(h:BkP r F n z 0)(hz:n<=z):SoB (fun k=>r (F k)) 0 n/\PmB (fun k=>k) F 0 n:=by
 refine⟨fun i j _ x2 x3=>h.s1 i j (Nat.zero_le _) x2 x3 ?_,fun k hk=>h.o k (by omega),fun k _ hk=>⟨F k,Nat.zero_le _,h.bd k hk,rfl⟩⟩;rw[Nat.div_eq_of_lt (by omega),Nat.div_eq_of_lt (by omega)]
structure Qfe (ps:List Int) (D:List (List Rat)) (T:Nat->Nat):Prop where
 b:∀ i,i<D.length->T i<26
 lt:∀ u v,u<D.length->v<D.length->(LN.sz ps (Zuf (D.getD u []) (D.getD v []))<0↔T u<T v)
 eq:∀ u v,u<D.length->v<D.length->(D.getD u []=D.getD v []↔T u=T v)
theorem Qfe.mono{ps:List Int}{D:List (List Rat)}{T F:Nat->Nat}(K:Qfe ps D T)(hF:Qgd (cS ps D) D.length F){k:Nat}(hk:k+1<D.length):T (F k)<=T (F (k+1)):=by
 have h1:=hF.lt k (by omega);have h2:=hF.lt (k+1) hk;have h3:=(hF.adj k hk).1;unfold cS at h3;rw[if_pos ⟨h2,h1⟩] at h3;refine Nat.not_lt.1 fun h=>?_
 have:=(K.lt _ _ h2 h1).2 h
 omega
def wmQ (u:List Rat) (k:Rat):List Rat:=u.map fun q=>k*q
theorem Zbz(u:List Rat)(k:Rat):(wmQ u k).length=u.length:=List.length_map ..
theorem Zf0(u:List Rat)(k:Rat):Ki u u k 0=wmQ u k:=by
 refine List.ext_getElem (by simp[Ki,wmQ]) fun i h1 h2=>?_
 simp only[Ki,wmQ,List.getElem_zipWith,List.getElem_map]
 grind
theorem Ztd{c u v:Rat}(hc:0<=c):Zf5 (c*u) (c*v)=c*Zf5 u v/\Zf6 (c*u) (c*v)=c*Zf6 u v:=by
 have Ge:∀ a b:Rat,¬ b<a->¬ c*b<c*a:=fun a b h h2=>by
  have:=Rat.mul_le_mul_of_nonneg_left (Rat.not_lt.1 h) hc
  grind
 have aO:∀ a b:Rat,b<a->¬ c*b<c*a->c*a=c*b:=fun a b h h2=>by
  have h3:=Rat.mul_le_mul_of_nonneg_left (Rat.le_of_lt h) hc;have h4:=Rat.not_lt.1 h2;exact Rat.le_antisymm h4 h3
 unfold Zf5 Zf6;refine⟨?_,?_⟩
 ·by_cases h:v<u
  ·rw[if_pos h]
   by_cases h2:c*v<c*u
   ·rw[if_pos h2]
   ·rw[if_neg h2];exact aO u v h h2
  ·rw[if_neg h,if_neg (Ge u v h)]
 ·by_cases h:u<v
  ·rw[if_pos h]
   by_cases h2:c*u<c*v
   ·rw[if_pos h2]
   ·rw[if_neg h2];exact(aO v u h h2).symm
  ·rw[if_neg h,if_neg (Ge v u h)]
theorem Zm3(n:Nat)(c:Rat)(hc:0<=c):∀ (ps:List Int) (l:List Rat),loE n ps (l.map fun x=>c*x)=c*loE n ps l/\hiE n ps (l.map fun x=>c*x)=c*hiE n ps l
 | [],_=>by simp[loE,hiE,Rat.mul_zero]
 | _::_,[]=>by simp[loE,hiE,Rat.mul_zero]
 | p::ps,x::l=>by
  obtain⟨h1,h2⟩:=Zm3 n c hc ps l;obtain⟨m1,m2⟩:=Ztd (u:=x*xE p n) (v:=x*yE p n) hc;simp only[List.map_cons,loE,hiE];rw[h1,h2,Rat.mul_assoc,Rat.mul_assoc,m1,m2,Rat.mul_add,Rat.mul_add];exact⟨rfl,rfl⟩
theorem Zej(n:Nat)(a:Rat)(rs:List Int)(l:List Rat):loE n (2::rs) (a::l)=a+loE n rs l/\hiE n (2::rs) (a::l)=a+hiE n rs l:=by
 have e1:xE 2 n=1:=by unfold xE;rw[if_pos rfl]
 have e2:yE 2 n=1:=by unfold yE;rw[if_pos rfl]
 simp only[loE,hiE,e1,e2,Rat.mul_one];unfold Zf5 Zf6;simp
def Zz (m:Nat):List Rat:=1::List.replicate m 0
theorem Zy(m:Nat):(Zz m).length=m+1:=by simp[Zz]
theorem Zym(m:Nat):(List.replicate (m+1) (0:Rat)).set 0 1=Zz m:=by simp[Zz,List.replicate_succ]
theorem Zge(m:Nat):Sml 12 12 (Zz m):=by
 intro q hq;rcases List.mem_cons.1 hq with rfl|h
 ·decide +kernel
 ·obtain⟨-,rfl⟩:=List.mem_replicate.1 h;decide +kernel
theorem Zgd(m:Nat):Ki (Zz m) (Zz m) 2 0=2::List.replicate m 0:=by
 unfold Zz Ki;rw[List.zipWith_cons_cons,List.zipWith_self,List.map_replicate];congr 1
 ·grind
 ·congr 1;grind
theorem Zuv(z:Int)(N t0:Rat)(ts:List Rat):LN.subQ z (Ki (wmQ (t0::ts) N) (Zz ts.length) 2 1) (Ki (Zz ts.length) (Zz ts.length) 2 0)=(2*N*t0+1-2*(z:Rat))::ts.map fun x=>2*N*x:=by
 rw[Zgd];unfold wmQ Zz Ki LN.subQ;rw[List.map_cons,List.zipWith_cons_cons,List.zipWith_cons_cons];congr 1
 ·grind
 ·induction ts with
  | nil=>rfl
  | cons x ts ih =>
   rw[List.length_cons,List.replicate_succ,List.map_cons,List.zipWith_cons_cons,List.zipWith_cons_cons,List.map_cons,ih];congr 1
   grind
theorem Qbm{ps:List Int}{l:List Rat}(h:tlQ ps l=[]):LN.sz ps l=0:=by
 unfold tlQ at h;unfold LN.sz;rw[h];rfl
theorem Zut{n:Nat}(hn:n<=1056){ps:List Int}{l:List Rat}(h1:∀ p∈ps,p∈Zd1)(h2:ps.Nodup)(h:0<=loE n ps l):0<=LN.sz ps l:=by
 by_cases gm:tlQ ps l=[]
 ·rw[Qbm gm];exact Int.le_refl _
 ·rw[Zre hn h1 h2 gm h];decide
theorem Qdo{n:Nat}(hn:n<=1056){ps:List Int}{l:List Rat}(h1:∀ p∈ps,p∈Zd1)(h2:ps.Nodup)(h:hiE n ps l<0):LN.sz ps l = -1:=by
 refine Zze hn h1 h2 (fun gm=>?_) (Rat.le_of_lt h);have h3:=(Zlg n ps l).1.2 (by rw[gm];exact Int.le_refl _);have h4:=Zle n ps l
 grind
theorem Zqa{n k:Nat}(hn:n<=1056){rs:List Int}{t0:Rat}{ts:List Rat}(h1:∀ p∈2::rs,p∈Zd1)(h2:(2::rs).Nodup)(hs:Zbs k (loE n (2::rs) (t0::ts)) (hiE n (2::rs) (t0::ts))=true):
  LN.FloorOf (2::rs) (Ki (wmQ (t0::ts) ((1200*10^k:Nat):Rat)) (Zz ts.length) 2 1) (Ki (Zz ts.length) (Zz ts.length) 2 0) (scE k (loE n (2::rs) (t0::ts))):=by
 have hs:=Zed.1 hs;obtain⟨z,hz⟩:∃ z,scE k (loE n (2::rs) (t0::ts))=z:=⟨_,rfl⟩;rw[hz] at hs ⊢;have fA:=hs.symm;unfold scE Zig at hz fA;obtain⟨l1,l2⟩:=Zej n t0 rs ts;rw[l1] at hz;rw[l2] at fA;generalize hN:1200*10^k=N at *;have oJ:(0:Rat)<=(N:Rat):=Rat.natCast_nonneg;have Dh:(0:Rat)<=2*(N:Rat):=by grind
 have b1:=Rat.floor_le ((t0+loE n rs ts)*(N:Rat)+1/2);have b2:=Rat.lt_floor_add_one ((t0+hiE n rs ts)*(N:Rat)+1/2);rw[hz] at b1;rw[fA] at b2;have Ih:LN.sz (2::rs) (Ki (Zz ts.length) (Zz ts.length) 2 0)=1:=by
  rw[Zgd];obtain⟨m1,-⟩:=Zej n 2 rs (List.replicate ts.length 0);have m2:∀ (m:Nat) (ps:List Int),loE n ps (List.replicate m 0)=0:=by
   intro m
   induction m with
   | zero=>intro ps;cases ps<;>rfl
   | succ m ih =>
    intro ps;cases ps with
    | nil=>rfl
    | cons p ps =>
     rw[List.replicate_succ];simp only[loE];rw[ih ps,Rat.zero_mul,Rat.zero_mul,Rat.add_zero];rfl
  refine Zre hn h1 h2 (fun gm=>?_) (by rw[m1,m2,Rat.add_zero];decide);unfold tlQ at gm;rw[Zce,if_neg (by decide)] at gm;cases gm
 unfold LN.FloorOf;rw[Ih,Zuv,Zuv];obtain⟨s1,-⟩:=Zej n (2*(N:Rat)*t0+1-2*(z:Rat)) rs (ts.map fun x=>2*(N:Rat)*x);obtain⟨-,s2⟩:=Zej n (2*(N:Rat)*t0+1-2*((z+1:Int):Rat)) rs (ts.map fun x=>2*(N:Rat)*x);obtain⟨s3,s4⟩:=Zm3 n (2*(N:Rat)) Dh rs ts;rw[s3] at s1;rw[s4] at s2;have ez:((z+1:Int):Rat)=(z:Rat)+1:=by rw[Rat.intCast_add];rfl
 constructor
 ·rw[Int.mul_one];refine Zut hn h1 h2 ?_;rw[s1]
  grind
 ·rw[Int.mul_one,Qdo hn h1 h2 (by
   rw[s2,ez]
   grind)]
  decide
/-! The floor is decided at 1024 bits. -/
def CtN:Nat:=2^51
def CtR:Nat:=2^64
def CtS:Nat:=2^1024
def CtX:Nat:=6*2^(52+(1024+3))
theorem Qgt:6*64<CtS:=by decide +kernel
theorem Qgu:CtX*12<CtR*(CtS-6*64):=by decide +kernel
theorem Qgw:12*CtN+CtR*12*64<=LN.KA:=by decide +kernel
theorem Qgs:12*(6*CtN)+CtR*12*(6*64)<LN.SA:=by decide +kernel
theorem Qgx:CtN<2^52:=by decide +kernel
theorem Qgv:480*1200000000000*2+12*1<=CtN:=by decide +kernel
theorem Zx0{tl:List (Int×Int)}(hp:PrT tl)(hl:tl.length<=6)(hk:∀ x∈tl,x.2.natAbs<2^52):(LN.eLo (lf 1024) tl).natAbs<=CtX/\(LN.eHi (lf 1024) tl).natAbs<=CtX:=by
 obtain⟨h1,h2⟩:=Zho (n:=1024) (by decide) tl hp hk;unfold CtX;have h3:=@Nat.mul_le_mul_right tl.length 6 (2^(52+(1024+3))) hl;exact⟨Nat.le_trans h1 h3,Nat.le_trans h2 h3⟩
theorem Zfo(D:Nat):∀ (m:Nat) (ps:List Int),Kr D ps (List.replicate m 0)=[]
 | 0,ps=>by cases ps<;>rfl
 | m+1,[]=>rfl
 | m+1,p::ps=>by rw[List.replicate_succ,Zce,if_pos (show Rat.num 0=0 from rfl),Zfo D m ps]
theorem Qcb(n:Nat):lf n 2=2^n:=Zq n
theorem Qdu(rs:List Int)(m:Nat):CtS<=(LN.sumT (lf 1024) (tlQ (2::rs) (Ki (Zz m) (Zz m) 2 0))).natAbs:=by
 rw[Zgd];unfold tlQ;have hD:=LN.tden_pos' (2::List.replicate m (0:Rat));generalize Ko (2::List.replicate m (0:Rat))=D at *;rw[Zce,if_neg (by decide),Zfo];simp only[LN.sumT];have e1:LN.ex D 2=2*(D:Int):=by
  unfold LN.ex;rw[show (2:Rat).num=2 from rfl,show (2:Rat).den=1 from rfl,Nat.div_one]
 have e2:lf 1024 2=CtS:=by unfold CtS;exact Qcb 1024
 rw[e1,e2,Int.add_zero,Int.natAbs_mul,Int.natAbs_natCast,Int.natAbs_mul,Int.natAbs_natCast];have:1*CtS<=(2:Int).natAbs*D*CtS:=Nat.mul_le_mul_right _ (by show 1<=2*D;omega)
 omega
theorem Qam{t:List Rat}{k:Nat}(hk:k<=9)(hs:Sml 480 12 t):Sml (480*1200000000000) 12 (wmQ t ((1200*10^k:Nat):Rat)):=by
 have h:=Sml.comb (by decide) hs hs ((1200*10^k:Nat):Int) 0;rw[Rat.intCast_natCast,show ((0:Int):Rat)=0 from rfl,Zf0] at h;refine h.le ?_;rw[Int.natAbs_natCast,Int.natAbs_zero,Nat.mul_zero,Nat.add_zero];exact Nat.mul_le_mul_left _ (Zlq hk).2
theorem Qfs{t:List Rat}{k m:Nat}(hk:k<=9)(hs:Sml 480 12 t):Sml CtN 12 (Ki (wmQ t ((1200*10^k:Nat):Rat)) (Zz m) 2 1):=by
 have h:=Sml.comb (by decide) (Qam hk hs) (Zge m) 2 1;exact h.le Qgv
theorem Qfr{m:Nat}:Sml 64 12 (Ki (Zz m) (Zz m) 2 0):=by
 have h:=Sml.comb (by decide) (Zge m) (Zge m) 2 0;exact h.le (by decide)
theorem Qgy{x:Int}(h:x.natAbs<=CtN):x.natAbs<2^52:=Nat.lt_of_le_of_lt h Qgx
theorem Zxb{rs:List Int}{t0:Rat}{ts:List Rat}{k:Nat}(hk:k<=9)(GP:∀ p∈2::rs,p∈Vm)(eP:(2::rs).Nodup)(h6:(2::rs).length<=6)(hl:ts.length=rs.length)(hs:Sml 480 12 (t0::ts)):
  Zud (2::rs) (Ki (wmQ (t0::ts) ((1200*10^k:Nat):Rat)) (Zz ts.length) 2 1) (Ki (Zz ts.length) (Zz ts.length) 2 0) 52:=by
 have ha:=Qfs (m:=ts.length) hk hs;have hb:=Qfr (m:=ts.length);have l2:(Ki (Zz ts.length) (Zz ts.length) 2 0).length=(2::rs).length:=by rw[Qf _ _ _ _ rfl,Zy,hl,List.length_cons]
 have l1:(Ki (wmQ (t0::ts) ((1200*10^k:Nat):Rat)) (Zz ts.length) 2 1).length=(2::rs).length:=by
  rw[Qf _ _ _ _ (by rw[Zbz,Zy,List.length_cons]),Zbz,List.length_cons,List.length_cons,hl]
 have h0:∃ q∈Ki (Zz ts.length) (Zz ts.length) 2 0,q≠0:=by rw[Zgd];exact⟨2,List.mem_cons_self,by decide⟩
 have hS:=Qdu rs ts.length;generalize Ki (wmQ (t0::ts) ((1200*10^k:Nat):Rat)) (Zz ts.length) 2 1=la at *;generalize Ki (Zz ts.length) (Zz ts.length) 2 0=lb at *;generalize 2::rs=ps at *;have kx:=ha.kb (ps:=ps) (by decide);have ky:=hb.kb (ps:=ps) (by decide);have aM:∀ x∈tlQ ps la,x.2.natAbs<2^52:=fun x hx=>Qgy (kx x hx)
 have IW:∀ x∈tlQ ps lb,x.2.natAbs<2^52:=fun x hx=>Nat.lt_of_le_of_lt (ky x hx) (by decide)
 have gm:=Zl6 l2 h0;refine⟨fun p hp=>Zah (GP p hp),h6,aM,IW,Nat.lt_of_le_of_lt ha.den (by decide),Nat.lt_of_le_of_lt hb.den (by decide),by decide,Qdn (hb.good (by decide) (by decide) GP eP) (by omega) l2 h0,fun hr=>?_⟩;exact Zrp Zea Zux GP eP l1 l2 kx ky gm hS
  (Zzh ha.den hb.den (Zcf h6 la) (Zcf h6 lb) Qgt Qgu Qgw Qgs) (Zx0 (fun x hx=>Zme (GP _ (Qm hx).1)) (Zcf h6 la) aM) hr
theorem Zbc.lowerD{w:World}{B B' c:Nat}{a:OA_}{l:List Rat}(h:Zbc w B a c l)(hb:B'<=B):Zbc w B' a c l:=by
 exact⟨h.1,h.2.imp id fun ⟨g,cap,cur,h1,h2,h3⟩=>⟨g,cap,cur,h1,Nat.le_trans hb h2,h3⟩⟩
theorem Zyb(W:World)(g1 g2:Nat)(a1:OA_)(c1 n D:Nat)(la:List Rat)(f1:Rat)
  (h1:W.heap[g1]?=some (.cells #[.slice a1 la.length c1] 35 (0,0)))
  (h2:W.heap[g2]?=some (.cells #[.string (itx f1.num),.string (dec f1.den)] 101 (0,0)))
  (ra:Rd W a1 (Km la)) (cZ:la.length=n) (sa:∀ q∈la,Sm D q) (s1:Sm 13 f1) (hn:n<=100) (hD:D<=400) (L:Qg W) :
  Zdh 141 #[.int .i64 n,.slice (some ⟨g1,0,none⟩) 1 1,.slice (some ⟨g2,0,none⟩) 1 1] W (Zao n [la] [f1]):=by
 have FV:W.heap[g1]?=some (.cells #[.slice a1 (la.map qs).length c1] 35 (0,0)):=by rw[List.length_map];exact h1
 exact Zkc W _ _ 1 1 n [la] [f1] D 13 (Zkr FV ra) (Zbj h2) (by intro l hl;simp only[List.mem_cons,List.not_mem_nil,or_false] at hl;subst hl;assumption) rfl
  (by intro l hl;simp only[List.mem_cons,List.not_mem_nil,or_false] at hl;subst hl;assumption)
  (by intro q hq;simp only[List.mem_cons,List.not_mem_nil,or_false] at hq;subst hq;assumption) (by omega) (by simp) (by simp only[List.length_cons,List.length_nil];omega) L
theorem Zno(w:World)(ps:List Int)(g1 g2:Nat)(a0 a1:OA_)(c0 c1:Nat)(la:List Rat)(f:Rat)(A:Vj w ps a0 a1 la 30)(hp:Vd ps=0)(L:Qg w)(hf':Sm 13 f)(hs:∀ q∈Zao ps.length [la] [f],Sm 30 q)
  (h1:w.heap[g1]?=some (.cells #[.slice a1 la.length c1] 35 (0,0))) (h2:w.heap[g2]?=some (.cells #[.string (itx f.num),.string (dec f.den)] 101 (0,0))) :
  Calls Tryz.prog 57 #[.slice a0 ps.length c0,.slice (some ⟨g1,0,none⟩) 1 1,.slice (some ⟨g2,0,none⟩) 1 1] w fun e w'=>∃ a c,e = .returned (.tuple #[.slice a (Zao ps.length [la] [f]).length c,.int .i64 0])/\Zbc w' w.heap.size a c (Zao ps.length [la] [f])/\Bw_ w w':=by
 have HA:=hd_ A;have HL:=hd_ L;have Hs:=hd_ hs;have H1:=hd_ h1;have H2:=hd_ h2;have Hf:=hd_ hf';have hn:=A.n;have e1:=A.len;have FV:w.heap[g1]?=some (.cells #[.slice a1 (la.map qs).length c1] 35 (0,0)):=by rw[List.length_map];exact h1
 have hk:=Zak w a0 _ c0 1 ps [la.map qs] A.rp A.i64 (by omega) (Zkr FV A.rl) (by simp)
  (by
   intro l hl;simp only[List.mem_cons,List.not_mem_nil,or_false] at hl;subst hl;exact⟨by rw[List.length_map];omega,Zmc A.sm⟩) L
 rw[Zwa hp A.sm e1] at hk;have Hk:=hd_ hk;have Hn:=hd_ hn;clear A L hs h1 h2 hf' FV hk e1 hp hn;go_enter Tryz.func57,Tryz.ntmps57;go_wp2_with fail;refine cm_ Hk.o ?_;rintro e w1 ⟨rfl,hb⟩;have B1:=hd_ hb;clear hb Hk;go_wp2_with fail;have Hc:=hd_ (Zij w1 (some ⟨g2,0,none⟩) 1 [f] ((Zbj H2.o).below B1.o nr_) (by intro q hq;simp only[List.mem_cons,List.not_mem_nil,or_false] at hq;subst hq;exact Hf.o.le (by decide)) (by simp) (HL.o.below B1.o));refine cm_ Hc.o ?_;rintro e w2 ⟨rfl,hb⟩;have B2:=bt_ B1 hb;clear hb Hc B1;go_wp2_with fail;have Fp:=hd_ (Zyb w2 g1 g2 a1 c1 ps.length 30 la f (hj_ H1 B2.o) (hj_ H2 B2.o) (HA.o.below B2.o).rl HA.o.len HA.o.sm Hf.o Hn.o (by decide) (HL.o.below B2.o));refine cm_ Fp.o ?_;rintro e w3 ⟨a3,c3,rfl,ho,hb⟩;have Hr:=hd_ ho.rd;have Ho:Hid (Zbc w3 w.heap.size a3 c3 (Zao ps.length [la] [f])):=Zbc.lowerD ho B2.o.size;have B3:=bt_ B2 hb;clear hb ho Fp B2;have LU:=hd_ (Zve w3 a3 c3 _ Hr.o Hs.o (by rw[Zg0 HA.o.len];have:=Hn.o;omega));go_wp2_with fail;refine cm_ LU.o ?_;rintro e w4 ⟨rfl,hb⟩;have B4:=bt_ B3 hb;have Jq:=hd_ (Ho.o.below hb nr_);clear hb LU;go_wp2_with fail
 go_ret2
 exact⟨a3,c3,rfl,Jq.o,B4.o⟩
theorem Zs0(w:World)(ps:List Int)(a0 a1:OA_)(c0 c1:Nat)(la:List Rat)(f:Rat)(A:Vj w ps a0 a1 la 30)(hp:Vd ps=0)(L:Qg w)(hf':Sm 13 f)(hs:∀ q∈Zao ps.length [la] [f],Sm 30 q):
  Calls Tryz.prog 117 #[.slice a0 ps.length c0,.slice a1 la.length c1,fr f] w fun e w'=>∃ a c,e = .returned (.tuple #[.slice a (Zao ps.length [la] [f]).length c,.int .i64 0])/\Zbc w' w.heap.size a c (Zao ps.length [la] [f])/\Bw_ w w':=by
 have Hc:Hid (∀ W g1 g2,Bw_ w W->W.heap[g1]?=some (.cells #[.slice a1 la.length c1] 35 (0,0))->W.heap[g2]?=some (.cells #[.string (itx f.num),.string (dec f.den)] 101 (0,0)) ->
   Calls Tryz.prog 57 #[.slice a0 ps.length c0,.slice (some ⟨g1,0,none⟩) 1 1,.slice (some ⟨g2,0,none⟩) 1 1] W fun e w'=>∃ a c,e = .returned (.tuple #[.slice a (Zao ps.length [la] [f]).length c,.int .i64 0])/\Zbc w' W.heap.size a c (Zao ps.length [la] [f])/\Bw_ W w'):=fun W g1 g2 hW h1 h2 =>
  Zno W ps g1 g2 a0 a1 c0 c1 la f (A.below hW) hp (L.below hW) hf' hs h1 h2
 have B0:=hd_ ((Below.refl w.heap.size w).alloc nr_ (.cells #[.string (itx f.num),.string (dec f.den)] 101));clear A hp L hf' hs;unfold fr fv;go_enter Tryz.func117,Tryz.ntmps117;have N0:=hd_ (Qe w #[.string (itx f.num),.string (dec f.den)] 101 _ rfl);obtain⟨k0,k1,-,-⟩:=Ka N0.o;go_wp2_with fail;have B1:=hd_ (B0.o.alloc B0.o.size (.cells #[.slice a1 la.length c1] 35));have B2:=hd_ (B1.o.alloc B1.o.size (.cells #[.string (itx f.num),.string (dec f.den)] 101));have z1:(w.alloc (.cells #[.string (itx f.num),.string (dec f.den)] 101)).heap.size=w.heap.size+1:=by show (w.heap.push _).size=_;exact Array.size_push ..
 have z2:((w.alloc (.cells #[.string (itx f.num),.string (dec f.den)] 101)).alloc (.cells #[.slice a1 la.length c1] 35)).heap.size=w.heap.size+1+1:=by rw[<- z1];show ((w.alloc _).heap.push _).size=_;exact Array.size_push ..
 refine cm_ (Hc.o _ _ _ B2.o (Kj (Qe _ _ _ _ z1) _) (Qe _ _ _ _ z2)) ?_;rintro e w5 ⟨a5,c5,rfl,hr,hb⟩;have Hr:Hid (Zbc w5 w.heap.size a5 c5 (Zao ps.length [la] [f])):=Zbc.lowerD hr B2.o.size;have B3:=bt_ B2 hb;clear hr hb z1 z2 Hc;go_wp2_with fail
 go_ret2
 exact⟨a5,c5,rfl,Hr.o,B3.o⟩
theorem Zez{P:Program}{w:World}{ops:Array Oper}{rest:List Oper}{o:Oper}{a:Act}{Q:Exit->Act->World->Prop}(dm:o.guard=none)(s x:Operand)(t:TypeId)
  (ho:o.op = .call { callee := .builtin .append,args := #[s,x],argTypes := #[t,t] }) {e:TypeId} {z:Value} {bytes:Nat} (E:Zba P t e z 2 bytes)
  (v:Value) (hs:a.eval s=v) {base n:Nat} {xs:List Value} (gl:w.ownsRow base e 2 v n xs) (ad:OA_) (m c:Nat) (V:List Value) (hx:a.eval x = .slice ad m c) (Gy:ad=none->m=0/\c=0) (hl:V.length=m*2) (hr:Rd w ad V) (h1:∀ u∈V,u.oneCell'=true)
  (h63:n+m<=4611686018427387904) (hbytes:(n+m)*bytes<=140737488355328) (hbase:base<=w.heap.size)
  (h:∀ v' w',w'.ownsRow base e 2 v' (n+m) (xs++V)->w.grownBy w' v.ownBlock->wpList P ops Q rest (a.put o.dst v') w'):wpList P ops Q (o::rest) a w:=by
 obtain⟨i,hi,hz,hsize,hby⟩:=E.info
 match ad,hr,Gy with
 | none,hr,Gy =>
  obtain⟨rfl,rfl⟩:=Gy rfl;obtain rfl:V=[]:=List.eq_nil_of_length_eq_zero hl;refine wpList_append_own_none dm s x t ho base e i 2 E.ht hi v n xs hs gl hx ?_;exact h v w (by simpa using gl) ⟨rfl,rfl,rfl,Nat.le_refl _,fun _ _ _=>rfl⟩
 | some ad,hr,_ =>
  refine wpList_append_own _ dm s x t ho base e i z 2 bytes E.ht hi hz hsize hby E.hzs E.pos v n xs hs gl ad m c V hx (by omega) ?_ h1 (by unfold maxLen;omega) hbytes hbase fun v' w' h2 h3 _=>h v' w' h2 h3
  intro j u hj;rcases hr with rfl|⟨b,off,hb,_,hc⟩
  ·simp at hj
  ·obtain rfl:=Option.some.inj hb;have:=hc j u hj
   have eD:(⟨b,off,none⟩:Addr).add j=⟨b,off+j,none⟩:=by unfold Addr.add;split<;>simp_all
   rw[eD];exact this
theorem Zow(w:World)(n:Int)(d:Nat)(hn : -1000<=n)(hn2:n<=1000)(hd:0<d)(Fo:d<=1000)(L:Qg w):
  Kc Tryz.prog 106 #[.int .i64 n,.int .i64 d] w (fr (mkRat n d)):=by
 have hz:∀ x:Nat,x<=2000->Num x:=fun x hx=>Zhc (Nat.lt_of_le_of_lt hx (Nat.lt_of_lt_of_le (show 2000<2^11 by decide) (Nat.pow_le_pow_right (by decide) (by rw[k10];decide))))
 have gC:=hd_ ((Below.refl w.heap.size w).alloc nr_ (.cells #[.string ⟨#[]⟩,.string ⟨#[]⟩] 101));have gi:Hid ((w.alloc (.cells #[.string ⟨#[]⟩,.string ⟨#[]⟩] 101)).heap[w.heap.size]?=some (.cells #[.string ⟨#[]⟩,.string ⟨#[]⟩] 101 (0,0))):=heap_alloc_new w _;have HO:=hd_ (Zq4 _ n d (by omega) (by omega) (by omega) (hz _ (by omega)) (hz _ (by omega)) hd (hz _ (by omega)) (hz _ (by omega)) (L.below gC.o));rw[Zdk n d (by omega)] at HO;clear L hz;generalize mkRat n d=q at *;unfold Kc;unfold fr fv at HO ⊢;go_enter Tryz.func106,Tryz.ntmps106;go_wp2_with fail;generalize w.alloc (.cells #[.string ⟨#[]⟩,.string ⟨#[]⟩] 101)=W0 at *;refine cm_ HO.o ?_;rintro e w1 ⟨rfl,hb⟩;have Gm:=Kh gi.o hb;have DN:=Kj Gm (.cells #[.string (itx q.num),.string (dec q.den)] 101);have B2:=hd_ ((bu_ gC hb).alloc (Nat.le_trans gC.o.size hb.size) (.cells #[.string (itx q.num),.string (dec q.den)] 101));obtain⟨k0,k1,f0,f1⟩:=Ka DN;clear hb HO gi gC Gm DN;go_wp2;obtain⟨c0,c1,hb3⟩:=Kq (B:=w.heap.size) (.string (itx q.num)) (.string (dec q.den)) k0 k1 nr_ B2.o;generalize ((w1.alloc (.cells #[.string (itx q.num),.string (dec q.den)] 101)).setCell ⟨w.heap.size,0,none⟩ (.string (itx q.num))).setCell ⟨w.heap.size,1,none⟩ (.string (dec q.den))=w9 at *;exact bodyPost_ret (v := .agg #[.string (itx q.num),.string (dec q.den)]) (by simp[results,Tryz.results106,go_sem,c0,c1]) rfl ⟨rfl,hb3⟩
theorem Zzi : (Tryz.prog.fieldsOf 124).toList.map (fun f => (f.name, f.type, f.offset)) = [("Prime", 3, 0), ("Bits", 3, 1), ("Low", 38, 2)] := by kernel_rfl
theorem Qbp:Tryz.prog.stoodInHeld 124=false:=by kernel_rfl
theorem Qcn:Tryz.prog.eqGuardType Tryz.prog.depth 124=false:=by kernel_rfl
theorem Zpn (W : World) (d : Nat) (p n p' n' : Int) (s s' : ByteArray) (fs : List Field) (h : fs.map (fun f => (f.name, f.type, f.offset)) = [("Prime", 3, 0), ("Bits", 3, 1), ("Low", 38, 2)]) :
  (Op.eqFields (d+1) #[.int .i64 p,.int .i64 n,.string s] #[.int .i64 p',.int .i64 n',.string s'] fs).run Tryz.prog W = .ok (p==p'&&n==n'&&s.toList==s'.toList) W:=by
 obtain⟨f,g,k,rfl⟩:∃ f g k,fs=[f,g,k]:=by
  have hl:=congrArg List.length h;rw[List.length_map] at hl;cases fs with
  | nil=>simp at hl
  | cons f fs =>
   cases fs with
   | nil=>simp at hl
   | cons g fs =>
    cases fs with
    | nil=>simp at hl
    | cons k fs =>
     cases fs with
     | nil=>exact⟨f,g,k,rfl⟩
     | cons x fs=>simp at hl
 simp only[List.map_cons,List.map_nil,List.cons.injEq,Prod.mk.injEq,and_true] at h;obtain⟨⟨h1,h2,h3⟩,⟨h4,h5,h6⟩,h7,h8,h9⟩:=h;have hu:=Tryz.underlying38;have hv:=Tryz.underlying3;simp[Op.eqFields,h1,h2,h3,h4,h5,h6,h7,h8,h9,go_sem,hu,hv]
 by_cases q1:p=p'<;>by_cases q2:n=n'<;>by_cases q3:s.toList=s'.toList<;>simp[q1,q2,q3]
theorem Zyd:Tryz.prog.underlying 124=some (.struct (Tryz.prog.fieldsOf 124)):=by
 have h:=Tryz.underlying124;unfold Program.fieldsOf;rw[h]
theorem Zws(W:World)(p n p' n':Int)(s s':ByteArray):
  (binOp .eql 124 (.agg #[.int .i64 p,.int .i64 n,.string s]) (.agg #[.int .i64 p',.int .i64 n',.string s'])).run Tryz.prog W = .ok (.bool (p==p'&&n==n'&&s.toList==s'.toList)) W:=by
 rw[run_eql_struct,show (10000:Nat)=9998+1+1 from rfl,run_equalIn_agg (ht:=Zyd) (hp:=Qbp),Zpn W _ p n p' n' s s' _ Zzi];rfl
theorem Zpj(W:World)(op:BinOp)(x y:Operand)(xs ys:Array Value):(eqGuard op 124 x y (.agg xs) (.agg ys)).run Tryz.prog W = .ok () W:=run_eqGuard_agg W op _ x y xs ys Qcn
theorem Zoo{C:World->Prop}{K:Act->Prop}{a:Act}{o:Oper}(x y:Operand)(r:TypeId)(p n p' n':Int)(s s':ByteArray)(h:o.op = .binOp .eql 124 x y r)(hx:a.eval x = .agg #[.int .i64 p,.int .i64 n,.string s])(hy:a.eval y = .agg #[.int .i64 p',.int .i64 n',.string s'])
  (hk:K (a.put o.dst (.bool (p==p'&&n==n'&&s.toList==s'.toList)))):o.quiet Tryz.prog a C K :=
 ⟨_,fun w _=>by
  unfold Oper.quietAt execOp;rw[h];simp only[Sem.run_bind,hx,hy,Zpj,Zws,Result.andThen_ok,Sem.run_pure];exact⟨rfl,rfl⟩,hk⟩
theorem Zpc(W:World)(n:Int)(d:Nat)(q:Rat)(hq:mkRat n d=q)(hn : -1000<=n)(hn2:n<=1000)(hd:0<d)(Fo:d<=1000)(L:Qg W):
  Kc Tryz.prog 106 #[.int .i64 n,.int .i64 d] W (fr q):=by rw[<- hq];exact Zow W n d hn hn2 hd Fo L
theorem Zwf:Zgm kP:=by
 intro x hx;simp only[kP,List.mem_cons,List.not_mem_nil,or_false] at hx;rcases hx with rfl|rfl<;>decide
theorem Qef:∀ q∈kA,Sm 30 q:=by
 intro q hq;simp only[kA,List.mem_cons,List.not_mem_nil,or_false] at hq;rcases hq with rfl|rfl<;>exact⟨by decide +kernel,by decide +kernel⟩
theorem Qf6:∀ q∈kB,Sm 30 q:=by
 intro q hq;simp only[kB,List.mem_cons,List.not_mem_nil,or_false] at hq;rcases hq with rfl|rfl<;>exact⟨by decide +kernel,by decide +kernel⟩
theorem Zpd:Vd kP=0:=by decide +kernel
theorem Qeg:kA.any nzQ=true:=by decide +kernel
theorem Zjo(w:World)(L:Qg w):Kc Tryz.prog 42 #[] w (.bool true):=by
 unfold Kc;have HL:=hd_ L;have HO:=hd_ (Qev w 3 3 (.inr (by decide)) (by decide +kernel) (by decide) L);rw[show ((3:Nat):Int)=3 from rfl,Qf3] at HO;unfold Qga at HO;clear L;generalize hb12:dec 12=b12 at *;have JO:=hd_ hb12;clear hb12;obtain⟨q1,Gd⟩:∃ q:Rat,q = -19:=⟨_,rfl⟩;obtain⟨q2,gQ⟩:∃ q:Rat,q=12:=⟨_,rfl⟩;obtain⟨q3,Ct⟩:∃ q:Rat,q = -1:=⟨_,rfl⟩;obtain⟨q4,Cb⟩:∃ q:Rat,q=1:=⟨_,rfl⟩;obtain⟨q5,hq5⟩:∃ q:Rat,q = -1/16:=⟨_,rfl⟩;obtain⟨q6,hq6⟩:∃ q:Rat,q=1/32:=⟨_,rfl⟩;have N1:=hd_ (fun W (hW:Bw_ w W)=>Zpc W (-19) 1 q1 (by rw[Gd];decide +kernel) (by decide) (by decide) (by decide) (by decide) (HL.o.below hW));have N2:=hd_ (fun W (hW:Bw_ w W)=>Zpc W 12 1 q2 (by rw[gQ];decide +kernel) (by decide) (by decide) (by decide) (by decide) (HL.o.below hW));have N3:=hd_ (fun W (hW:Bw_ w W)=>Zpc W (-1) 1 q3 (by rw[Ct];decide +kernel) (by decide) (by decide) (by decide) (by decide) (HL.o.below hW));have N4:=hd_ (fun W (hW:Bw_ w W)=>Zpc W 1 1 q4 (by rw[Cb];decide +kernel) (by decide) (by decide) (by decide) (by decide) (HL.o.below hW));have N5:=hd_ (fun W (hW:Bw_ w W)=>Zpc W (-1) 16 q5 (by rw[hq5];decide +kernel) (by decide) (by decide) (by decide) (by decide) (HL.o.below hW));have N6:=hd_ (fun W (hW:Bw_ w W)=>Zpc W 1 32 q6 (by rw[hq6];decide +kernel) (by decide) (by decide) (by decide) (by decide) (HL.o.below hW));have hA:kA=[q1,q2]:=by rw[Gd,gQ];rfl
 have hB:kB=[q3,q4]:=by rw[Ct,Cb];rfl
 have HD:=hd_ (fun W (hW:Bw_ w W) a0 a1 (rp:Rd W a0 (Qw kP)) (rl:Rd W a1 (Km [q1,q2]))=>Zw4 W a0 a1 2 2 30 kP kA rp (by rw[hA];exact rl) Zwf rfl (by decide) Zwe Qef (by decide) Zpd Qeg Qeb (HL.o.below hW));have HE:=hd_ (fun W (hW:Bw_ w W) a0 a1 (rp:Rd W a0 (Qw kP)) (rl:Rd W a1 (Km [q1,q2]))=>Zt0 W a0 a1 2 2 30 7 kP kA rp (by rw[hA];exact rl) Zwf rfl (by decide) Zwe Qef (by decide) Zpd (by decide) (HL.o.below hW));rw[Qf2,Qf4,<- hq5,<- hq6] at HE;have Eg:3<(dec 701955).size:=by rw[Qc];decide +kernel
 have HC:=hd_ (fun W (hW:Bw_ w W) a0 a1 (rp:Rd W a0 (Qw kP)) (rl:Rd W a1 (Km [q3,q4]))=>Zxc W a0 a1 2 2 2 2 3 701955 (by decide) (by decide) (by decide) Eg (by rw[Qc];decide +kernel) ((Zjx W a0 a1 2 2 30 3 kP kB rp (by rw[hB];exact rl) Zwf rfl (by decide) Zwe Qf6 (by decide) Zpd (by decide) Qf5 (HL.o.below hW)).mono fun e w' h=>by
  obtain⟨n,he,hl,hb⟩:=h;refine⟨⟨n,?_⟩,hb⟩;rw[Qed hl,show itx (701955:Int)=dec 701955 from Kg 701955] at he;exact he))
 have lZ:(dec 701955).extract 0 ((dec 701955).size-3)++⟨#[46]⟩++(dec 701955).extract ((dec 701955).size-3) (dec 701955).size=⟨#[55,48,49,46,57,53,53]⟩:=by
  have:((dec 701955).extract 0 ((dec 701955).size-3)++⟨#[46]⟩++(dec 701955).extract ((dec 701955).size-3) (dec 701955).size).data = #[55,48,49,46,57,53,53]:=by decide +kernel
  exact ByteArray.ext this
 rw[lZ] at HC;have oY:=hd_ hq5;have oX:=hd_ hq6;clear Gd gQ Ct Cb hq5 hq6 hA hB Eg lZ;unfold fr fv at N1 N2 N3 N4 N5 N6 HE;go_enter Tryz.func42,Tryz.ntmps42;go_wp2_with fail;refine cm_ HO.o ?_;rintro e w1 ⟨rfl,hb⟩;have B1:=hd_ (hb.alloc hb.size (.cells #[.int .i64 3,.int .i64 3,.string b12] 124));have F1:=hd_ (Qe w1 #[.int .i64 3,.int .i64 3,.string b12] 124 _ rfl);clear hb HO;go_wp2_with fail;have Gx:(w1.alloc (.cells #[.int .i64 3,.int .i64 3,.string b12] 124)).heap.size=w1.heap.size+1:=by simp
 rw[<- Gx];generalize w1.heap.size=gb at *;generalize w1.alloc (.cells #[.int .i64 3,.int .i64 3,.string b12] 124)=w1b at *;clear Gx;have B2:=hd_ (B1.o.alloc B1.o.size (.cells #[.int .i64 2,.int .i64 3] 3));have FP:Hid ((w1b.alloc (.cells #[.int .i64 2,.int .i64 3] 3)).heap[w1b.heap.size]?=some (.cells #[.int .i64 2,.int .i64 3] 3 (0,0))):=heap_alloc_new w1b _;replace F1:=hd_ (Kj F1.o (.cells #[.int .i64 2,.int .i64 3] 3));clear B1;generalize hg_:w1b.heap.size=gp at *;generalize hw_:w1b.alloc (.cells #[.int .i64 2,.int .i64 3] 3)=w2 at *;clear hg_ hw_;refine cm_ (N1.o _ B2.o) ?_;rintro e_ w3 ⟨rfl,hb_⟩;have B3:=bt_ B2 hb_;replace F1:=hk_ F1 hb_;replace FP:=hk_ FP hb_;clear B2;clear hb_;go_wp2_with fail;refine cm_ (N2.o _ B3.o) ?_;rintro e_ w4 ⟨rfl,hb_⟩;have B4:=bt_ B3 hb_;replace F1:=hk_ F1 hb_;replace FP:=hk_ FP hb_;clear B3;clear hb_;go_wp2_with fail;have B5:=hd_ (B4.o.alloc B4.o.size (.cells #[.string (itx q1.num),.string (dec q1.den),.string (itx q2.num),.string (dec q2.den)] 101));have FA:Hid ((w4.alloc (.cells #[.string (itx q1.num),.string (dec q1.den),.string (itx q2.num),.string (dec q2.den)] 101)).heap[w4.heap.size]?=some (.cells #[.string (itx q1.num),.string (dec q1.den),.string (itx q2.num),.string (dec q2.den)] 101 (0,0))):=heap_alloc_new w4 _;replace F1:=hd_ (Kj F1.o (.cells #[.string (itx q1.num),.string (dec q1.den),.string (itx q2.num),.string (dec q2.den)] 101));replace FP:=hd_ (Kj FP.o (.cells #[.string (itx q1.num),.string (dec q1.den),.string (itx q2.num),.string (dec q2.den)] 101));clear B4;generalize hg_:w4.heap.size=ga at *;generalize hw_:w4.alloc (.cells #[.string (itx q1.num),.string (dec q1.den),.string (itx q2.num),.string (dec q2.den)] 101)=w5 at *;clear hg_ hw_;refine cm_ (HD.o _ B5.o _ _ (Zbj FP.o) (Zbj FA.o)) ?_;rintro e_ w6 ⟨n_,a_,c_,he_,hl_,hr_,hb_⟩;have B6:=bt_ B5 hb_;replace F1:=hk_ F1 hb_;replace FP:=hk_ FP hb_;replace FA:=hk_ FA hb_;clear B5;clear HD;obtain rfl:=Qcf hl_;rw[Zwd,Qee] at he_;rw[Qee] at hr_;have MX:e_ = .returned (.tuple #[.agg #[.int .i64 1,.int .i64 9,.slice a_ 2 c_],.int .i64 0]):=he_;subst MX;have HR:=hd_ hr_;clear he_ hl_ hr_ hb_;go_wp2_with fail;have B7:=hd_ (B6.o.alloc B6.o.size (.cells #[.int .i64 1,.int .i64 9,.slice a_ 2 c_] 46));have FC:Hid ((w6.alloc (.cells #[.int .i64 1,.int .i64 9,.slice a_ 2 c_] 46)).heap[w6.heap.size]?=some (.cells #[.int .i64 1,.int .i64 9,.slice a_ 2 c_] 46 (0,0))):=heap_alloc_new w6 _;replace F1:=hd_ (Kj F1.o (.cells #[.int .i64 1,.int .i64 9,.slice a_ 2 c_] 46));replace FP:=hd_ (Kj FP.o (.cells #[.int .i64 1,.int .i64 9,.slice a_ 2 c_] 46));replace FA:=hd_ (Kj FA.o (.cells #[.int .i64 1,.int .i64 9,.slice a_ 2 c_] 46));replace HR:=hd_ (HR.o.below ((Below.refl w6.heap.size w6).alloc nr_ (.cells #[.int .i64 1,.int .i64 9,.slice a_ 2 c_] 46)) nr_);clear B6;generalize hg_:w6.heap.size=gc at *;generalize hw_:w6.alloc (.cells #[.int .i64 1,.int .i64 9,.slice a_ 2 c_] 46)=w7 at *;clear hg_ hw_;clear FA;refine cm_ (N1.o _ B7.o) ?_;rintro e_ w8 ⟨rfl,hb_⟩;have B8:=bt_ B7 hb_;replace F1:=hk_ F1 hb_;replace FP:=hk_ FP hb_;replace FC:=hk_ FC hb_;replace HR:=hd_ (HR.o.below hb_ nr_);clear B7;clear hb_;go_wp2_with fail;refine cm_ (N2.o _ B8.o) ?_;rintro e_ w9 ⟨rfl,hb_⟩;have B9:=bt_ B8 hb_;replace F1:=hk_ F1 hb_;replace FP:=hk_ FP hb_;replace FC:=hk_ FC hb_;replace HR:=hd_ (HR.o.below hb_ nr_);clear B8;clear hb_;go_wp2_with fail;have Cn:=hd_ (B9.o.alloc B9.o.size (.cells #[.string (itx q1.num),.string (dec q1.den),.string (itx q2.num),.string (dec q2.den)] 101));have FA:Hid ((w9.alloc (.cells #[.string (itx q1.num),.string (dec q1.den),.string (itx q2.num),.string (dec q2.den)] 101)).heap[w9.heap.size]?=some (.cells #[.string (itx q1.num),.string (dec q1.den),.string (itx q2.num),.string (dec q2.den)] 101 (0,0))):=heap_alloc_new w9 _;replace F1:=hd_ (Kj F1.o (.cells #[.string (itx q1.num),.string (dec q1.den),.string (itx q2.num),.string (dec q2.den)] 101));replace FP:=hd_ (Kj FP.o (.cells #[.string (itx q1.num),.string (dec q1.den),.string (itx q2.num),.string (dec q2.den)] 101));replace FC:=hd_ (Kj FC.o (.cells #[.string (itx q1.num),.string (dec q1.den),.string (itx q2.num),.string (dec q2.den)] 101));replace HR:=hd_ (HR.o.below ((Below.refl w9.heap.size w9).alloc nr_ (.cells #[.string (itx q1.num),.string (dec q1.den),.string (itx q2.num),.string (dec q2.den)] 101)) nr_);clear B9;generalize hg_:w9.heap.size=ga2 at *;generalize hw_:w9.alloc (.cells #[.string (itx q1.num),.string (dec q1.den),.string (itx q2.num),.string (dec q2.den)] 101)=w10 at *;clear hg_ hw_;refine cm_ (HE.o _ Cn.o _ _ (Zbj FP.o) (Zbj FA.o)) ?_;rintro e_ w11 ⟨rfl,hb_⟩;have Fl:=bt_ Cn hb_;replace F1:=hk_ F1 hb_;replace FP:=hk_ FP hb_;replace FC:=hk_ FC hb_;replace FA:=hk_ FA hb_;replace HR:=hd_ (HR.o.below hb_ nr_);clear Cn;clear hb_ HE FA N1 N2;go_wp2_with fail;have lz:Hid ((w11.alloc (.cells #[.string (itx q5.num),.string (dec q5.den)] 101)).heap.size=w11.heap.size+1):=by show _=_;simp
 have fV:=hd_ (Fl.o.alloc Fl.o.size (.cells #[.string (itx q5.num),.string (dec q5.den)] 101));have F5:Hid ((w11.alloc (.cells #[.string (itx q5.num),.string (dec q5.den)] 101)).heap[w11.heap.size]?=some (.cells #[.string (itx q5.num),.string (dec q5.den)] 101 (0,0))):=heap_alloc_new w11 _;replace F1:=hd_ (Kj F1.o (.cells #[.string (itx q5.num),.string (dec q5.den)] 101));replace FP:=hd_ (Kj FP.o (.cells #[.string (itx q5.num),.string (dec q5.den)] 101));replace FC:=hd_ (Kj FC.o (.cells #[.string (itx q5.num),.string (dec q5.den)] 101));replace HR:=hd_ (HR.o.below ((Below.refl w11.heap.size w11).alloc nr_ (.cells #[.string (itx q5.num),.string (dec q5.den)] 101)) nr_);clear Fl;generalize hg_:w11.heap.size=g5 at *;generalize hw_:w11.alloc (.cells #[.string (itx q5.num),.string (dec q5.den)] 101)=w12 at *;clear hg_ hw_;have E9:=hd_ (fV.o.alloc fV.o.size (.cells #[.string (itx q6.num),.string (dec q6.den)] 101));have F6:Hid ((w12.alloc (.cells #[.string (itx q6.num),.string (dec q6.den)] 101)).heap[g5+1]?=some (.cells #[.string (itx q6.num),.string (dec q6.den)] 101 (0,0))):=by
  have h_:=heap_alloc_new w12 (.cells #[.string (itx q6.num),.string (dec q6.den)] 101);rw[lz.o] at h_;exact h_
 replace F1:=hd_ (Kj F1.o (.cells #[.string (itx q6.num),.string (dec q6.den)] 101));replace FP:=hd_ (Kj FP.o (.cells #[.string (itx q6.num),.string (dec q6.den)] 101));replace FC:=hd_ (Kj FC.o (.cells #[.string (itx q6.num),.string (dec q6.den)] 101));replace F5:=hd_ (Kj F5.o (.cells #[.string (itx q6.num),.string (dec q6.den)] 101));replace HR:=hd_ (HR.o.below ((Below.refl w12.heap.size w12).alloc nr_ (.cells #[.string (itx q6.num),.string (dec q6.den)] 101)) nr_);clear fV lz;generalize hw_:w12.alloc (.cells #[.string (itx q6.num),.string (dec q6.den)] 101)=w13 at *;clear hw_;refine cm_ (N3.o _ E9.o) ?_;rintro e_ w14 ⟨rfl,hb_⟩;have lv:=bt_ E9 hb_;replace F1:=hk_ F1 hb_;replace FP:=hk_ FP hb_;replace FC:=hk_ FC hb_;replace F5:=hk_ F5 hb_;replace F6:=hk_ F6 hb_;replace HR:=hd_ (HR.o.below hb_ nr_);clear E9;clear hb_;go_wp2_with fail;refine cm_ (N4.o _ lv.o) ?_;rintro e_ w15 ⟨rfl,hb_⟩;have ln:=bt_ lv hb_;replace F1:=hk_ F1 hb_;replace FP:=hk_ FP hb_;replace FC:=hk_ FC hb_;replace F5:=hk_ F5 hb_;replace F6:=hk_ F6 hb_;replace HR:=hd_ (HR.o.below hb_ nr_);clear lv;clear hb_;go_wp2_with fail;have lm:=hd_ (ln.o.alloc ln.o.size (.cells #[.string (itx q3.num),.string (dec q3.den),.string (itx q4.num),.string (dec q4.den)] 101));have FA:Hid ((w15.alloc (.cells #[.string (itx q3.num),.string (dec q3.den),.string (itx q4.num),.string (dec q4.den)] 101)).heap[w15.heap.size]?=some (.cells #[.string (itx q3.num),.string (dec q3.den),.string (itx q4.num),.string (dec q4.den)] 101 (0,0))):=heap_alloc_new w15 _;replace F1:=hd_ (Kj F1.o (.cells #[.string (itx q3.num),.string (dec q3.den),.string (itx q4.num),.string (dec q4.den)] 101));replace FP:=hd_ (Kj FP.o (.cells #[.string (itx q3.num),.string (dec q3.den),.string (itx q4.num),.string (dec q4.den)] 101));replace FC:=hd_ (Kj FC.o (.cells #[.string (itx q3.num),.string (dec q3.den),.string (itx q4.num),.string (dec q4.den)] 101));replace F5:=hd_ (Kj F5.o (.cells #[.string (itx q3.num),.string (dec q3.den),.string (itx q4.num),.string (dec q4.den)] 101));replace F6:=hd_ (Kj F6.o (.cells #[.string (itx q3.num),.string (dec q3.den),.string (itx q4.num),.string (dec q4.den)] 101));replace HR:=hd_ (HR.o.below ((Below.refl w15.heap.size w15).alloc nr_ (.cells #[.string (itx q3.num),.string (dec q3.den),.string (itx q4.num),.string (dec q4.den)] 101)) nr_);clear ln;generalize hg_:w15.heap.size=ga3 at *;generalize hw_:w15.alloc (.cells #[.string (itx q3.num),.string (dec q3.den),.string (itx q4.num),.string (dec q4.den)] 101)=w16 at *;clear hg_ hw_;refine cm_ (HC.o _ lm.o _ _ (Zbj FP.o) (Zbj FA.o)) ?_;rintro e_ w17 ⟨rfl,hb_⟩;have IT:=bt_ lm hb_;replace F1:=hk_ F1 hb_;replace FP:=hk_ FP hb_;replace FC:=hk_ FC hb_;replace F5:=hk_ F5 hb_;replace F6:=hk_ F6 hb_;replace FA:=hk_ FA hb_;replace HR:=hd_ (HR.o.below hb_ nr_);clear lm;clear hb_ HC FA N3 N4 FP;go_wp2_with fail;obtain⟨k0,k1,k2,-⟩:=Qh F1.o;obtain⟨k3,k4,k5,-⟩:=Qh FC.o;obtain⟨k6,k7,-,-⟩:=Ka F5.o;obtain⟨k8,k9,-,-⟩:=Ka F6.o;obtain⟨br,orr,rfl,hbr,gR⟩:=HR.o.open (by decide);have kr:w17.cell? ⟨br,orr+5,none⟩=some (.string (dec 811)):=gR 5 _ rfl;have q0:=NW.cell k0;have q1:=NW.cell k1;have q2:=NW.cell k2;have q3:=NW.cell k3;have q4:=NW.cell k4;have m7:=NW.cell k5;have m6:=NW.cell k6;have q7:=NW.cell k7;have q8:=NW.cell k8;have q9:=NW.cell k9;have qr:=NW.cell kr;have AB:(dec 811)=⟨#[56,49,49]⟩:=by
  have:(dec 811).data = #[56,49,49]:=by decide +kernel
  exact ByteArray.ext this
 have Lr:b12=⟨#[49,50]⟩:=by
  rw[<- JO.o];have:(dec 12).data = #[49,50]:=by decide +kernel
  exact ByteArray.ext this
 rw[AB] at qr;rw[Lr] at q2;have gj:Nonempty (NW w17):=⟨⟨w17,Below.refl _ _⟩⟩;have I:Hid (Bw_ w17 w17.drew):=(Below.refl _ _).drew;clear k0 k1 k2 k3 k4 k5 k6 k7 k8 k9 kr gR AB Lr hbr HR F1 FC F5 F6;refine wn_ 57 [(2,0),(2,1),(2,2),(1,3),(2,4),(2,5),(2,6),(2,7),(2,8),(2,9),(2,10),(2,11),(2,12),(1,13),(2,14),(2,15),(2,16),(2,17),(1,18),(2,19),(2,20),(2,21),(2,22),(1,23),(2,24),(2,25),(2,26),(2,27),(2,28),(1,29),(2,30),(2,31),(1,32),(2,33),(2,34),(2,35),(2,36),(2,37),(2,38),(2,39),(1,40),(0,41),(2,42),(2,43),(2,44),(1,45),(0,46),(2,47),(2,48),(2,49),(2,50),(2,51),(2,52),(2,53),(2,54),(2,55),(2,56),(0,57)] I ?_;refine wa_ rfl ?_
 first | go_big_quiet_step (fail) | quiet_step (fail)
 refine wq_ ?_;refine wa_ rfl ?_
 first | go_big_quiet_step (fail) | quiet_step (fail)
 refine wq_ ?_;refine wa_ rfl ?_
 first | go_big_quiet_step (fail) | quiet_step (fail)
 refine wq_ ?_;refine wr_ rfl ?_
 first | go_big_quiet_step (fail) | quiet_step (fail)
 refine wq_ ?_;refine wa_ rfl ?_
 first | go_big_quiet_step (fail) | quiet_step (fail)
 refine wq_ ?_;refine wa_ rfl ?_;refine BigFrame.wpQuiet_want rfl fun K hK=>Zoo _ _ _ 3 3 3 3 _ _ rfl rfl rfl (hK _ ?_)
 refine wq_ ?_;refine wa_ rfl ?_
 first | go_big_quiet_step (fail) | quiet_step (fail)
 refine wq_ ?_;refine wa_ rfl ?_
 first | go_big_quiet_step (fail) | quiet_step (fail)
 refine wq_ ?_;refine wa_ rfl ?_
 first | go_big_quiet_step (fail) | quiet_step (fail)
 refine wq_ ?_;refine wa_ rfl ?_
 first | go_big_quiet_step (fail) | quiet_step (fail)
 refine wq_ ?_;refine wa_ rfl ?_
 first | go_big_quiet_step (fail) | quiet_step (fail)
 refine wq_ ?_;refine wa_ rfl ?_
 first | go_big_quiet_step (fail) | quiet_step (fail)
 refine wq_ ?_;refine wa_ rfl ?_
 first | go_big_quiet_step (fail) | quiet_step (fail)
 refine wq_ ?_;refine wr_ rfl ?_
 first | go_big_quiet_step (fail) | quiet_step (fail)
 refine wq_ ?_;refine wa_ rfl ?_
 first | go_big_quiet_step (fail) | quiet_step (fail)
 refine wq_ ?_;refine wa_ rfl ?_
 first | go_big_quiet_step (fail) | quiet_step (fail)
 refine wq_ ?_;refine wa_ rfl ?_
 first | go_big_quiet_step (fail) | quiet_step (fail)
 refine wq_ ?_;refine wa_ rfl ?_
 first | go_big_quiet_step (fail) | quiet_step (fail)
 refine wq_ ?_;refine wr_ rfl ?_
 first | go_big_quiet_step (fail) | quiet_step (fail)
 refine wq_ ?_;refine wa_ rfl ?_
 first | go_big_quiet_step (fail) | quiet_step (fail)
 refine wq_ ?_;refine wa_ rfl ?_
 first | go_big_quiet_step (fail) | quiet_step (fail)
 refine wq_ ?_;refine wa_ rfl ?_
 first | go_big_quiet_step (fail) | quiet_step (fail)
 refine wq_ ?_;refine wa_ rfl ?_
 first | go_big_quiet_step (fail) | quiet_step (fail)
 refine wq_ ?_;refine wr_ rfl ?_
 first | go_big_quiet_step (fail) | quiet_step (fail)
 refine wq_ ?_;refine wa_ rfl ?_
 first | go_big_quiet_step (fail) | quiet_step (fail)
 refine wq_ ?_;refine wa_ rfl ?_
 first | go_big_quiet_step (fail) | quiet_step (fail)
 refine wq_ ?_;refine wa_ rfl ?_
 first | go_big_quiet_step (fail) | quiet_step (fail)
 refine wq_ ?_;refine wa_ rfl ?_
 first | go_big_quiet_step (fail) | quiet_step (fail)
 refine wq_ ?_;refine wa_ rfl ?_
 first | go_big_quiet_step (fail) | quiet_step (fail)
 refine wq_ ?_;refine wr_ rfl ?_
 first | go_big_quiet_step (fail) | quiet_step (fail)
 refine wq_ ?_;refine wa_ rfl ?_
 first | go_big_quiet_step (fail) | quiet_step (fail)
 refine wq_ ?_;refine wa_ rfl ?_
 first | go_big_quiet_step (fail) | quiet_step (fail)
 refine wq_ ?_;refine wr_ rfl ?_
 first | go_big_quiet_step (fail) | quiet_step (fail)
 refine wq_ ?_;refine wa_ rfl ?_
 first | go_big_quiet_step (fail) | quiet_step (fail)
 refine wq_ ?_;refine wa_ rfl ?_
 first | go_big_quiet_step (fail) | quiet_step (fail)
 refine wq_ ?_;refine wa_ rfl ?_
 first | go_big_quiet_step (fail) | quiet_step (fail)
 refine wq_ ?_;refine wa_ rfl ?_
 first | go_big_quiet_step (fail) | quiet_step (fail)
 refine wq_ ?_;refine wa_ rfl ?_
 first | go_big_quiet_step (fail) | quiet_step (fail)
 refine wq_ ?_;refine wa_ rfl ?_
 first | go_big_quiet_step (fail) | quiet_step (fail)
 refine wq_ ?_;refine wa_ rfl ?_
 first | go_big_quiet_step (fail) | quiet_step (fail)
 refine wq_ ?_;refine wr_ rfl ?_
 first | go_big_quiet_step (fail) | quiet_step (fail)
 refine wq_ ?_;refine wm_ rfl ?_;go_wp2_with fail;refine cm_ (N5.o _ (bu_ IT I.o)) ?_;rintro e_ y1 ⟨rfl,hb_⟩;have J1:Hid (Bw_ w17 y1):=I.o.trans (hb_.mono I.o.size);clear hb_ I;go_wp2_with fail;refine⟨⟨⟨_,J1.o⟩,rfl⟩,?_⟩;refine wa_ rfl ?_;refine BigFrame.wpQuiet_want rfl fun K hK=>Zi9 _ _ _ q5 q5 rfl rfl rfl (hK _ ?_)
 refine wq_ ?_;refine wa_ rfl ?_
 first | go_big_quiet_step (fail) | quiet_step (fail)
 refine wq_ ?_;refine wa_ rfl ?_
 first | go_big_quiet_step (fail) | quiet_step (fail)
 refine wq_ ?_;refine wr_ rfl ?_
 first | go_big_quiet_step (fail) | quiet_step (fail)
 refine wq_ ?_;clear gj q0 q1 q2 q3 q4 m7 m6 q7 q8 q9 qr;refine wm_ rfl ?_;go_wp2_with fail;refine cm_ (N6.o _ (bu_ IT J1.o)) ?_;rintro e_ y2 ⟨rfl,hb_⟩;have J2:Hid (Bw_ w17 y2):=J1.o.trans (hb_.mono J1.o.size);clear hb_ J1;go_wp2_with fail;refine⟨⟨⟨_,J2.o⟩,rfl⟩,?_⟩;refine wa_ rfl ?_;refine BigFrame.wpQuiet_want rfl fun K hK=>Zi9 _ _ _ q6 q6 rfl rfl rfl (hK _ ?_)
 refine wq_ ?_;refine wa_ rfl ?_
 first | go_big_quiet_step (fail) | quiet_step (fail)
 refine wq_ ?_;refine wa_ rfl ?_
 first | go_big_quiet_step (fail) | quiet_step (fail)
 refine wq_ ?_;refine wa_ rfl ?_
 first | go_big_quiet_step (fail) | quiet_step (fail)
 refine wq_ ?_;refine wa_ rfl ?_
 first | go_big_quiet_step (fail) | quiet_step (fail)
 refine wq_ ?_;refine wa_ rfl ?_
 first | go_big_quiet_step (fail) | quiet_step (fail)
 refine wq_ ?_;refine wa_ rfl ?_
 first | go_big_quiet_step (fail) | quiet_step (fail)
 refine wq_ ?_;refine wa_ rfl ?_
 first | go_big_quiet_step (fail) | quiet_step (fail)
 refine wq_ ?_;refine wa_ rfl ?_
 first | go_big_quiet_step (fail) | quiet_step (fail)
 refine wq_ ?_;refine wa_ rfl ?_
 first | go_big_quiet_step (fail) | quiet_step (fail)
 refine wq_ ?_;refine wm_ rfl ?_;go_wp2_with fail;simp only[RP.walkR];go_wp2_with fail;go_ret;exact⟨rfl,IT.o.trans (J2.o.mono IT.o.size)⟩
structure Qgn (w:World) (ps:List Int) (a0 a1 a2:OA_) (l1 l2:Zdq):Prop where
 rp:Rd w a0 (Qw ps)
 hi:Zgm ps
 hl:ps.length<=1000
 r1:Rd w a1 (Qp l1)
 r2:Rd w a2 (Qp l2)
 n1:l1.length<=1000
 n2:l2.length<=1000
 s1:Ssz l1
 s2:Ssz l2
 L:Qg w
theorem Qgn.all{w W:World}{ps:List Int}{a0 a1 a2:OA_}{l1 l2:Zdq}(H:Qgn w ps a0 a1 a2 l1 l2)(hW:Bw_ w W){g c0 c1 c2:Nat}(hg:W.heap[g]?=some (.cells #[.slice a1 l1.length c1,.slice a2 l2.length c2] 35 (0,0))):
  Kc Tryz.prog 20 #[.slice a0 ps.length c0,.slice (some ⟨g,0,none⟩) 2 2] W (.int .i64 (Zhk ps [l1,l2])) :=
 Zak W a0 _ c0 2 ps [l1,l2] (H.rp.below hW nr_) H.hi (Nat.le_trans H.hl (by decide)) (Zkq hg (H.r1.below hW nr_) (H.r2.below hW nr_)) (by simp)
  (by intro l hl;simp only[List.mem_cons,List.not_mem_nil,or_false] at hl;rcases hl with rfl | rfl;exact⟨Nat.le_trans H.n1 (by decide),H.s1⟩;exact⟨Nat.le_trans H.n2 (by decide),H.s2⟩) (H.L.below hW)
def okE (s:ByteArray):Prop:=s.size<=5\/(31<s.size/\s.size<=40)
instance (s:ByteArray):Decidable (okE s):=inferInstanceAs (Decidable (_\/_))
theorem Zcr(w:World)(n:Nat):Kc Tryz.prog 194 #[.string (dec n)] w (.string (dec n)):=by
 unfold Kc;have EG:∀ W,(Instr.index 38 (.string (dec n)) (.int .i64 0)).run Tryz.prog W = .ok (.int .u8 ((lb (dec n)).getD 0 0).toNat) W:=fun W=>Zwi W _ (Vy n)
 have hf:=Za9 n;have hs:=Vy n;have ed:(0:Int)<(dec n).size:=by omega
 generalize ((lb (dec n)).getD 0 0).toNat=c at *;have hc:((c:Int)==45)=false:=by rw[beq_eq_false_iff_ne];omega
 clear hf;generalize dec n=s at *;go_enter Tryz.func194,Tryz.ntmps194;go_wp2;go_ret;exact⟨rfl,Below.refl _ _⟩
theorem Qb4(w:World)(z:Int)(h0 : -9223372036854775808<=z)(h1:z<=9223372036854775807)(L:Qg w):
  Kc Tryz.prog 196 #[.int .i64 z] w (.string (itx z)):=by
 unfold Kc;have HI:=hd_ (Zrj w z h0 h1 L);generalize itx z=s at *;clear h0 h1 L;go_enter Tryz.func196,Tryz.ntmps196;go_wp2_with fail;refine cm_ HI.o ?_;rintro e w1 ⟨rfl,hb⟩;have B1:=hd_ hb;clear hb HI;go_wp2_with fail;go_ret;exact⟨rfl,B1.o⟩
theorem Zsx(w:World)(n:Nat)(hn:(dec n).size<=18):
  Kc Tryz.prog 254 #[.string (dec n)] w (.tuple #[.int .i64 n,.bool true]):=by
 unfold Kc;have EG:∀ W,(Instr.index 9 (.string (dec n)) (.int .i64 0)).run Tryz.prog W = .ok (.int .u8 ((lb (dec n)).getD 0 0).toNat) W:=fun W=>Zwi W _ (Vy n)
 have hf:=Za9 n;have hs:=Vy n;have ed:(0:Int)<(dec n).size:=by omega
 have G1:((0:Int)==(dec n).size)=false:=by rw[beq_eq_false_iff_ne];omega
 have Hd:Hid (Zbd (lb (dec n))):=by show Zbd _;rw[Yf];exact Zs n
 have Gz:=hd_ (Yi (dec n));have Jd:Hid (Qt (lb (dec n))=n):=by show _=_;rw[Yf];exact Yw n
 generalize ((lb (dec n)).getD 0 0).toNat=c at *;have hc:((c:Int)==45)=false:=by rw[beq_eq_false_iff_ne];omega
 clear hf;generalize dec n=s at *;go_enter Tryz.func254,Tryz.ntmps254;go_wp2_with fail
 go_loop [7,5] (fun n i=>∃ t:Nat,t<=s.size/\i = .int .i64 t/\n = .int .i64 (-((Qt ((lb s).take t):Nat):Int))) (fun _ i=>s.size-(intOf i).toNat)
 case atStart=>exact⟨0,Nat.zero_le _,rfl,rfl⟩
 case round =>
  obtain⟨t,ht,rfl,rfl⟩:=hrel;have hD:=Zii Hd.o t (by omega)
  by_cases gd:t<s.size
  ·have gu:(t:Int)<s.size:=by omega
   have Fs:=Yq (lb s) t (by rw[Gz.o];exact gd);have dL:=Hd.o ((lb s).getD t 0) (by rw[List.getD_eq_getElem?_getD,List.getElem?_eq_getElem (by rw[Gz.o];exact gd)];exact List.getElem_mem _);have hg:(lb s).getD t 0=s[t]'gd:=by
    rw[List.getD_eq_getElem?_getD,List.getElem?_eq_getElem (by rw[Gz.o];exact gd)];rfl
   have av:Qt ((lb s).take t)<100000000000000000:=by
    have h1:=Zab (Hd.o.take t);have h2:10^((lb s).take t).length<=10^17:=Nat.pow_le_pow_right (by decide) (by simp;omega);exact Nat.lt_of_lt_of_le h1 h2
   rw[hg] at Fs dL;clear hg hD;have fC:=hd_ Fs;clear Fs;generalize Qt ((lb s).take t)=D at *;generalize Ch:(s[t]'gd).toNat=b at *;obtain⟨Ga,Gp⟩:=dL;have e1:IntKind.i64.wrap ((b:Int)-48)=(b:Int)-48:=iw_ _ (by omega);have e2:IntKind.i64.wrap (-9223372036854775808+((b:Int)-48)) = -9223372036854775808+((b:Int)-48):=iw_ _ (by omega);have e3:IntKind.i64.wrap (-(D:Int)*10) = -(D:Int)*10:=iw_ _ (by omega);have e4:IntKind.i64.wrap (-(D:Int)*10-((b:Int)-48)) = -(D:Int)*10-((b:Int)-48):=iw_ _ (by omega);have e5:IntKind.i64.wrap ((t:Int)+1)=((t+1:Nat):Int):=by rw[<- Int.natCast_succ];exact iw_ _ (by omega)
   have q1:Int.tdiv (-9223372036854775808+((b:Int)-48)) 10 <= -100000000000000000:=by
    have:=Int.mul_tdiv_add_tmod (-9223372036854775808+((b:Int)-48)) 10
    have:=Int.tmod_lt_of_pos (-9223372036854775808+((b:Int)-48)) (show (0:Int)<10 by decide)
    have:=Int.lt_tmod_of_pos (-9223372036854775808+((b:Int)-48)) (show (0:Int)<10 by decide)
    omega
   have q2 : -1000000000000000000<=Int.tdiv (-9223372036854775808+((b:Int)-48)) 10:=by
    have:=Int.mul_tdiv_add_tmod (-9223372036854775808+((b:Int)-48)) 10
    have:=Int.tmod_lt_of_pos (-9223372036854775808+((b:Int)-48)) (show (0:Int)<10 by decide)
    have:=Int.lt_tmod_of_pos (-9223372036854775808+((b:Int)-48)) (show (0:Int)<10 by decide)
    omega
   obtain⟨Q,hQ⟩:∃ Q,Int.tdiv (-9223372036854775808+((b:Int)-48)) 10=Q:=⟨_,rfl⟩;rw[hQ] at q1 q2;have e6:IntKind.i64.wrap Q=Q:=iw_ _ (by omega);have n1:¬ ((b:Int)-48<0):=by omega
   have n2:¬ (9<(b:Int)-48):=by omega
   have n3:¬ (-(D:Int)<Q):=by omega
   go_wp2_with fail;refine⟨⟨t+1,by omega,by go_num,by rw[fC.o];congr 1;omega⟩,by simp[intOf];omega⟩
  ·have gu:¬ (t:Int)<s.size:=by omega
   have Fs:t=s.size:=by omega
   have Hf:Hid (Qt ((lb s).take t)=n):=by
    show _=_
    rw[Fs,<- Gz.o,List.take_length];exact Jd.o
   rw[Hf.o] at hD ⊢;have n1:(-(n:Int) == -9223372036854775808)=false:=by rw[beq_eq_false_iff_ne];omega
   have e1:IntKind.i64.wrap (0 - -(n:Int))=(n:Int):=by rw[show 0 - -(n:Int)=n by omega];exact iw_ _ (by omega)
   have e2:IntKind.i64.wrap (n:Int)=(n:Int):=iw_ _ (by omega);go_wp2_with fail
   go_ret2
   exact⟨rfl,Below.refl _ _⟩
theorem Zja(w:World)(n:Nat):
  Kc Tryz.prog 195 #[.string (dec n)] w (if (dec n).size<=18 then .tuple #[.int .i64 n,.bool true] else .tuple #[.int .i64 0,.bool false]):=by
 unfold Kc;have HD:=hd_ (fun W=>Zcr W n)
 by_cases h:(dec n).size<=18
 ·rw[if_pos h];have HS:=hd_ (fun W=>Zsx W n h);have h':¬ (18:Int)<(dec n).size:=by omega
  generalize dec n=s at *;go_enter Tryz.func195,Tryz.ntmps195;go_wp2_with fail;refine cm_ (HD.o _) ?_;rintro e w1 ⟨rfl,hb⟩;have B1:=hd_ hb;clear hb HD;go_wp2_with fail;refine cm_ (HS.o _) ?_;rintro e w2 ⟨rfl,hb⟩;have B2:=bt_ B1 hb;clear hb HS B1;go_wp2_with fail
  go_ret2
  exact⟨rfl,B2.o⟩
 ·rw[if_neg h];have h':(18:Int)<(dec n).size:=by omega
  generalize dec n=s at *;go_enter Tryz.func195,Tryz.ntmps195;go_wp2_with fail;refine cm_ (HD.o _) ?_;rintro e w1 ⟨rfl,hb⟩;have B1:=hd_ hb;clear hb HD;go_wp2_with fail
  go_ret2
  exact⟨rfl,B1.o⟩
theorem Zmh(w:World)(n:Nat):Kc Tryz.prog 112 #[.string (dec n)] w (.int .i64 (if n=0 then 0 else 1)):=by
 unfold Kc
 by_cases h0:n=0
 ·subst h0;rw[if_pos rfl,show dec 0=⟨#[48]⟩ from by rw[<- Zj2.1];exact(Kg 0).symm];go_enter Tryz.func112,Tryz.ntmps112;go_wp2;go_ret;exact⟨rfl,Below.refl _ _⟩
 ·rw[if_neg h0];have EG:∀ W,(Instr.index 38 (.string (dec n)) (.int .i64 0)).run Tryz.prog W = .ok (.int .u8 ((lb (dec n)).getD 0 0).toNat) W:=fun W=>Zwi W _ (Vy n)
  have hf:=Za9 n;have hq:=Zfb (n:Int);rw[Kg,decide_eq_false (by omega)] at hq;generalize ((lb (dec n)).getD 0 0).toNat=c at *;have hc:((c:Int)==45)=false:=by rw[beq_eq_false_iff_ne];omega
  clear hf h0;generalize dec n=s at *;go_enter Tryz.func112,Tryz.ntmps112;go_wp2;go_ret;exact⟨rfl,Below.refl _ _⟩
theorem Zmi(w:World)(n:Nat):Kc Tryz.prog 198 #[.string (dec n)] w (.int .i64 1):=by
 unfold Kc;obtain⟨z,hz,fA⟩:∃ z:Int,(if n=0 then (0:Int) else 1)=z/\0<=z:=⟨_,rfl,by split<;>decide⟩;have HS:=hd_ (fun W=>Zmh W n);rw[hz] at HS;have NN:¬ z<0:=by omega
 clear hz;generalize dec n=s at *;go_enter Tryz.func198,Tryz.ntmps198;go_wp2_with fail;refine cm_ (HS.o _) ?_;rintro e w1 ⟨rfl,hb⟩;have B1:=hd_ hb;clear hb HS;go_wp2_with fail;go_ret;exact⟨rfl,B1.o⟩
def nI (l:List Nat):List Int:=l.map fun x:Nat=>(x:Int)
theorem Yc(l:List Nat):(nI l).length=l.length:=List.length_map ..
theorem Zo1(l:List Nat)(k:Nat):(nI l).take k=nI (l.take k):=List.map_take.symm
theorem Zm0(l m:List Nat):nI (l++m)=nI l++nI m:=List.map_append
theorem Qd1(l:List Nat)(k x:Nat):(nI l).set k (x:Int)=nI (l.set k x):=by
 unfold nI;rw[List.map_set]
theorem Qas(l:List Nat)(i:Nat)(hi:i<l.length)(h:i<(nI l).length):(nI l)[i]=((l.getD i 0:Nat):Int):=by
 simp only[nI,List.getElem_map];rw[List.getD_eq_getElem?_getD,List.getElem?_eq_getElem hi];rfl
theorem Zkw{w:World}{a:OA_}{l:List Nat}(h:Rd w a (Qw (nI l)))(k:Nat)(hk:k<l.length):∃ b off,a=some ⟨b,off,none⟩/\b<w.heap.size/\∀ i,i<l.length->w.cell? ⟨b,off+i,none⟩=some (.int .i64 (l.getD i 0:Nat)):=by
 obtain⟨b,off,rfl,hb,hc⟩:=h.open (by rw[Qn,Yc];omega);refine⟨b,off,rfl,hb,fun i hi=>hc i _ ?_⟩;have h1:i<(nI l).length:=by rw[Yc];exact hi
 rw[Zaf (nI l) i h1,Qas l i hi h1]
theorem Zgv(w:World)(a:OA_)(c:Nat)(l:List Nat)(hr:Rd w a (Qw (nI l)))(hp:Pcs l)(hl:l.length<=1000000)(hc:l.length<=c):
  Kc Tryz.prog 255 #[.slice a l.length c] w (.slice a (Kf (val l)).length c):=by
 unfold Kc;have Hr:=hd_ hr;have Hp:=hd_ hp;clear hr hp;generalize hn:l.length=n at *;have Hn:=hd_ hn;clear hn;go_enter Tryz.func255,Tryz.ntmps255;go_wp2_with fail
 go_loop [3] (fun s=>∃ m:Nat,m<=n/\s = .int .i64 m/\Hid (val (l.take m)=val l)) (fun s=>(intOf s).toNat)
 case atStart=>exact⟨n,Nat.le_refl _,rfl,by show _=_;rw[<- Hn.o,List.take_length]⟩
 case round =>
  obtain⟨m,hm,rfl,Hv⟩:=hrel
  by_cases h0:m=0
  ·subst h0;have g7:Hid ((Kf (val l)).length=0):=by
    show _=_
    rw[<- Zax l Hp.o 0 (Nat.zero_le _) Hv.o (.inl rfl)];simp
   go_wp2_with fail;go_ret;exact⟨by rw[g7.o];rfl,Below.refl _ _⟩
  ·obtain⟨k,rfl⟩:∃ k,m=k+1:=⟨m-1,by omega⟩;obtain⟨b,off,rfl,hb,hcells⟩:=Zkw Hr.o k (by rw[Hn.o];omega);have cx:=hcells k (by rw[Hn.o];omega);have ew:IntKind.i64.wrap (((k+1:Nat):Int)-1)=(k:Nat):=by rw[show ((k+1:Nat):Int)-1=k by omega];exact iw_ _ (by omega)
   have oS:IntKind.i64.wrap ((k:Int)+1-1)=(k:Nat):=by rw[show (k:Int)+1-1=k by omega];exact iw_ _ (by omega)
   have ft:(0:Int)<(k:Int)+1:=by omega
   clear hcells
   by_cases hz:l.getD k 0=0
   ·have El:Hid (val (l.take k)=val l):=by
     show _=_
     have:=Zca l (k+1) (by omega) (by rw[Hn.o];omega) hz
     rw[Nat.add_sub_cancel] at this;rw[this];exact Hv.o
    rw[hz] at cx;clear hz Hv;go_wp2_with fail;refine⟨⟨k,by omega,rfl,El⟩,by simp[intOf]⟩
   ·have g7:Hid ((Kf (val l)).length=k+1):=by
     show _=_
     rw[<- Zax l Hp.o (k+1) (by rw[Hn.o];exact hm) Hv.o (.inr hz),List.length_take,Hn.o];omega
    have hq:(((l.getD k 0:Nat):Int)==0)=false:=by rw[beq_eq_false_iff_ne];omega
    clear Hv hz;generalize l.getD k 0=x at *;go_wp2_with fail;go_ret;exact⟨by rw[g7.o];rfl,Below.refl _ _⟩
end Go.Proofs.YtbielfplgbammaaGreatDoor
