/- Lemmas for the laws of this seat, part 1. -/
import Derived.WalkKit
import Derived.WalkSpells
import Derived.WalkLawsBesides
import Derived.Deep.QuietTactic
import Derived.BigQuiet
import Derived.Lib.Hide
import Derived.Lib.QuietBelow
import Derived.Shelf.Strings.Builder1
import Derived.Shelf.Strings.Builder2
import Derived.Shelf.Small.Bits
import Derived.Shelf.Strings.BuilderF
import Derived.Shelf.Strings.BuilderK
import Derived.Shelf.Strings.Builder2Cap
import Derived.Shelf.Strconv.Atoi
import Derived.Shelf.Strconv.Itoa0
import Derived.Shelf.Strconv.Itoa1
import Derived.Shelf.LaysM
import Derived.Shelf.Strconv.Itoa2
import Derived.Shelf.Strconv.Itoa3
import Derived.Shelf.Strconv.AtoiErrFast
import Derived.Shelf.Strconv.ParseIntEmpty
import Derived.Shelf.Strconv.AtoiFail
import Derived.Shelf.Strconv.Clone
import Derived.Shelf.Strconv.SyntaxError
import Derived.Shelf.LaysC
import Derived.Shelf.Strconv.ToError
import Derived.Shelf.Strconv.Lower
import Derived.Shelf.Strconv.ParseUint10
import Derived.Shelf.Strconv.ParseUint10Empty
import Derived.Shelf.Strconv.ParseUint10Any
import Derived.Shelf.Strconv.ParseInt10
import Derived.Shelf.Strconv.AtoiLong
import Derived.Shelf.Strconv.AtoiInnerAll
import Derived.Shelf.Strconv.RangeError
import Derived.Shelf.Strconv.ToErrorRange
import Derived.Shelf.Strconv.AtoiAll
import Derived.Shelf.Strconv.ParseUintEmpty
import Derived.Shelf.Strconv.ParseUint10b64
import Derived.Shelf.Strconv.ParseUint10b32
import Derived.Shelf.Strconv.ParseUint10b16
import Derived.Shelf.Strconv.ParseUint10b8
import Derived.Shelf.Strconv.ParseUint10At
import Derived.Shelf.Strconv.ParseInt10At64
import Derived.Shelf.Strconv.ParseInt10At32
import Derived.Shelf.Strconv.ParseInt10At16
import Derived.Shelf.Strconv.ParseInt10At8
import Derived.Shelf.Strconv.ParseInt10All
import Derived.Shelf.Strconv.ParseIntPublic10
import Derived.Ground.MpProg
import Derived.Shelf.Pu.ParseUintPublic10
import Derived.Shelf.Strings.Prefix
import Derived.Shelf.Bits.Mul64
import Derived.Shelf.Strings.Repeat
import Derived.Shelf.Strings.BuilderCap
import Derived.Ground.Names2Prog
import Derived.Shelf.Slices.Clone
import Derived.Test.YtnjedhgcfeoemaaGreatDoorProg
import Derived.StillTail
import Derived.Maps.AppendAt
import Derived.RangeFuncNested
import Derived.RangeFuncBound
import Derived.RangeFuncCalls
import Derived.RangeFuncLeaves
import Derived.Shelf.Abstract
import Derived.Shelf.RegionOpen
import Derived.OwnWalkIn
import Derived.TacticsInMore
import Derived.LoopNIn
import Derived.LoopIn
import Derived.Laws.BitsLemmas
import Derived.Laws.Bits64
import Derived.OrdersIn
import Derived.RegionIn
import Derived.BigRegionIn
import Derived.WalkMore
import Derived.Scope
import Derived.Great.BuildSlice
import Derived.Laws.StructEq
import Derived.Deep.Strs
import Derived.Test.YtnjedhgcfeoemaaGreatDoorWb4
set_option maxRecDepth 100000
set_option maxHeartbeats 16000000
namespace Go.Proofs.YtnjedhgcfeoemaaGreatDoor
open Go.RowKit
theorem ints_append(l m:List Int):ints (l++m)=ints l++ints m:=by simp[ints]
end Go.Proofs.YtnjedhgcfeoemaaGreatDoor

/-
 DERIVED: THE SHELF's CONTRACTS AT THIS DUMP,IN PLAIN WORDS (tools/lay-plain.mjs out of 'TryzShelf.lean',which tools/lay-shelf.mjs wrote): THE SAME DECLARATIONS UNDER THE SAME NAMES: 'import','namespace','open','def','theorem' AND NOTHING ELSE: no command of the shelf's: FOR A HAND-IN. Each laying: the table of numbers ('.._ren') and one theorem,a field a fact of the dump's own or the kernel's comparison;each contract: ONE APPLICATION.
-/
namespace Go.Proofs
open Go.Shelf
def Tryz.laysC174_ren:Go.Shelf.Ren:=⟨fun | 174=>256 | 247=>227 | 245=>199 | 287=>245 | 279=>228 | 280=>229 | 281=>230 | 282=>231 | 321=>258 | 322=>259 | 316=>249 | 171=>144 | 205=>250 | 243=>200 | 246=>232 | 283=>251 | 284=>252 | 285=>253 | 286=>254 | 129=>191 | 317=>260 | 318=>261 | 319=>262 | 320=>263 | 337=>265 | 338=>266 | n=>n,fun | 9=>9 | 3=>3 | 2=>2 | 75=>200 | 85=>279 | 4=>4 | 167=>278 | 5=>5 | 53=>193 | 175=>267 | 46=>190 | 168=>281 | 37=>62 | 0=>0 | 210=>303 | 21=>21 | 127=>259 | 145=>314 | 143=>312 | 171=>305 | 173=>307 | 212=>317 | 51=>247 | 20=>20 | 213=>318 | 232=>319 | 233=>320 | 80=>219 | n=>n,fun | 15=>0 | 16=>1 | 17=>3 | 18=>4 | 19=>5 | n=>n⟩
theorem Tryz.laysC174:Go.Proofs.LaysC.n174 Tryz.prog Tryz.laysC174_ren:={
 mixed:=by kernel_rfl
 f129:=Tryz.func191.trans (congrArg some (by kernel_rfl))
 f171:=Tryz.func144.trans (congrArg some (by kernel_rfl))
 f174:=Tryz.func256.trans (congrArg some (by kernel_rfl))
 f205:=Tryz.func250.trans (congrArg some (by kernel_rfl))
 f243:=Tryz.func200.trans (congrArg some (by kernel_rfl))
 f245:=Tryz.func199.trans (congrArg some (by kernel_rfl))
 f246:=Tryz.func232.trans (congrArg some (by kernel_rfl))
 f247:=Tryz.func227.trans (congrArg some (by kernel_rfl))
 f279:=Tryz.func228.trans (congrArg some (by kernel_rfl))
 f280:=Tryz.func229.trans (congrArg some (by kernel_rfl))
 f281:=Tryz.func230.trans (congrArg some (by kernel_rfl))
 f282:=Tryz.func231.trans (congrArg some (by kernel_rfl))
 f283:=Tryz.func251.trans (congrArg some (by kernel_rfl))
 f284:=Tryz.func252.trans (congrArg some (by kernel_rfl))
 f285:=Tryz.func253.trans (congrArg some (by kernel_rfl))
 f286:=Tryz.func254.trans (congrArg some (by kernel_rfl))
 f287:=Tryz.func245.trans (congrArg some (by kernel_rfl))
 f316:=Tryz.func249.trans (congrArg some (by kernel_rfl))
 f317:=Tryz.func260.trans (congrArg some (by kernel_rfl))
 f318:=Tryz.func261.trans (congrArg some (by kernel_rfl))
 f319:=Tryz.func262.trans (congrArg some (by kernel_rfl))
 f320:=Tryz.func263.trans (congrArg some (by kernel_rfl))
 f321:=Tryz.func258.trans (congrArg some (by kernel_rfl))
 f322:=Tryz.func259.trans (congrArg some (by kernel_rfl))
 f337:=Tryz.func265.trans (congrArg some (by kernel_rfl))
 f338:=Tryz.func266.trans (congrArg some (by kernel_rfl))
 t0:=Tryz.underlying0
 a0:=Tryz.isAgg0
 z0:=Tryz.sizeOf0
 v0:=Tryz.zeroValue0
 t2:=Tryz.underlying2
 a2:=Tryz.isAgg2
 z2:=Tryz.sizeOf2
 v2:=Tryz.zeroValue2
 t3:=Tryz.underlying3
 a3:=Tryz.isAgg3
 z3:=Tryz.sizeOf3
 v3:=Tryz.zeroValue3
 t4:=Tryz.underlying4
 a4:=Tryz.isAgg4
 z4:=Tryz.sizeOf4
 v4:=Tryz.zeroValue4
 t5:=Tryz.underlying5
 a5:=Tryz.isAgg5
 z5:=Tryz.sizeOf5
 v5:=Tryz.zeroValue5
 t9:=Tryz.underlying9
 a9:=Tryz.isAgg9
 z9:=Tryz.sizeOf9
 v9:=Tryz.zeroValue9
 t20:=Tryz.underlying20
 a20:=Tryz.isAgg20
 z20:=Tryz.sizeOf20
 v20:=Tryz.zeroValue20
 t21:=Tryz.underlying21
 a21:=Tryz.isAgg21
 z21:=Tryz.sizeOf21
 v21:=Tryz.zeroValue21
 t37:=Tryz.underlying62
 a37:=Tryz.isAgg62
 z37:=Tryz.sizeOf62
 v37:=Tryz.zeroValue62
 t46:=Tryz.underlying190
 a46:=Tryz.isAgg190
 z46:=Tryz.sizeOf190
 v46:=Tryz.zeroValue190
 t51:=Tryz.underlying247
 a51:=Tryz.isAgg247
 z51:=Tryz.sizeOf247
 v51:=Tryz.zeroValue247
 t53:=Tryz.underlying193
 a53:=Tryz.isAgg193
 z53:=Tryz.sizeOf193
 v53:=Tryz.zeroValue193
 t75:=Tryz.underlying200
 a75:=Tryz.isAgg200
 z75:=Tryz.sizeOf200
 v75:=Tryz.zeroValue200
 t85:=Tryz.underlying279
 a85:=Tryz.isAgg279
 z85:=Tryz.sizeOf279
 v85:=Tryz.zeroValue279
 t127:=Tryz.underlying259
 a127:=Tryz.isAgg259
 z127:=Tryz.sizeOf259
 v127:=Tryz.zeroValue259
 t143:=Tryz.underlying312
 a143:=Tryz.isAgg312
 z143:=Tryz.sizeOf312
 v143:=Tryz.zeroValue312
 t145:=Tryz.underlying314
 a145:=Tryz.isAgg314
 z145:=Tryz.sizeOf314
 v145:=Tryz.zeroValue314
 t167:=Tryz.underlying278
 a167:=Tryz.isAgg278
 z167:=Tryz.sizeOf278
 v167:=Tryz.zeroValue278
 t168:=Tryz.underlying281
 a168:=Tryz.isAgg281
 z168:=Tryz.sizeOf281
 v168:=Tryz.zeroValue281
 t171:=Tryz.underlying305
 a171:=Tryz.isAgg305
 z171:=Tryz.sizeOf305
 v171:=Tryz.zeroValue305
 t173:=Tryz.underlying307
 a173:=Tryz.isAgg307
 z173:=Tryz.sizeOf307
 v173:=Tryz.zeroValue307
 t175:=Tryz.underlying267
 a175:=Tryz.isAgg267
 z175:=Tryz.sizeOf267
 v175:=Tryz.zeroValue267
 t210:=Tryz.underlying303
 a210:=Tryz.isAgg303
 z210:=Tryz.sizeOf303
 v210:=Tryz.zeroValue303
 t212:=Tryz.underlying317
 a212:=Tryz.isAgg317
 z212:=Tryz.sizeOf317
 v212:=Tryz.zeroValue317
 t213:=Tryz.underlying318
 a213:=Tryz.isAgg318
 z213:=Tryz.sizeOf318
 t232:=Tryz.underlying319
 a232:=Tryz.isAgg319
 z232:=Tryz.sizeOf319
 v232:=Tryz.zeroValue319
 t233:=Tryz.underlying320
 a233:=Tryz.isAgg320
 z233:=Tryz.sizeOf320
 v233:=Tryz.zeroValue320
 g15:=by kernel_rfl
 g16:=by kernel_rfl
 g17:=by kernel_rfl
 g18:=by kernel_rfl
 g19:=by kernel_rfl
 t80:=Tryz.underlying219
 a80:=Tryz.isAgg219
 z80:=Tryz.sizeOf219
 v80:=Tryz.zeroValue219
 i0:=by kernel_rfl
 i2:=by kernel_rfl
 i3:=by kernel_rfl
 i4:=by kernel_rfl
 i5:=by kernel_rfl
 i9:=by kernel_rfl
 i20:=by kernel_rfl
 i21:=by kernel_rfl
 i37:=by kernel_rfl
 i46:=by kernel_rfl
 i51:=by kernel_rfl
 i53:=by kernel_rfl
 i75:=by kernel_rfl
 i80:=by kernel_rfl
 i85:=by kernel_rfl
 i127:=by kernel_rfl
 i143:=by kernel_rfl
 i145:=by kernel_rfl
 i167:=by kernel_rfl
 i168:=by kernel_rfl
 i171:=by kernel_rfl
 i173:=by kernel_rfl
 i175:=by kernel_rfl
 i210:=by kernel_rfl
 i212:=by kernel_rfl
 i232:=by kernel_rfl
 i233:=by kernel_rfl
 m15:=by kernel_rfl
 m16:=by kernel_rfl
 m17:=by kernel_rfl
 m18:=by kernel_rfl
 m19:=by kernel_rfl
 c0:=by kernel_rfl
 c2:=by kernel_rfl
 c3:=by kernel_rfl
 c4:=by kernel_rfl
 c5:=by kernel_rfl
 c9:=by kernel_rfl
 c20:=by kernel_rfl
 c21:=by kernel_rfl
 c37:=by kernel_rfl
 c46:=by kernel_rfl
 c51:=by kernel_rfl
 c53:=by kernel_rfl
 c75:=by kernel_rfl
 c80:=by kernel_rfl
 c85:=by kernel_rfl
 c127:=by kernel_rfl
 c143:=by kernel_rfl
 c145:=by kernel_rfl
 c167:=by kernel_rfl
 c168:=by kernel_rfl
 c171:=by kernel_rfl
 c173:=by kernel_rfl
 c175:=by kernel_rfl
 c210:=by kernel_rfl
 c212:=by kernel_rfl
 c213:=by kernel_rfl
 c232:=by kernel_rfl
 c233:=by kernel_rfl }
open Go.RowKit in
theorem Tryz.strconv_ParseInt_10_at64_ok(s:ByteArray)(hmax:s.size≤9223372036854775806)(v:Int)(h:Lib.parseIntB 64 s.data.toList = .ok v)(w:World):
  Calls Tryz.prog 256 #[.string s,.int .i64 10,.int .i64 64] w fun e w'=>e = .returned (.tuple #[.int .i64 v,.nilIface])∧(w'=w∨∃ t,w'=Lib.bytesWorld w 5 t):=Any.strconv_ParseInt_10_at64_ok Tryz.laysC174 s hmax v h w
open Go.RowKit in
theorem Tryz.strconv_ParseInt_10_at64_range(s:ByteArray)(hlim:s.size≤281474976710656)(h:Lib.parseIntB 64 s.data.toList = .range)(ev:Value)(w:World)(hv:w.cell? ⟨1,0,none⟩=some ev)(hev:ev = .nilIface∨∃ te pe,ev = .iface te pe):
  Calls Tryz.prog 256 #[.string s,.int .i64 10,.int .i64 64] w fun e w'=>∃ N,e = .returned (.tuple #[.int .i64 (Lib.intSat 64 s.data.toList),.iface 281 (.pointer (some ⟨N,0,none⟩))])∧w.heap.size≤N∧w'.heap[N]?=some (.cells #[.string ⟨#[80,97,114,115,101,73,110,116]⟩,.string s,ev] 303 (0,0))∧Below w.heap.size w w':=Any.strconv_ParseInt_10_at64_range Tryz.laysC174 s hlim h ev w hv hev
end Go.Proofs

namespace Go.Proofs.YtnjedhgcfeoemaaGreatDoor
open Go.RowKit
theorem lcm_quot(a b:Nat)(ha:a≠0):a/Nat.gcd a b*b=Nat.lcm a b:=by
 have hg:0<Nat.gcd a b:=Nat.gcd_pos_of_pos_left _ (by omega)
 obtain⟨k,hk⟩:=Nat.gcd_dvd_left a b
 unfold Nat.lcm
 generalize Nat.gcd a b=g at *
 subst hk
 rw[Nat.mul_div_cancel_left _ hg,Nat.mul_assoc,Nat.mul_div_cancel_left _ hg]
theorem lcm_any(w:World)(a b:Nat)(ha:Num a)(hb:Num b)(L:Laid w):
  Gives Tryz.prog 209 #[.string (dec a),.string (dec b)] w (.string (dec (Nat.lcm a b))):=by
 unfold Gives
 have hz1:=is_zero a
 have hz2:=is_zero b
 by_cases h1:a=0
 ·rw[decide_eq_true h1] at hz1
  have Hv:Hid (dec (Nat.lcm a b)=⟨#[48]⟩):=by
   show _=_
   rw[h1,Nat.lcm_zero_left];exact dec_zero
  clear h1 hz2
  go_enter Tryz.func209,Tryz.ntmps209
  go_wp2
  go_ret
  exact⟨by rw[Hv.out];rfl,Below.refl _ _⟩
 ·rw[decide_eq_false h1] at hz1
  by_cases h2:b=0
  ·rw[decide_eq_true h2] at hz2
   have Hv:Hid (dec (Nat.lcm a b)=⟨#[48]⟩):=by
    show _=_
    rw[h2,Nat.lcm_zero_right];exact dec_zero
   clear h1 h2
   go_enter Tryz.func209,Tryz.ntmps209
   go_wp2
   go_ret
   exact⟨by rw[Hv.out];rfl,Below.refl _ _⟩
  ·rw[decide_eq_false h2] at hz2
   have HL:=hd_ L
   have Hgc:=hd_ (gcd_any w a b ha hb L)
   have hgp:0<Nat.gcd a b:=Nat.gcd_pos_of_pos_left _ (by omega)
   have hgl:Num (Nat.gcd a b):=ha.le (Nat.gcd_le_left _ (by omega))
   have Hdm:Hid (∀ w',Below w.heap.size w w'→Gives Tryz.prog 208 #[.string (dec a),.string (dec (Nat.gcd a b))] w' (.tuple #[.string (dec (a/Nat.gcd a b)),.string (dec (a%Nat.gcd a b)),.int .i64 0])):=fun w' hb'=>by
    have:=divmod_any w' a (Nat.gcd a b) ha hgl (HL.out.below hb')
    rw[if_neg (by omega)] at this
    exact this
   have Hml:Hid (∀ w',Below w.heap.size w w'→Gives Tryz.prog 184 #[.string (dec (a/Nat.gcd a b)),.string (dec b)] w' (.string (dec (Nat.lcm a b)))):=fun w' hb'=>by
    have:=mul_any w' (a/Nat.gcd a b) b (ha.le (Nat.div_le_self _ _)) hb (HL.out.below hb')
    rw[lcm_quot a b h1] at this
    exact this
   clear h1 h2 L
   go_enter Tryz.func209,Tryz.ntmps209
   go_wp2_with fail
   refine cm_ Hgc.out ?_
   rintro e w1 ⟨rfl,hb1⟩
   have Hb1:=hd_ hb1
   clear hb1 Hgc
   go_wp2_with fail
   refine cm_ (Hdm.out w1 Hb1.out) ?_
   rintro e w2 ⟨rfl,hb2⟩
   have Hb2:=hd_ (Hb1.out.trans (hb2.mono Hb1.out.size))
   clear hb2 Hb1 Hdm
   go_wp2_with fail
   refine cm_ (Hml.out w2 Hb2.out) ?_
   rintro e w3 ⟨rfl,hb3⟩
   have Hb3:=hd_ (Hb2.out.trans (hb3.mono Hb2.out.size))
   clear hb3 Hb2 Hml
   go_wp2
   go_ret
   exact⟨rfl,Hb3.out⟩
theorem parseInt_itx(z:Int):Lib.parseIntB 64 (itx z).data.toList=if -9223372036854775808≤z∧z≤9223372036854775807 then .ok z else .range:=by
 have hpow:(2:Nat)^(64-1)=9223372036854775808:=by decide
 by_cases hz:z<0
 ·obtain⟨n,rfl⟩:∃ n:Nat,z = -(n:Int):=⟨z.natAbs,by omega⟩
  have hn:1≤n:=by omega
  have e:(itx (-(n:Int))).data.toList=45::Lib.decDigits n:=lb_itx_neg n hn
  rw[e]
  have hp:=parse_mag n
  have h45:(45:UInt8).toNat=45:=rfl
  by_cases hb:n<18446744073709551616
  ·rw[if_pos hb] at hp
   simp only[Lib.parseIntB,Lib.parseUintB_64,h45,or_true,if_true,hp,not_true_eq_false,false_and,if_false,true_and,hpow]
   by_cases h3:9223372036854775808<n
   ·rw[if_pos h3,if_neg (by omega)]
   ·rw[if_neg h3,if_pos (by omega)]
  ·rw[if_neg hb] at hp
   simp only[Lib.parseIntB,Lib.parseUintB_64,h45,or_true,if_true,hp]
   rw[if_neg (by omega)]
 ·obtain⟨n,rfl⟩:∃ n:Nat,z=(n:Int):=⟨z.natAbs,by omega⟩
  have e:(itx (n:Int)).data.toList=Lib.decDigits n:=by rw[itx_nat];exact lb_dec n
  rw[e]
  have hp:=parse_mag n
  obtain⟨c,r,hc,h1,h2⟩:=dec_cons n
  rw[hc] at hp ⊢
  have q1:¬ c.toNat=43:=by omega
  have q2:¬ c.toNat=45:=by omega
  by_cases hb:n<18446744073709551616
  ·rw[if_pos hb] at hp
   simp only[Lib.parseIntB,Lib.parseUintB_64,q1,q2,or_self,if_false,hp,not_false_eq_true,true_and,false_and,hpow]
   by_cases h3:9223372036854775808≤n
   ·rw[if_pos h3,if_neg (by omega)]
   ·rw[if_neg h3,if_pos (by omega)]
  ·rw[if_neg hb] at hp
   simp only[Lib.parseIntB,Lib.parseUintB_64,q1,q2,or_self,if_false,hp]
   rw[if_neg (by omega)]
theorem smallz_any(w:World)(z:Int)(hz:ZNum z)(L:Laid w):
  Gives Tryz.prog 239 #[.string (itx z)] w (if -9223372036854775808≤z∧z≤9223372036854775807 then .tuple #[.int .i64 z,.bool true] else .tuple #[.int .i64 0,.bool false]):=by
 unfold Gives
 have hz1:(dec z.natAbs).size≤1000000:=hz
 have hz2:=itx_size_le z
 have hp:=parseInt_itx z
 by_cases h : -9223372036854775808≤z∧z≤9223372036854775807
 ·rw[if_pos h] at hp ⊢
  have Hc:=hd_ (Tryz.strconv_ParseInt_10_at64_ok (itx z) (by omega) z hp w)
  have Hbb:=hd_ (fun t=>below_bytes w 5 t)
  clear hz1 hz2 hp
  generalize itx z=s at *
  have hwr:IntKind.i64.wrap z=z:=iw_ _ h
  go_enter Tryz.func239,Tryz.ntmps239
  go_wp2_with fail
  refine cm_ Hc.out ?_
  rintro e w1 ⟨rfl,hw⟩
  have Hb:Hid (Below w.heap.size w w1):=by
   show Below _ _ _
   rcases hw with rfl|⟨t,rfl⟩
   ·exact Below.refl _ _
   ·exact Hbb.out t
  clear hw
  go_wp2
  go_ret2
  exact⟨rfl,Hb.out⟩
 ·rw[if_neg h] at hp ⊢
  obtain⟨ev,hv,hev⟩:=L.range
  have Hc:=hd_ (Tryz.strconv_ParseInt_10_at64_range (itx z) (by omega) hp ev w hv hev)
  clear hp hv hev hz1 hz2
  generalize Lib.intSat 64 (itx z).data.toList=sat at *
  generalize itx z=s at *
  go_enter Tryz.func239,Tryz.ntmps239
  go_wp2_with fail
  refine cm_ Hc.out ?_
  rintro e w1 ⟨N,rfl,-,-,hb⟩
  have Hb:=hd_ hb
  clear hb
  go_wp2
  go_ret2
  exact⟨rfl,Hb.out⟩
theorem lcmz_any(w:World)(a b:Int)(ha:ZNum a)(hb:ZNum b)(L:Laid w):
  Gives Tryz.prog 170 #[.string (itx a),.string (itx b)] w (.string (dec (Int.lcm a b))):=by
 unfold Gives
 have Ha:=hd_ (fun W=>abs_any W a)
 have Hb':=hd_ (fun W=>abs_any W b)
 have Hlc:Hid (∀ W,Below w.heap.size w W→Gives Tryz.prog 209 #[.string (dec a.natAbs),.string (dec b.natAbs)] W (.string (dec (Int.lcm a b)))):=fun W hW=>lcm_any W a.natAbs b.natAbs ha hb (L.below hW)
 clear L
 generalize itx a=s at *
 generalize itx b=t at *
 generalize dec (Int.lcm a b)=d at *
 generalize dec a.natAbs=sm at *
 generalize dec b.natAbs=tm at *
 go_enter Tryz.func170,Tryz.ntmps170
 go_wp2_with fail
 refine cm_ (Ha.out w) ?_
 rintro e w1 ⟨rfl,hb1⟩
 have Hb1:=hd_ hb1
 clear hb1 Ha
 go_wp2_with fail
 refine cm_ (Hb'.out w1) ?_
 rintro e w2 ⟨rfl,hb2⟩
 have Hb2:=hd_ (Hb1.out.trans (hb2.mono Hb1.out.size))
 clear hb2 Hb1 Hb'
 go_wp2_with fail
 refine cm_ (Hlc.out w2 Hb2.out) ?_
 rintro e w3 ⟨rfl,hb3⟩
 have Hb3:=hd_ (Hb2.out.trans (hb3.mono Hb2.out.size))
 clear hb3 Hb2 Hlc
 go_wp2
 go_ret
 exact⟨rfl,Hb3.out⟩
end Go.Proofs.YtnjedhgcfeoemaaGreatDoor

namespace Go.Proofs.YtnjedhgcfeoemaaGreatDoor.RP
open Go Go.Sort Go.Proofs.YtnjedhgcfeoemaaGreatDoor
section
variable {P:Program} {ops:Array Oper} {md:Region.Mode} {C:World→Prop}
end
section
variable {P:Program} {ops:Array Oper} {md:Region.Mode} {C:World→Prop}
theorem walkT_any{s i:Nat}{Q:Act→World→Prop}{l:RTree}{b:Bool}{a:Act}{w:World}{lo:List Oper}(h:wpQuiet P lo.toArray (fun _=>True) (fun a'=>walkT P lo.toArray C s Q l b a' w) ((lo.drop i).take 1) a):walkT P lo.toArray C s Q (.rd 2 i l) b a w:=by
 simp only[walkT,pick_one]
 exact h
end
end Go.Proofs.YtnjedhgcfeoemaaGreatDoor.RP

namespace Go.Proofs.YtnjedhgcfeoemaaGreatDoor
open Go.RowKit
theorem tden_succ(l:List Rat)(k:Nat)(h:k<l.length):tden (l.take (k+1))=Nat.lcm (tden (l.take k)) l[k].den:=by
 unfold tden
 rw[List.take_add_one,List.getElem?_eq_getElem h,List.foldl_append];rfl
theorem tden_pos(l:List Rat):∀ k,k≤l.length→0<tden (l.take k)
 | 0,_=>Nat.one_pos
 | k+1,h=>by
  rw[tden_succ l k (by omega)]
  exact Nat.lcm_pos (tden_pos l k (by omega)) l[k].den_pos
theorem tden_lt(l:List Rat)(D:Nat)(hs:∀ q∈l,Sm D q):∀ k,k≤l.length→tden (l.take k)<10^(1+k*D)
 | 0,_=>by show 1<10^(1+0*D);rw[Nat.zero_mul];decide
 | k+1,h=>by
  rw[tden_succ l k (by omega)]
  have h1:=tden_lt l D hs k (by omega)
  have h2:=(hs _ (List.getElem_mem (show k<l.length by omega))).2
  have h3:=pow_ten_mul h1 h2
  have h4:Nat.lcm (tden (l.take k)) l[k].den≤tden (l.take k)*l[k].den:=Nat.le_of_dvd (Nat.mul_pos (tden_pos l k (by omega)) l[k].den_pos) (Nat.lcm_dvd_mul _ _)
  rw[show 1+(k+1)*D=1+k*D+D by rw[Nat.add_mul];omega]
  omega
theorem tlist_succ(D:Nat)(ps:List Int)(l:List Rat)(k:Nat)(h1:k<ps.length)(h2:k<l.length):
  tlist D (ps.take (k+1)) (l.take (k+1))=tlist D (ps.take k) (l.take k)++(if l[k].num=0 then [] else [(ps[k],l[k].num*((D/l[k].den:Nat):Int))]):=by
 unfold tlist
 have e:∀ n,(ps.take n).zip (l.take n)=(ps.zip l).take n:=fun n=>(List.take_zipWith ..).symm
 rw[e,e,List.take_add_one,List.getElem?_eq_getElem (by rw[List.length_zip];omega),List.filterMap_append]
 congr 1
 rw[List.getElem_zip]
 by_cases h:l[k].num=0
 ·rw[if_pos h]
  show List.filterMap _ [(ps[k],l[k])]=[]
  rw[List.filterMap_cons]
  rw[if_pos h];rfl
 ·rw[if_neg h]
  show List.filterMap _ [(ps[k],l[k])]=_
  rw[List.filterMap_cons]
  rw[if_neg h];rfl
theorem tlist_length(D:Nat)(ps:List Int)(l:List Rat):(tlist D ps l).length≤l.length:=by
 unfold tlist
 refine Nat.le_trans (List.length_filterMap_le _ _) ?_
 rw[List.length_zip];omega
theorem strs_append(l m:List ByteArray):strs (l++m)=strs l++strs m:=by simp[strs]
def termsV (v1 v2:Value) (d:Nat):Value := .agg #[v1,v2,.string (dec d)]
theorem infoP:(Tryz.prog.info? 3).map (fun i=>(i.zero,i.size,i.bytes))=some (some (.int .i64 0),1,8):=by kernel_rfl
def TermsOut (w:World) (tl:List (Int×Int)) (D:Nat) (e:Ending) (w':World):Prop :=
 ∃ b1 d1 b2 d2,e = .returned (termsV (.slice b1 tl.length d1) (.slice b2 tl.length d2) D)∧Rd w' b1 (ints (tl.map Prod.fst))∧Rd w' b2 (strs (tl.map fun x=>itx x.2))∧Below w.heap.size w w'
theorem obj_set{w:World}{g:Nat}{cs:Array Value}{t:TypeId}(h:w.heap[g]?=some (.cells cs t (0,0)))(j:Nat)(x:Value):
  (w.setCell ⟨g,j,none⟩ x).heap[g]?=some (.cells (cs.setIfInBounds j x) t (0,0)):=by
 simp[World.setCell,Array.getElem?_modify,h]
theorem obj_other{w:World}{g k:Nat}(h:g≠k)(j:Nat)(x:Value):(w.setCell ⟨g,j,none⟩ x).heap[k]?=w.heap[k]?:=by
 simp[World.setCell,Array.getElem?_modify,h]
section
variable {b5 g9:Nat} {v1 v2 v3 x0 x1:Value} {p:Addr} {vp:Value}
end
section
variable {w:World} {s1 s2:Value} {D:Nat} {V1:Value} {n1:Nat} {L1:List Value} {V2:Value} {n2:Nat} {L2:List Value} {wr:World}
theorem TT.grow1{w':World}(h:TT w s1 s2 D V1 n1 L1 V2 n2 L2 wr){V':Value}{n':Nat}{L':List Value}(own:w'.ownsRow (w.heap.size+2) 3 1 V' n' L')(hg:wr.grownBy w' V1.ownBlock)
  (hat:V'.ownBlock=V1.ownBlock∨V'.ownBlock=some wr.heap.size):TT w s1 s2 D V' n' L' V2 n2 L2 w':=by
 have hlow:∀ k,k<w.heap.size+2→w'.heap[k]?=wr.heap[k]?:=fun k hk=>hg.block k (by have:=h.siz;omega) (fun e=>by have:=(World.ownsRow.lt h.o1 k e.symm).1;omega)
 refine⟨(hlow _ (by omega)).trans h.h4,(hlow _ (by omega)).trans h.h5,own,?_,?_,?_,Nat.le_trans h.siz hg.size⟩
 ·refine World.ownsRow.kept h.o2 hg ?_
  cases hv:V1.ownBlock with
  | none=>cases hv2:V2.ownBlock<;>simp
  | some k=>exact .inr (h.ap k hv)
 ·intro k hk
  rcases hat with e|e
  ·exact h.ap k (by rw[← e];exact hk)
  ·intro h2
   have h3:=(World.ownsRow.lt h.o2 k h2).2
   rw[e] at hk
   injection hk with hk
   omega
 ·exact h.bel.grown hg (by have:=h.siz;omega) (fun k hk=>by have:=(World.ownsRow.lt h.o1 k hk).1;omega)
theorem TT.grow2{w':World}(h:TT w s1 s2 D V1 n1 L1 V2 n2 L2 wr){V':Value}{n':Nat}{L':List Value}(own:w'.ownsRow (w.heap.size+2) 25 1 V' n' L')(hg:wr.grownBy w' V2.ownBlock)
  (hat:V'.ownBlock=V2.ownBlock∨V'.ownBlock=some wr.heap.size):TT w s1 s2 D V1 n1 L1 V' n' L' w':=by
 have hlow:∀ k,k<w.heap.size+2→w'.heap[k]?=wr.heap[k]?:=fun k hk=>hg.block k (by have:=h.siz;omega) (fun e=>by have:=(World.ownsRow.lt h.o2 k e.symm).1;omega)
 refine⟨(hlow _ (by omega)).trans h.h4,(hlow _ (by omega)).trans h.h5,?_,own,?_,?_,Nat.le_trans h.siz hg.size⟩
 ·refine World.ownsRow.kept h.o1 hg ?_
  cases hv:V2.ownBlock with
  | none=>cases hv2:V1.ownBlock<;>simp
  | some k=>exact .inr (fun h1=>h.ap k h1 hv)
 ·intro k hk
  rcases hat with e|e
  ·rw[e];exact h.ap k hk
  ·rw[e]
   intro h2
   have h3:=(World.ownsRow.lt h.o1 k hk).2
   injection h2 with h2
   omega
 ·exact h.bel.grown hg (by have:=h.siz;omega) (fun k hk=>by have:=(World.ownsRow.lt h.o2 k hk).1;omega)
theorem TT.store1(h:TT w s1 s2 D V1 n1 L1 V2 n2 L2 wr)(x:Value):TT w x s2 D V1 n1 L1 V2 n2 L2 (wr.setCell ⟨w.heap.size+1,0,none⟩ x):=by
 refine⟨(obj_other (by omega) _ _).trans h.h4,(obj_set h.h5 0 x).trans rfl,?_,?_,h.ap,h.bel.setCell (p:=⟨w.heap.size+1,0,none⟩) (by simp) _,by simpa using h.siz⟩
 ·exact ownsRow_setCell_below h.o1 (by show w.heap.size+1<w.heap.size+2;omega) _
 ·exact ownsRow_setCell_below h.o2 (by show w.heap.size+1<w.heap.size+2;omega) _
theorem TT.store2(h:TT w s1 s2 D V1 n1 L1 V2 n2 L2 wr)(x:Value):TT w s1 x D V1 n1 L1 V2 n2 L2 (wr.setCell ⟨w.heap.size+1,1,none⟩ x):=by
 refine⟨(obj_other (by omega) _ _).trans h.h4,(obj_set h.h5 1 x).trans rfl,?_,?_,h.ap,h.bel.setCell (p:=⟨w.heap.size+1,1,none⟩) (by simp) _,by simpa using h.siz⟩
 ·exact ownsRow_setCell_below h.o1 (by show w.heap.size+1<w.heap.size+2;omega) _
 ·exact ownsRow_setCell_below h.o2 (by show w.heap.size+1<w.heap.size+2;omega) _
end
abbrev TS (w:World) (tl:List (Int×Int)) (D:Nat) (b1:Option Addr) (d1:Nat) (b2:Option Addr) (d2:Nat) (wr:World):Prop :=
 TT w (.slice b1 tl.length d1) (.slice b2 tl.length d2) D (.slice b1 tl.length d1) tl.length (ints (tl.map Prod.fst)) (.slice b2 tl.length d2) tl.length (strs (tl.map fun x=>itx x.2)) wr
theorem termsOf_any(w:World)(a1 a2:Option Addr)(c1 c2:Nat)(ps:List Int)(l:List Rat)(D:Nat)(hp:Rd w a1 (ints ps))(hr:Rd w a2 (cellsQ l))(hpl:ps.length=l.length)
  (hs:∀ q∈l,Sm D q) (hl:l.length≤1000) (hD:3+(l.length+2)*D≤900000) (L:Laid w) :
  Calls Tryz.prog 100 #[.slice a1 ps.length c1,.slice a2 l.length c2] w (TermsOut w (tlist (tden l) ps l) (tden l)):=by
 have HL:=hd_ L
 have Hs:=hd_ hs
 have Hr:=hd_ hr
 have Hp:=hd_ hp
 have HD:=hd_ hD
 have Hpl:=hd_ hpl
 rw[hpl]
 clear hs hr hp L hD hpl
 generalize hn:l.length=n at *
 have Hn:=hd_ hn
 clear hn
 go_enter Tryz.func100,Tryz.ntmps100
 go_wp2_with fail
 go_loopw [16] (fun i wr=>∃ k:Nat,k≤n∧i = .int .i64 k∧Hid (wr.heap[w.heap.size]?=some (termsO (.slice none 0 0) (.slice none 0 0) ⟨#[]⟩))∧Hid (wr.heap[w.heap.size+1]?=some (termsO (.slice none 0 0) (.slice none 0 0) (dec (tden (l.take k)))))∧Hid (Below w.heap.size w wr)) (fun i _=>n-(intOf i).toNat)
 case atStart =>
  refine⟨0,Nat.zero_le _,rfl,?_,?_,?_⟩
  ·show _=_
   rw[Go.heap_alloc_old _ _ (by simp)]
   exact Go.heap_alloc_new _ _
  ·show _=_
   have:=Go.heap_alloc_new (w.alloc (Obj.cells #[Value.slice none 0 0,Value.slice none 0 0,Value.string { data := #[] }] 163)) (Obj.cells #[Value.slice none 0 0,Value.slice none 0 0,Value.string { data := #[49] }] 163)
   rw[World.size_alloc] at this
   rw[this,show tden (l.take 0)=1 from rfl,dec_one];rfl
  ·exact((Below.refl w.heap.size w).alloc nr_ _).alloc (by simp) _
 case round =>
  obtain⟨k,hk,rfl,H4,H5,Hb⟩:=hrel
  by_cases hlt:k<n
  ·have hlt':(k:Int)<n:=by omega
   have hkl:k<l.length:=by rw[Hn.out];exact hlt
   obtain⟨b,off,rfl,hb,hcells⟩:=Hr.out.open (by rw[cellsQ_length];omega)
   obtain⟨c0,c1⟩:=cellsS_rd hcells k (by rw[List.length_map];exact hkl)
   rw[← Hb.out.cell (p:=⟨b,off+k*2,none⟩) hb,qs_getD _ k hkl] at c0
   rw[← Hb.out.cell (p:=⟨b,off+k*2+1,none⟩) hb,qs_getD _ k hkl] at c1
   have Hsucc:Hid (tden (l.take (k+1))=Nat.lcm (tden (l.take k)) l[k].den):=tden_succ l k hkl
   have hsm:=Hs.out _ (List.getElem_mem hkl)
   have htl:=tden_lt l D Hs.out k (by omega)
   have hkD:k*D≤(n+2)*D:=Nat.mul_le_mul_right _ (by omega)
   have hDD:=HD.out
   have hDpos:=hsm.pos
   have hD1:1*D≤(n+2)*D:=Nat.mul_le_mul_right _ (by omega)
   have Hlc:Hid (∀ W,Below w.heap.size w W→Gives Tryz.prog 170 #[.string (dec (tden (l.take k))),.string (dec l[k].den)] W (.string (dec (Nat.lcm (tden (l.take k)) l[k].den)))):=fun W hW=>by
    have:=lcmz_any W (tden (l.take k):Int) (l[k].den:Int) (num_pow htl (by omega) (by omega)) (num_pow hsm.2 hDpos (by omega)) (HL.out.below hW)
    rw[itx_nat,itx_nat,Int.lcm_natCast_natCast] at this
    exact this
   clear hcells hsm htl hkD hDD hDpos hD1
   generalize l[k]=q at *
   generalize tden (l.take k)=d at *
   generalize Nat.lcm d q.den=d2 at *
   simp only[qs] at c0 c1
   have Hb0:=hd_ (Hb.out.alloc Hb.out.size (.cells #[.string (itx q.num),.string (dec q.den)] 42))
   have Hwr:=hd_ ((Below.refl wr.heap.size wr).alloc nr_ (.cells #[.string (itx q.num),.string (dec q.den)] 42))
   have Hnew:Hid ((wr.alloc (.cells #[.string (itx q.num),.string (dec q.den)] 42)).heap[wr.heap.size]?=some (.cells #[.string (itx q.num),.string (dec q.den)] 42 (0,0))):=heap_alloc_new wr _
   have H5a:=hd_ ((Hwr.out.block _ (Array.getElem?_eq_some_iff.1 H5.out).1).trans H5.out)
   have H4a:=hd_ ((Hwr.out.block _ (Array.getElem?_eq_some_iff.1 H4.out).1).trans H4.out)
   obtain⟨k0,k1,-,-⟩:=two_cells Hnew.out
   obtain⟨m0,m1,m2,m3⟩:=obj_cells3 H5a.out
   clear m3
   go_wp2_with fail
   generalize wr.alloc (.cells #[.string (itx q.num),.string (dec q.den)] 42)=W0 at *
   clear c0 c1 k0 k1 m0 m1 m2 Hnew H4 H5 Hwr
   refine cm_ (Hlc.out _ Hb0.out) ?_
   rintro e w1 ⟨rfl,hb1⟩
   have H5b:=hd_ ((hb1.block _ (Array.getElem?_eq_some_iff.1 H5a.out).1).trans H5a.out)
   have H4b:=hd_ ((hb1.block _ (Array.getElem?_eq_some_iff.1 H4a.out).1).trans H4a.out)
   have Hb1:=hd_ (Hb0.out.trans (hb1.mono Hb0.out.size))
   clear hb1 Hlc Hb0 H5a H4a
   obtain⟨m0,m1,m2,m3⟩:=obj_cells3 H5b.out
   have f2:=m3 2
   clear m3
   go_wp2
   go_roundw
   case rel =>
    refine⟨k+1,by omega,by go_num,?_,?_,?_⟩
    ·show _=_
     rw[obj_other (by omega)];exact H4b.out
    ·show _=_
     rw[obj_set H5b.out,Hsucc.out];rfl
    ·exact Hb1.out.setCell (p:=⟨w.heap.size+1,2,none⟩) (by simp) _
   case measure=>simp[intOf];omega
  ·have hlt':¬ (k:Int)<n:=by omega
   have hkn:k=n:=by omega
   subst hkn
   rw[show l.take k=l by rw[← Hn.out,List.take_length]] at H5
   have Hts0:Hid (TS w (tlist (tden l) (ps.take 0) (l.take 0)) (tden l) none 0 none 0 wr) :=
    ⟨H4.out,H5.out,World.ownsRow_nil ..,World.ownsRow_nil ..,fun k hk=>by simp[Value.ownBlock] at hk,Hb.out,(Array.getElem?_eq_some_iff.1 H5.out).1⟩
   have Htl:=hd_ (fun j hj=>tden_lt l D Hs.out j hj)
   clear H4 H5 Hb
   go_wp2_with fail
   have hDp:=tden_pos l l.length nr_
   rw[List.take_length] at hDp
   have Hdp:=hd_ hDp
   have Hdl:Hid (tden l<10^(1+k*D)):=by
    show _<_
    have:=Htl.out l.length nr_
    rw[List.take_length,Hn.out] at this
    exact this
   clear hDp Htl
   have Hw0:=hd_ Hts0.out.bel
   go_loopw [29] (fun i wr=>∃ (j:Nat) (b1:Option Addr) (d1:Nat) (b2:Option Addr) (d2:Nat),j≤k∧i = .int .i64 j∧Hid (TS w (tlist (tden l) (ps.take j) (l.take j)) (tden l) b1 d1 b2 d2 wr)) (fun i _=>k-(intOf i).toNat)
   case atStart=>exact⟨0,none,0,none,0,Nat.zero_le _,rfl,Hts0⟩
   case round =>
    obtain⟨j,b1,d1,b2,d2,hj,rfl,Hts⟩:=hrel
    by_cases hlt2:j<k
    ·have hlt2':(j:Int)<k:=by omega
     have hjl:j<l.length:=by rw[Hn.out];exact hlt2
     have hjp:j<ps.length:=by rw[Hpl.out];exact hlt2
     obtain⟨b,off,rfl,hb,hcells⟩:=Hr.out.open (by rw[cellsQ_length];omega)
     obtain⟨c0,c1⟩:=cellsS_rd hcells j (by rw[List.length_map];exact hjl)
     rw[← Hts.out.bel.cell (p:=⟨b,off+j*2,none⟩) hb,qs_getD _ j hjl] at c0
     rw[← Hts.out.bel.cell (p:=⟨b,off+j*2+1,none⟩) hb,qs_getD _ j hjl] at c1
     have Hsucc:=hd_ (tlist_succ (tden l) ps l j hjp hjl)
     have hsm:=Hs.out _ (List.getElem_mem hjl)
     have hq:=itx_isz l[j].num
     obtain⟨bp,op,rfl,hbp,hcp⟩:=Hp.out.open (by rw[ints_length];omega)
     have Hcp:Hid (w.cell? ⟨bp,op+j,none⟩=some (.int .i64 ps[j])):=hcp j _ (ints_get ps j hjp)
     clear hcells hcp
     generalize l[j]=q at *
     simp only[qs] at c0 c1
     have Hwr:=hd_ ((Below.refl wr.heap.size wr).alloc nr_ (.cells #[.string (itx q.num),.string (dec q.den)] 42))
     have Hnew:Hid ((wr.alloc (.cells #[.string (itx q.num),.string (dec q.den)] 42)).heap[wr.heap.size]?=some (.cells #[.string (itx q.num),.string (dec q.den)] 42 (0,0))):=heap_alloc_new wr _
     have Hts1:=hd_ (Hts.out.next Hwr.out)
     have Hlo1:=hd_ (fun k hk=>(World.ownsRow.lt Hts.out.o1 k hk).2)
     have Hlo2:=hd_ (fun k hk=>(World.ownsRow.lt Hts.out.o2 k hk).2)
     have Hmx:=hd_ (tlist_length (tden l) (ps.take j) (l.take j))
     obtain⟨k0,k1,-,-⟩:=two_cells Hnew.out
     by_cases hz:q.num=0
     ·rw[if_pos hz,List.append_nil] at Hsucc
      rw[decide_eq_true hz] at hq
      clear hz Hnew Hwr Hts hsm
      go_wp2
      go_roundw
      case rel=>exact⟨j+1,b1,d1,b2,d2,by omega,by go_num,by rw[Hsucc.out];exact Hts1⟩
      case measure=>simp[intOf];omega
     ·rw[if_neg hz] at Hsucc
      rw[decide_eq_false hz] at hq
      clear hz
      obtain⟨m0,m1,m2,m3⟩:=obj_cells3 Hts1.out.h5
      clear m3
      have hDD:=HD.out
      have hDpos:=hsm.pos
      have hkD:(k+2)*D=k*D+2*D:=by rw[Nat.add_mul]
      have h10:10^(1+k*D)<10^(1+k*D+1):=Nat.pow_lt_pow_right (by decide) (by omega)
      have hdl:=Hdl.out
      have Hdm:Hid (∀ W,Below w.heap.size w W→Gives Tryz.prog 163 #[.string (dec (tden l)),.string (dec q.den)] W (.tuple #[.string (dec (tden l/q.den)),.string (itx ((tden l:Int)%(q.den:Int))),.int .i64 0])):=fun W hW=>by
       have:=divmodz_any W (tden l:Int) q.den (num_pow hdl (by omega) (by omega)) (num_pow hsm.2 hDpos (by omega)) q.den_pos (num_pow (D:=1+k*D+1) (show (tden l+1)<10^(1+k*D+1) by omega) (by omega) (by omega)) (HL.out.below hW)
       rw[itx_nat,← Int.natCast_ediv,itx_nat] at this
       exact this
      have hdv:tden l/q.den≤tden l:=Nat.div_le_self _ _
      have hpr:(q.num*((tden l/q.den:Nat):Int)).natAbs<10^(D+(1+k*D)):=by
       rw[Int.natAbs_mul];exact pow_ten_mul hsm.1 (Nat.lt_of_le_of_lt hdv hdl)
      have Hmu:Hid (∀ W,Below w.heap.size w W→Gives Tryz.prog 115 #[.string (itx q.num),.string (dec (tden l/q.den))] W (.string (itx (q.num*((tden l/q.den:Nat):Int))))):=fun W hW=>by
       have:=mulz_any W q.num ((tden l/q.den:Nat):Int) (num_pow hsm.1 hDpos (by omega)) (num_pow (Nat.lt_of_le_of_lt hdv hdl) (by omega) (by omega)) (num_pow hpr (by omega) (by omega)) (HL.out.below hW)
       rw[itx_nat] at this
       exact this
      clear hDD hDpos hkD h10 hdl hdv hpr hsm
      generalize hfq:q.num*((tden l/q.den:Nat):Int)=fq at *
      have Hfq:=hd_ hfq
      clear hfq
      generalize dec (tden l/q.den)=sq at *
      go_wp2_with fail
      generalize wr.alloc (.cells #[.string (itx q.num),.string (dec q.den)] 42)=W0 at *
      clear c0 c1 k0 k1 m0 m1 m2
      refine cm_ (Hdm.out _ Hts1.out.bel) ?_
      rintro e w1 ⟨rfl,hb1⟩
      have Hnew1:=hd_ (stored_cell Hnew.out hb1)
      have Hts2:=hd_ (Hts1.out.next hb1)
      clear hb1 Hdm Hts1 Hnew Hwr Hts
      obtain⟨k0,k1,-,-⟩:=two_cells Hnew1.out
      obtain⟨m0,m1,m2,m3⟩:=obj_cells3 Hts2.out.h5
      have f0:=m3 0
      have f1:=m3 1
      clear m3
      go_wp2_with fail
      have Hcq:Hid (w1.cell? ⟨bp,op+j,none⟩=some (.int .i64 ps[j])):=(Hts2.out.bel.cell (p:=⟨bp,op+j,none⟩) hbp).trans Hcp.out
      generalize ps[j]=pj at *
      refine RP.wp_region_readers 17 [(1,0),(1,1),(1,2),(1,3),(1,4),(1,5),(1,8),(1,9),(1,10),(1,11),(2,12),(0,6),(0,7),(2,16),(0,13),(0,14),(0,15),(0,17),(2,18),(0,19)]
       (fun w'=>∃ p:TW (w.heap.size+1) wr.heap.size (.slice b1 (tlist (tden l) (ps.take j) (l.take j)).length d1) (.slice b2 (tlist (tden l) (ps.take j) (l.take j)).length d2) (.string (dec (tden l))) (.string (itx q.num)) (.string (dec q.den)) ⟨bp,op+j,none⟩ (.int .i64 pj),w'=p.w)
       (by kernel_rfl) (by kernel_rfl) ?_ ?_
      ·exact⟨⟨{ w1 with drawn:=w1.drawn+1 },Hts2.out.h5,Hnew1.out,Hcq.out⟩,rfl⟩
      have q0:=@TW.q0
      have q1:=@TW.q1
      have q2:=@TW.q2
      have q3:=@TW.hp
      have hne:Nonempty (TW (w.heap.size+1) wr.heap.size (.slice b1 (tlist (tden l) (ps.take j) (l.take j)).length d1) (.slice b2 (tlist (tden l) (ps.take j) (l.take j)).length d2) (.string (dec (tden l))) (.string (itx q.num)) (.string (dec q.den)) ⟨bp,op+j,none⟩ (.int .i64 pj)):=⟨⟨w1,Hts2.out.h5,Hnew1.out,Hcq.out⟩⟩
      iterate 10 (refine RP.walkR_read ?_;simp only[dsc_,dz_,tsc_,tz_];go_big_quiet_step (fail);refine wpQuiet_nil ?_)
      refine RP.walkR_any ?_
      simp only[dsc_,dz_,tsc_,tz_]
      go_big_quiet_step (fail)
      refine wpQuiet_nil ?_
      clear q0 q1 q2 q3 hne
      refine RP.walkR_move ?_
      simp only[dsc_,dz_,tsc_,tz_]
      go_wp2_with fail
      have Hts3:=hd_ (Hts2.out.next (w':=(w1.alloc (Obj.cells #[Value.int IntKind.i64 pj] 3)).drew) ((Below.refl w1.heap.size w1).alloc nr_ _).drew)
      have Hb13:=hd_ ((((Below.refl w1.heap.size w1).alloc nr_ (Obj.cells #[Value.int IntKind.i64 pj] 3)).drew))
      have Hnew3:=hd_ (stored_cell Hnew1.out Hb13.out)
      have Hone:Hid (∀ jj u,[Value.int IntKind.i64 pj][jj]?=some u→((w1.alloc (Obj.cells #[Value.int IntKind.i64 pj] 3)).drew).cell? ((⟨w1.heap.size,0,none⟩:Addr).add jj)=some u):=fun jj u hj=>cell_one_new w1 _ _ jj u hj
      have hgl:wr.heap.size<w1.heap.size:=(Array.getElem?_eq_some_iff.1 Hnew1.out).1
      have Hsz13:Hid (w1.heap.size<((w1.alloc (Obj.cells #[Value.int IntKind.i64 pj] 3)).drew).heap.size):=by show _<_;show w1.heap.size<(w1.alloc _).heap.size;simp
      have Hcq3:Hid (((w1.alloc (Obj.cells #[Value.int IntKind.i64 pj] 3)).drew).cell? ⟨bp,op+j,none⟩=some (.int .i64 pj)):=(Hb13.out.cell (p:=⟨bp,op+j,none⟩) (block_lt_of_cell Hcq.out)).trans Hcq.out
      generalize (w1.alloc (Obj.cells #[Value.int IntKind.i64 pj] 3)).drew=w3 at *
      refine⟨⟨⟨w3,Hts3.out.h5,Hnew3.out,Hcq3.out⟩,rfl⟩,?_⟩
      refine RP.walkR_move ?_
      simp only[dsc_,dz_,tsc_,tz_]
      obtain⟨iP,hi,hz0,hz1,hz2⟩:=info_parts infoP
      refine wpList_append_own_at w3 rfl (.tmp 47) (.tmp 52) 36 rfl (w.heap.size+2) 3 iP (.int .i64 0) 1 8 Tryz.underlying36 hi hz0 hz1 hz2 rfl (by decide) _ _ _ rfl Hts3.out.o1 ⟨w1.heap.size,0,none⟩ 1 1 [.int .i64 pj] rfl rfl Hone.out (by simp[Value.oneCell']) (by have:=Hmx.out;rw[List.length_take] at this;unfold maxLen;omega) (by have:=Hmx.out;rw[List.length_take] at this;omega) Hts3.out.siz ?_
      intro v' w4 own4 hg4 hnil4 hat4
      have Hts4:=hd_ (Hts3.out.grow1 own4 hg4 hat4)
      obtain⟨e1,f1c,rfl⟩:=own_form own4
      have Hnew4:Hid (w4.heap[wr.heap.size]?=some (.cells #[.string (itx q.num),.string (dec q.den)] 42 (0,0))):=by
       show _=_
       rw[hg4.block _ (Array.getElem?_eq_some_iff.1 Hnew3.out).1 (fun e=>by have:=Hlo1.out _ e.symm;omega)]
       exact Hnew3.out
      have Hcq4:Hid (w4.cell? ⟨bp,op+j,none⟩=some (.int .i64 pj)):=(Hts4.out.bel.cell (p:=⟨bp,op+j,none⟩) hbp).trans Hcp.out
      clear own4 hg4 hnil4 hat4
      go_wp2_with fail
      refine⟨⟨⟨w4,Hts4.out.h5,Hnew4.out,Hcq4.out⟩,rfl⟩,?_⟩
      refine RP.walkR_any ?_
      simp only[dsc_,dz_,tsc_,tz_]
      go_big_quiet_step (fail)
      refine wpQuiet_nil ?_
      -- the factor
      refine RP.walkR_move ?_
      simp only[dsc_,dz_,tsc_,tz_]
      go_wp2_with fail
      refine cm_ (Hmu.out _ Hts4.out.bel) ?_
      rintro e w5 ⟨rfl,hb5⟩
      have Hts5:=hd_ (Hts4.out.next hb5)
      have Hnew5:=hd_ (stored_cell Hnew4.out hb5)
      have Hcq5:Hid (w5.cell? ⟨bp,op+j,none⟩=some (.int .i64 pj)):=(Hts5.out.bel.cell (p:=⟨bp,op+j,none⟩) hbp).trans Hcp.out
      clear hb5 Hmu
      go_wp2_with fail
      refine⟨⟨⟨w5,Hts5.out.h5,Hnew5.out,Hcq5.out⟩,rfl⟩,?_⟩
      refine RP.walkR_move ?_
      simp only[dsc_,dz_,tsc_,tz_]
      go_wp2_with fail
      have Hb56:=hd_ ((Below.refl w5.heap.size w5).alloc nr_ (Obj.cells #[Value.string (itx fq)] 25))
      have Hts6:=hd_ (Hts5.out.next Hb56.out)
      have Hnew6:=hd_ (stored_cell Hnew5.out Hb56.out)
      have Hone6:Hid (∀ jj u,[Value.string (itx fq)][jj]?=some u→(w5.alloc (Obj.cells #[Value.string (itx fq)] 25)).cell? ((⟨w5.heap.size,0,none⟩:Addr).add jj)=some u):=fun jj u hj=>cell_one_new w5 _ _ jj u hj
      have Hcq6:Hid ((w5.alloc (Obj.cells #[Value.string (itx fq)] 25)).cell? ⟨bp,op+j,none⟩=some (.int .i64 pj)):=(Hts6.out.bel.cell (p:=⟨bp,op+j,none⟩) hbp).trans Hcp.out
      generalize w5.alloc (Obj.cells #[Value.string (itx fq)] 25)=w6 at *
      refine⟨⟨⟨w6,Hts6.out.h5,Hnew6.out,Hcq6.out⟩,rfl⟩,?_⟩
      refine RP.walkR_move ?_
      simp only[dsc_,dz_,tsc_,tz_]
      obtain⟨iZ,hiZ,hzZ0,hzZ1,hzZ2⟩:=info_parts infoZ
      refine wpList_append_own_at w6 rfl (.tmp 55) (.tmp 60) 132 rfl (w.heap.size+2) 25 iZ (.string ⟨#[]⟩) 1 16 Tryz.underlying132 hiZ hzZ0 hzZ1 hzZ2 rfl (by decide) _ _ _ rfl Hts6.out.o2 ⟨w5.heap.size,0,none⟩ 1 1 [.string (itx fq)] rfl rfl Hone6.out (by simp[Value.oneCell']) (by have:=Hmx.out;rw[List.length_take] at this;unfold maxLen;omega) (by have:=Hmx.out;rw[List.length_take] at this;omega) Hts6.out.siz ?_
      intro v' w7 own7 hg7 hnil7 hat7
      have Hts7:=hd_ (Hts6.out.grow2 own7 hg7 hat7)
      obtain⟨e2,f2c,rfl⟩:=own_form own7
      have Hnew7:Hid (w7.heap[wr.heap.size]?=some (.cells #[.string (itx q.num),.string (dec q.den)] 42 (0,0))):=by
       show _=_
       rw[hg7.block _ (Array.getElem?_eq_some_iff.1 Hnew6.out).1 (fun e=>by have:=Hlo2.out _ e.symm;omega)]
       exact Hnew6.out
      have Hcq7:Hid (w7.cell? ⟨bp,op+j,none⟩=some (.int .i64 pj)):=(Hts7.out.bel.cell (p:=⟨bp,op+j,none⟩) hbp).trans Hcp.out
      clear own7 hg7 hnil7 hat7
      go_wp2_with fail
      refine⟨⟨⟨w7,Hts7.out.h5,Hnew7.out,Hcq7.out⟩,rfl⟩,?_⟩
      -- the stores
      obtain⟨m0,m1,m2,m3⟩:=obj_cells3 Hts7.out.h5
      have f0:=m3 0
      have f1:=m3 1
      clear m3
      refine RP.walkR_move ?_
      simp only[dsc_,dz_,tsc_,tz_]
      go_wp2_with fail
      have Hts8:=hd_ (Hts7.out.store1 (Value.slice e1 ((tlist (tden l) (List.take j ps) (List.take j l)).length+1) f1c))
      clear m0 m1 m2 f0 f1
      generalize w7.setCell { block:=w.heap.size+1,off:=0 } (Value.slice e1 ((tlist (tden l) (List.take j ps) (List.take j l)).length+1) f1c)=w8 at *
      refine RP.walkR_any ?_
      simp only[dsc_,dz_,tsc_,tz_]
      go_big_quiet_step (fail)
      refine wpQuiet_nil ?_
      obtain⟨m0,m1,m2,m3⟩:=obj_cells3 Hts8.out.h5
      have f0:=m3 0
      have f1:=m3 1
      clear m3
      refine RP.walkR_move ?_
      simp only[dsc_,dz_,tsc_,tz_]
      go_wp2_with fail
      have Hts9:=hd_ (Hts8.out.store2 (Value.slice e2 ((tlist (tden l) (List.take j ps) (List.take j l)).length+1) f2c))
      clear m0 m1 m2 f0 f1
      generalize w8.setCell { block:=w.heap.size+1,off:=1 } (Value.slice e2 ((tlist (tden l) (List.take j ps) (List.take j l)).length+1) f2c)=w9 at *
      simp only[RP.walkR]
      go_wp2
      go_roundw
      case rel =>
       refine⟨j+1,e1,f1c,e2,f2c,by omega,by go_num,?_⟩
       show TS _ _ _ _ _ _ _ _
       rw[Hsucc.out]
       unfold TS
       simp only[List.map_append,List.length_append,List.length_cons,List.length_nil,ints_append,strs_append,List.map_cons,List.map_nil]
       exact Hts9.out
      case measure=>simp[intOf];omega
    ·have hlt2':¬ (j:Int)<k:=by omega
     have hjk:j=k:=by omega
     subst hjk
     have hfull:tlist (tden l) (ps.take j) (l.take j)=tlist (tden l) ps l:=by
      rw[show ps.take j=ps by rw[← Hpl.out,List.take_length],show l.take j=l by rw[← Hn.out,List.take_length]]
     rw[hfull] at Hts
     clear hfull Hts0 Hdp Hdl Hw0
     obtain⟨m0,m1,m2,m3⟩:=obj_cells3 Hts.out.h5
     clear m3
     obtain⟨r0,r1,r2,r3⟩:=obj_cells3 Hts.out.h4
     have f0:=r3 0
     have f1:=r3 1
     have f2:=r3 2
     clear r3
     go_wp2_with fail
     have h10:=obj_set (obj_set (obj_set Hts.out.h4 0 (Value.slice b1 (tlist (tden l) ps l).length d1)) 1 (Value.slice b2 (tlist (tden l) ps l).length d2)) 2 (.string (dec (tden l)))
     have o1:=own_rd (ownsRow_setCell_below (ownsRow_setCell_below (ownsRow_setCell_below Hts.out.o1 (a:=⟨w.heap.size,0,none⟩) (by show w.heap.size<w.heap.size+2;omega) (Value.slice b1 (tlist (tden l) ps l).length d1)) (a:=⟨w.heap.size,1,none⟩) (by show w.heap.size<w.heap.size+2;omega) (Value.slice b2 (tlist (tden l) ps l).length d2)) (a:=⟨w.heap.size,2,none⟩) (by show w.heap.size<w.heap.size+2;omega) (.string (dec (tden l))))
     have o2:=own_rd (ownsRow_setCell_below (ownsRow_setCell_below (ownsRow_setCell_below Hts.out.o2 (a:=⟨w.heap.size,0,none⟩) (by show w.heap.size<w.heap.size+2;omega) (Value.slice b1 (tlist (tden l) ps l).length d1)) (a:=⟨w.heap.size,1,none⟩) (by show w.heap.size<w.heap.size+2;omega) (Value.slice b2 (tlist (tden l) ps l).length d2)) (a:=⟨w.heap.size,2,none⟩) (by show w.heap.size<w.heap.size+2;omega) (.string (dec (tden l))))
     have hbl:=((Hts.out.bel.setCell (p:=⟨w.heap.size,0,none⟩) nr_ (Value.slice b1 (tlist (tden l) ps l).length d1)).setCell (p:=⟨w.heap.size,1,none⟩) nr_ (Value.slice b2 (tlist (tden l) ps l).length d2)).setCell (p:=⟨w.heap.size,2,none⟩) nr_ (.string (dec (tden l)))
     generalize ((wr.setCell { block:=w.heap.size,off:=0 } (Value.slice b1 (tlist (tden l) ps l).length d1)).setCell { block:=w.heap.size,off:=1 } (Value.slice b2 (tlist (tden l) ps l).length d2)).setCell { block:=w.heap.size,off:=2 } (Value.string (dec (tden l)))=w10 at *
     obtain⟨t0,t1,t2,-⟩:=obj_cells3 (a:=Value.slice b1 (tlist (tden l) ps l).length d1) (b:=Value.slice b2 (tlist (tden l) ps l).length d2) (c := .string (dec (tden l))) h10
     exact bodyPost_ret (v:=termsV (Value.slice b1 (tlist (tden l) ps l).length d1) (Value.slice b2 (tlist (tden l) ps l).length d2) (tden l)) (by simp[termsV,results,Tryz.results100,go_sem,t0,t1,t2]) rfl ⟨b1,d1,b2,d2,rfl,o1,o2,hbl⟩
end Go.Proofs.YtnjedhgcfeoemaaGreatDoor

namespace Go.Proofs.YtnjedhgcfeoemaaGreatDoor
open Go.RowKit Go.Shelf
attribute [local go_sem] Oper.semAt_some
abbrev tcells (b1:Option Addr) (d1:Nat) (b2:Option Addr) (d2 m D:Nat):Array Value := #[.slice b1 m d1,.slice b2 m d2,.string (dec D)]
theorem all_any(w:World)(b1 b2:Option Addr)(d1 d2 m D:Nat):
  Calls Tryz.prog 211 #[.agg (tcells b1 d1 b2 d2 m D)] w fun e w' =>
   e = .returned (.func (.func 241) #[] #[.pointer (some ⟨w.heap.size,0,none⟩)])∧w'=w.alloc (.cells (tcells b1 d1 b2 d2 m D) 163):=by
 go_enter Tryz.func211,Tryz.ntmps211
 go_wp2
 go_ret
 exact⟨rfl,rfl⟩
abbrev encT (tl:List (Int×Int)) (x:{x // x∈tl}):Array Value := #[.int .i64 x.1.1,.string (itx x.1.2)]
def KT (n₀ Bn:Nat) (W W':World):Prop:=Below n₀ W W'∧W'.heap[Bn]?=W.heap[Bn]?
theorem kt_t{n₀ Bn:Nat}{A B C:World}(h:KT n₀ Bn A B)(k:KT n₀ Bn B C):KT n₀ Bn A C:=⟨h.1.trans k.1,k.2.trans h.2⟩
theorem kt_b{n₀ Bn:Nat}{w:World}(hn:n₀≤w.heap.size)(hB:Bn<w.heap.size)(W:World)(l:Nat)(o o':Obj)(hl:w.heap.size≤l)(h:W.heap[l]?=some o)(h1:o.isCells=false)(h2:o.isWalk=false):KT n₀ Bn W (W.putObj l o') :=
 ⟨belowK_b hn W l o o' hl h h1 h2,World.putObj_heap_other (by omega)⟩
theorem all_stops(n:Nat)(hn:1≤n)(w00 w:World)(h00:Below w00.heap.size w00 w)(Bn:Nat)(b1 b2:Option Addr)(d1 d2 D:Nat)(tl:List (Int×Int))(hl:tl.length≤1000)
  (hB:w.heap[Bn]?=some (.cells (tcells b1 d1 b2 d2 tl.length D) 163 (0,0))) (hr1:Rd w00 b1 (ints (tl.map Prod.fst))) (hr2:Rd w00 b2 (strs (tl.map fun x=>itx x.2))) :
  SeqStopsK Fence.wide n Tryz.prog 241 #[.pointer (some ⟨Bn,0,none⟩)] (encT tl) (KT w00.heap.size Bn) (fun xs=>xs=tl.attach) (fun pre=>pre <+: tl.attach) tl.length w:=fun l J Jx W hW hJ hJx hY h0=>by
 have HB:=hd_ ((hW.block _ (Array.getElem?_eq_some_iff.1 hB).1).trans hB)
 have Hrd1:=hd_ hr1
 have Hrd2:=hd_ hr2
 have HW:=hd_ (h00.trans (hW.mono h00.size))
 clear hr1 hr2 hB hW h00
 refine callsIn_of_wp Tryz.func241 rfl trivial ?_ rfl
 simp only[Tryz.ntmps241,List.size_toArray,List.length_cons,List.length_nil,Nat.reduceAdd,Nat.reduceSub,Array.replicate_succ,Array.replicate_zero,List.push_toArray,List.append_toArray,List.nil_append,List.cons_append]
 obtain⟨m0,m1,m2,m3⟩:=obj_cells3 HB.out
 clear m3
 gi_wp2
 gi_loopw [8] (fun p wr=>∃ k:Nat,k≤tl.length∧p = .int .i64 k∧J (tl.attach.take k) wr∧Hid (Below w00.heap.size w00 wr)∧Hid (wr.heap[Bn]?=some (.cells (tcells b1 d1 b2 d2 tl.length D) 163 (0,0))))
  (fun p wr=>tl.length-(intOf p).toNat)
 case atStart=>exact⟨0,Nat.zero_le _,rfl,h0,HW,HB⟩
 case round =>
  obtain⟨k,hk,rfl,hJk,Hb,HBk⟩:=hrel
  by_cases hlt:k<tl.length
  ·have hlt':(k:Int)<tl.length:=by omega
   have hk0:(0:Int)≤k:=by omega
   obtain⟨g1,o1,rfl,hg1,hc1⟩:=Hrd1.out.open (by rw[ints_length,List.length_map];omega)
   obtain⟨g2,o2,rfl,hg2,hc2⟩:=Hrd2.out.open (by rw[strs_length,List.length_map];omega)
   have x1:wr.cell? ⟨g1,o1+k,none⟩=some (.int .i64 (tl[k]).1):=by
    rw[Hb.out.cell (p:=⟨g1,o1+k,none⟩) hg1]
    refine hc1 k _ ?_
    rw[ints_get _ k (by rw[List.length_map];exact hlt),List.getElem_map]
   have x2:wr.cell? ⟨g2,o2+k,none⟩=some (.string (itx (tl[k]).2)):=by
    rw[Hb.out.cell (p:=⟨g2,o2+k,none⟩) hg2]
    refine hc2 k _ ?_
    simp[strs,hlt]
   obtain⟨m0,m1,m2,m3⟩:=obj_cells3 HBk.out
   clear m3 hc1 hc2
   obtain⟨fn,tmps,assign,body,hy,hR⟩:=hY (tl.attach.take k) ⟨tl[k],List.getElem_mem hlt⟩ wr hJk (by rw[List.length_take,List.length_attach];omega)
   dsimp only[encT] at hy
   have Hnext:Hid (tl.attach.take k++[⟨tl[k],List.getElem_mem hlt⟩]=tl.attach.take (k+1)):=by
    show _=_
    rw[List.take_add_one,List.getElem?_eq_getElem (by rw[List.length_attach];exact hlt),List.getElem_attach];rfl
   have hn0:(tl.length:Int)≤1000:=by omega
   gi_wp2_with fail
   refine hR.mono ?_
   rintro e W3 (⟨rfl,hJ3,hk3⟩|⟨rfl,hJx3⟩)
   ·rw[Hnext.out] at hJ3
    have Hb3:=hd_ (Hb.out.trans hk3.1)
    have HB3:=hd_ (hk3.2.trans HBk.out)
    clear hk3 x1 x2 m0 m1 m2 hR hy
    gi_wp2
    go_roundw
    case rel=>exact⟨k+1,by omega,by go_num,hJ3,Hb3,HB3⟩
    case measure=>simp[intOf];omega
   ·rw[Hnext.out] at hJx3
    gi_wp2
    refine bodyPost_ret (results_none rfl _ _ _) rfl ?_
    exact⟨⟨_,rfl⟩,.inr ⟨tl.attach.take (k+1),List.take_prefix _ _,hJx3⟩⟩
  ·have hlt':¬ (k:Int)<tl.length:=by omega
   have hall:tl.attach.take k=tl.attach:=List.take_of_length_le (by rw[List.length_attach];omega)
   rw[hall] at hJk
   gi_wp2
   go_end0
   exact⟨⟨_,rfl⟩,.inl hJk⟩
end Go.Proofs.YtnjedhgcfeoemaaGreatDoor

namespace Go.Proofs.YtnjedhgcfeoemaaGreatDoor
open Go.RowKit
theorem or_shift(H b:Nat)(hb:b<4):(H*4) ||| b=H*4+b:=by
 have:=Nat.shiftLeft_add_eq_or_of_lt (b:=b) (i:=2) hb H
 rw[Nat.shiftLeft_eq] at this
 exact this.symm
theorem bits_cat(H L:Nat)(hH:H<4611686018427387904)(hL:L<18446744073709551616):bits .or .u64 ((H:Int)*4) ((L:Int)/4611686018427387904)=((H*4+L/4611686018427387904:Nat):Int):=by
 have h:=(bits_nat .u64 64 (by decide) (fun n h0 h1=>by rw[IntKind.wrap_u64];omega) (H*4) (L/4611686018427387904) (by omega) (by omega)).2
 rw[or_shift H _ (by omega)] at h
 simpa using h
structure DigFit (j:Nat) (s:Nat×Nat×Nat):Prop where
 lo:s.1<9223372036854775808
 hi:s.2.1<9223372036854775808
 out:s.2.2+1≤7*2^j
theorem digs_fit(p:Nat)(hp:2≤p)(hp2:p≤97):∀ j s,digs p 62 j=some s→DigFit j s
 | 0,s,h=>by
  simp only[digs,Option.some.injEq] at h
  subst h
  have h1:p<2^(p.log2+1):=Nat.lt_log2_self
  have h2:p.log2≤6:=by
   have:=(Nat.log2_lt (n:=p) (k:=7) (by omega)).2 (by omega)
   omega
  have h3:p*2^(62-p.log2)<2^(p.log2+1)*2^(62-p.log2):=Nat.mul_lt_mul_of_pos_right h1 (Nat.two_pow_pos _)
  rw[← Nat.pow_add,show p.log2+1+(62-p.log2)=63 by omega] at h3
  exact⟨h3,h3,by simp;omega⟩
 | j+1,s,h=>by
  simp only[digs] at h
  obtain⟨t,ht,hs⟩:=Option.bind_eq_some_iff.1 h
  obtain⟨f1,f2,f3⟩:=digs_fit p hp hp2 j t ht
  obtain⟨l,g,o⟩:=t
  simp only at f1 f2 f3
  simp only[digStep] at hs
  have q1:l*l≤9223372036854775807*9223372036854775807:=Nat.mul_le_mul (by omega) (by omega)
  have q2:g*g≤9223372036854775807*9223372036854775807:=Nat.mul_le_mul (by omega) (by omega)
  have e:2^(j+1)=2*2^j:=by rw[Nat.pow_succ];omega
  rw[show (2:Nat)^62=4611686018427387904 from rfl] at hs
  by_cases h1:2*4611686018427387904≤l*l/4611686018427387904
  ·rw[if_pos h1] at hs
   cases hs
   exact⟨by simp only;omega,by simp only;omega,by simp only;omega⟩
  ·rw[if_neg h1] at hs
   by_cases h2:2*4611686018427387904≤g*g/4611686018427387904+1
   ·rw[if_pos h2] at hs;cases hs
   ·rw[if_neg h2] at hs
    cases hs
    exact⟨by simp only;omega,by simp only;omega,by simp only;omega⟩
def fastV (p:Nat):Value:=match digs p 62 26 with
 | some s => .tuple #[.int .i64 s.2.2,.bool true]
 | none => .tuple #[.int .i64 0,.bool false]
theorem fast_any(w:World)(p:Nat)(hp:2≤p)(hp2:p≤97):Gives Tryz.prog 240 #[.int .i64 p] w (fastV p):=by
 unfold Gives
 have hln:=hd_ (Tryz.bits_Len p w (by omega) (by omega))
 rw[show ((p:Nat):Int).toNat=p from rfl,bitLen_log p (by omega) hp2] at hln
 have hk:p.log2≤6:=by
  have:=(Nat.log2_lt (n:=p) (k:=7) (by omega)).2 (by omega)
  omega
 have hw1:IntKind.i64.wrap (((p.log2+1:Nat):Int)-1)=(p.log2:Int):=by rw[show ((p.log2+1:Nat):Int)-1=(p.log2:Int) by omega];exact iw_ _ (by omega)
 have hw2:IntKind.u64.wrap (p:Int)=p:=IntWalk.u64_in _ (by omega)
 have hw3:IntKind.i64.wrap (62-(p.log2:Int))=((62-p.log2:Nat):Int):=by rw[show 62-(p.log2:Int)=((62-p.log2:Nat):Int) by omega];exact iw_ _ (by omega)
 go_enter Tryz.func240,Tryz.ntmps240
 go_wp2_with fail
 refine cm_ hln.out ?_
 rintro e w1 ⟨rfl,rfl⟩
 have hw4:IntKind.u64.wrap ((p:Int)*2^(62-p.log2))=((p*2^(62-p.log2):Nat):Int):=by
  have h0:=(digs_fit p hp hp2 0 _ rfl).lo
  simp only at h0
  rw[show ((p*2^(62-p.log2):Nat):Int)=(p:Int)*2^(62-p.log2) by simp]
  rw[← show ((p*2^(62-p.log2):Nat):Int)=(p:Int)*2^(62-p.log2) by simp]
  exact IntWalk.u64_in _ (by omega)
 have H0:Hid (digs p 62 0=some (p*2^(62-p.log2),p*2^(62-p.log2),p.log2)):=rfl
 have Hfit:=hd_ (digs_fit p hp hp2)
 have Hmul:=hd_ (fun x hx=>Tryz.bits_Mul64 x x hx hx w1)
 clear hln
 go_wp2_with fail
 go_loopw [5,6,7,21] (fun a b c i wr=>∃ (j lo hi o:Nat),j≤26∧Hid (digs p 62 j=some (lo,hi,o))∧a = .int .u64 lo∧b = .int .u64 hi∧c = .int .i64 o∧i = .int .i64 j∧wr=w1) (fun _ _ _ i _=>26-(intOf i).toNat)
 case atStart=>exact⟨0,_,_,_,by omega,H0,rfl,rfl,rfl,rfl,rfl⟩
 case round =>
  obtain⟨j,lo,hi,o,hj,Hd,rfl,rfl,rfl,rfl,rfl⟩:=hrel
  by_cases hlt:j<26
  ·have hlt':(j:Int)<26:=by omega
   obtain⟨f1,f2,f3⟩:=Hfit.out j _ Hd.out
   simp only at f1 f2 f3
   have hpw:2^j≤2^26:=Nat.pow_le_pow_right (by decide) (by omega)
   rw[show (2:Nat)^26=67108864 from rfl] at hpw
   have ho:o≤469762048:=by omega
   have q1:lo*lo≤9223372036854775807*9223372036854775807:=Nat.mul_le_mul (by omega) (by omega)
   have q2:hi*hi≤9223372036854775807*9223372036854775807:=Nat.mul_le_mul (by omega) (by omega)
   have hm1:=Hmul.out lo (by omega)
   have hm2:=Hmul.out hi (by omega)
   have Hstep:Hid (digs p 62 (j+1)=digStep (2^62) (lo,hi,o)):=by
    show _=_
    simp only[digs,Hd.out,Option.bind_some]
   have hh1:lo*lo/18446744073709551616<4611686018427387904:=by omega
   have hl1:lo*lo%18446744073709551616<18446744073709551616:=Nat.mod_lt _ (by decide)
   have hx1:lo*lo/18446744073709551616*4+lo*lo%18446744073709551616/4611686018427387904=lo*lo/4611686018427387904:=by omega
   have hh2:hi*hi/18446744073709551616<4611686018427387904:=by omega
   have hl2:hi*hi%18446744073709551616<18446744073709551616:=Nat.mod_lt _ (by decide)
   have hx2:hi*hi/18446744073709551616*4+hi*hi%18446744073709551616/4611686018427387904=hi*hi/4611686018427387904:=by omega
   have hb1:=bits_cat _ _ hh1 hl1
   have hb2:=bits_cat _ _ hh2 hl2
   rw[hx1] at hb1
   rw[hx2] at hb2
   have hX1:lo*lo/4611686018427387904≤18446744073709551612:=by omega
   have hX2:hi*hi/4611686018427387904≤18446744073709551612:=by omega
   simp only[digStep] at Hstep
   rw[show (2:Nat)^62=4611686018427387904 from rfl] at Hstep
   clear f3 hpw hx1 hx2 q1 q2
   generalize lo*lo/18446744073709551616=H1 at *
   generalize lo*lo%18446744073709551616=L1 at *
   generalize hi*hi/18446744073709551616=H2 at *
   generalize hi*hi%18446744073709551616=L2 at *
   generalize lo*lo/4611686018427387904=X1 at *
   generalize hi*hi/4611686018427387904=X2 at *
   clear f1 f2
   obtain⟨x1,hx1⟩:∃ x1:Int,(X1:Int)=x1:=⟨_,rfl⟩
   obtain⟨x2,hx2⟩:∃ x2:Int,(X2:Int)+1=x2:=⟨_,rfl⟩
   have hwX:IntKind.u64.wrap ((X2:Int)+1)=(X2:Int)+1:=IntWalk.u64_in _ (by omega)
   have hx2':(X2:Int)=x2-1:=by omega
   rw[hx1] at hb1
   rw[hx2'] at hb2 hwX
   have hwX2:IntKind.u64.wrap (x2-1+1)=x2:=by rw[hwX];omega
   have Hx1:=hd_ hx1
   have Hx2:=hd_ hx2
   have hx1b:0≤x1∧x1≤18446744073709551612:=by omega
   have hx2b:1≤x2∧x2≤18446744073709551613:=by omega
   clear hwX hx1 hx2 hx2'
   have hwH1:IntKind.u64.wrap ((H1:Int)*4)=(H1:Int)*4:=IntWalk.u64_in _ (by omega)
   have hwH2:IntKind.u64.wrap ((H2:Int)*4)=(H2:Int)*4:=IntWalk.u64_in _ (by omega)
   clear hX1 hX2 hh1 hh2 hl1 hl2
   go_wp2_with fail
   refine cm_ hm1 ?_
   rintro e w2 ⟨rfl,rfl⟩
   clear hm1
   go_wp2_with fail
   refine cm_ hm2 ?_
   rintro e w2 ⟨rfl,rfl⟩
   clear hm2
   go_wp2_with fail
   ·rename_i hc1
    have Hst:Hid (digs p 62 (j+1)=some (X1/2,(X2+1)/2+1,2*o+1)):=by
     show _=_
     rw[Hstep.out,if_pos (by have:=Hx1.out;omega)]
    go_roundw
    case rel=>exact⟨j+1,X1/2,(X2+1)/2+1,2*o+1,by omega,Hst,by rw[← Hx1.out];go_num,by rw[← Hx2.out];go_num,by go_num,by go_num,trivial⟩
    case measure=>simp[intOf];omega
   ·rename_i hc1 hc2
    have Hst:Hid (digs p 62 (j+1)=none):=by
     show _=_
     rw[Hstep.out,if_neg (by have:=Hx1.out;omega),if_pos (by have:=Hx2.out;omega)]
    have Hnone:Hid (fastV p = .tuple #[.int .i64 0,.bool false]):=by
     have key:∀ m,digs p 62 (j+1+m)=none:=fun m=>by
      induction m with
      | zero=>exact Hst.out
      | succ m ih=>rw[← Nat.add_assoc];show (digs p 62 (j+1+m)).bind _=none;rw[ih];rfl
     show _=_
     unfold fastV
     have:=key (25-j)
     rw[show j+1+(25-j)=26 by omega] at this
     rw[this]
    go_ret2
    exact⟨by rw[Hnone.out];rfl,Below.refl _ _⟩
   ·rename_i hc1 hc2
    have Hst:Hid (digs p 62 (j+1)=some (X1,X2+1,2*o)):=by
     show _=_
     rw[Hstep.out,if_neg (by have:=Hx1.out;omega),if_neg (by have:=Hx2.out;omega)]
    go_roundw
    case rel=>exact⟨j+1,X1,X2+1,2*o,by omega,Hst,by rw[← Hx1.out],by rw[← Hx2.out];go_num,by go_num,by go_num,trivial⟩
    case measure=>simp[intOf];omega
  ·have hlt':¬ (j:Int)<26:=by omega
   have hj26:j=26:=by omega
   subst hj26
   have Hsome:Hid (fastV p = .tuple #[.int .i64 o,.bool true]):=by
    show _=_
    unfold fastV
    rw[Hd.out]
   go_wp2
   go_ret2
   exact⟨by rw[Hsome.out];rfl,Below.refl _ _⟩
end Go.Proofs.YtnjedhgcfeoemaaGreatDoor

namespace Go.Proofs.YtnjedhgcfeoemaaGreatDoor
open Go Go.Sort
section
variable {P:Program} {ops:Array Oper} {md:Region.Mode} {cs:List (Nat×(World→Prop))}
def noEnter2:Op→Bool
 | .move _ | .assign _ | .load _ _ | .fieldAddr _ _ _ | .indexAddr _ _ _ | .binOp _ _ _ _ _=>true
 | .call c=>match c.callee with
  | .builtin .min | .builtin .max | .builtin .len=>true
  | _=>false
 | _=>false
theorem no_enter2{o:Oper}{a:Act}{w w':World}{f:FuncId}{args:Array Value}(ho:noEnter2 o.op=true)(h:(execOp a.eval o).run P w = .ok (.enter f args) w'):False:=by
 have cases5:(∃ x,o.op = .move x)∨(∃ x,o.op = .assign x)∨(∃ t x,o.op = .load t x)∨(∃ t x k,o.op = .fieldAddr t x k)∨(∃ t x y,o.op = .indexAddr t x y)∨(∃ b t x y r,o.op = .binOp b t x y r)∨(∃ c,o.op = .call c):=by
  cases hop:o.op<;>rw[hop] at ho<;>first | (simp[noEnter2] at ho;done) | simp
 rcases cases5 with⟨x,hop⟩|⟨x,hop⟩|⟨t,x,hop⟩|⟨t,x,k,hop⟩|⟨t,x,y,hop⟩|⟨b,t,x,y,r,hop⟩|⟨c,hop⟩
 ·rw[BigFrame.run_move x hop] at h;cases h
 ·rw[BigFrame.run_assign x hop] at h;cases h
 ·unfold execOp at h;rw[hop] at h;exact RP.value_no_enter h
 ·unfold execOp at h;rw[hop] at h;exact RP.value_no_enter h
 ·unfold execOp at h;rw[hop] at h;exact RP.value_no_enter h
 ·unfold execOp at h;rw[hop] at h;exact RP.value_no_enter h
 ·rw[hop] at ho
  unfold execOp at h
  rw[hop] at h
  unfold noEnter2 at ho
  simp only at ho h
  unfold resolve at h
  cases hc:c.callee with
  | value x=>rw[hc] at ho;cases ho
  | invoke x y=>rw[hc] at ho;cases ho
  | builtin b =>
   rw[hc] at ho h
   simp only[Sem.run_bind,Sem.run_pure,Result.andThen_ok,invoke] at h
   cases b<;>first | (simp at ho;done) | (unfold builtin at h;exact RP.value_no_enter h)
theorem still_of_quiet2{D:World→Prop}{o:Oper}{a:Act}{w:World}{v:Value}(ho:noEnter2 o.op=true)(h:o.quietAt P a D w v){K:Act→World→Prop}(hk:K (a.put o.dst v) w):o.wp P a w K (fun _ _ _=>False):=by
 unfold Oper.quietAt at h
 unfold Oper.wp
 have hne:=@no_enter2 P o a w
 generalize (execOp a.eval o).run P w=r at *
 cases r with
 | ok n w' =>
  cases n<;>simp only[Oper.quietUpon] at h<;>simp only[Oper.upon]
  case value u=>obtain⟨rfl,rfl⟩:=h;exact hk
  case skip=>obtain⟨rfl,rfl⟩:=h;exact hk
  case enter f args=>exact(hne ho rfl).elim
 | halt x w'=>simp only[Oper.quietUpon] at h
def upB (listed:Array Bool) (s:Nat):Bool:=listed.getD s false
def anyR2 (P:Program) (md:Region.Mode) (ops:Array Oper) (cs:List (Nat×(World→Prop))) (Q:Act→World→Prop):Nat→Array Bool→Act→World→Prop
 | 0,listed,a,w=>Region.ready md ops listed=[]∧Q a w
 | f+1,listed,a,w=>Region.ready md ops listed≠[]∧∀ i∈Region.ready md ops listed,
   wpOp P ops (fun _ _ _=>False) i (fun a' w'=>SafeL cs (upB (listed.setIfInBounds i true)) w'∧anyR2 P md ops cs Q f (listed.setIfInBounds i true) a' w') a w
theorem reads_op2{i:Nat}{o:Oper}{v:Value}{a:Act}{w:World}{listed:Array Bool}(hi:ops[i]?=some o)(hne:noEnter2 o.op=true)(inv:RP.RInv md ops listed)(hr:i∈Region.ready md ops listed)(hs:SafeL cs (upB listed) w)
  (hy:ReadsIn2 P ops md cs i o v a) {K:Act→World→Prop} (hk:K (a.put o.dst v) w):wpOp P ops (fun _ _ _=>False) i K a w:=by
 have key:∀ D:World→Prop,D w→YieldsIn P ops D o v a→wpOp P ops (fun _ _ _=>False) i K a w:=fun D hD h=>by
  unfold wpOp
  simp only[hi]
  rcases h with⟨h1,h2⟩|⟨h1,rfl⟩
  ·simp only[h1,if_true]
   exact .inl (still_of_quiet2 hne (h2 w hD) hk)
  ·simp only[h1,Bool.false_eq_true,if_false]
   exact hk
 rcases hy with⟨c,hc,hw,h⟩|h
 ·refine key c.2 ?_ h
  rcases hs.get c hc with hs|hs
  ·have:=RP.reach_listed inv 4 c.1 i hw hs
   rw[getD_both (mem_ready.1 hr).1] at this
   cases this
  ·exact hs
 ·exact key _ trivial h
theorem wpOp_put2{j:Nat}{oi oj:Oper}{v:Value}(hj:ops[j]?=some oj)(hap:oi.apart ops oj=true)
  (hsi:∀ cs b,oi.op ≠ .select cs b) (hsj:∀ cs b,oj.op ≠ .select cs b) {i:Nat} {K:Act→World→Prop} {a:Act} {w:World}
  (hy:ReadsIn2 P ops md cs i oi v a) (h:wpOp P ops (fun _ _ _=>False) j K (a.put oi.dst v) w) :
  wpOp P ops (fun _ _ _=>False) j (fun a' w'=>ReadsIn2 P ops md cs i oi v a'∧K (a'.put oi.dst v) w') a w:=by
 obtain⟨h1,h2,h3⟩:=Oper.apart_spec hap
 have keep:∀ (a:Act),ReadsIn2 P ops md cs i oi v a→∀ u,ReadsIn2 P ops md cs i oi v (a.put oj.dst u):=fun a hy u =>
  hy.of_same (execOp_put oi hsi a oj.dst u h3) (wanted_put oi a oj.dst u h3)
 have keepd:∀ d,ReadsIn2 P ops md cs i oi v ({ a with defers:=d::a.defers }:Act):=fun d=>hy.of_same rfl rfl
 unfold wpOp at *
 simp only[hj] at *
 rw[wanted_put oj a oi.dst v h1] at h
 split
 ·rename_i hw
  simp only[hw,if_true] at h
  left
  rcases h with h|⟨_,_,_,hf⟩
  ·unfold Oper.wp at *
   rw[execOp_put oj hsj a oi.dst v h1] at h
   generalize (execOp a.eval oj).run P w=r at *
   cases r with
   | ok n w' =>
    cases n<;>simp only[Oper.upon] at h ⊢
    case value u=>exact⟨keep a hy u,by rw[← Act.put_comm a v u h2];exact h⟩
    case skip=>exact⟨keep a hy undef,by rw[← Act.put_comm a v undef h2];exact h⟩
    case defer d =>
     refine⟨keep _ (keepd d) undef,?_⟩
     rw[Act.put_defers] at h
     rw[← Act.put_comm _ v undef h2]
     exact h
    case enter f args =>
     exact cm_ h (fun e w'' he=>by
      cases e
      case returned u=>exact⟨keep a hy u,by rw[← Act.put_comm a v u h2];exact he⟩
      case panicked c=>exact he
      case outgrown=>obtain⟨_,_,hf⟩:=he;exact hf.elim)
    case row row args=>exact Rows.mono h (fun u w'' he=>⟨keep a hy u,by rw[← Act.put_comm a v u h2];exact he⟩)
    all_goals exact h
   | halt x w'=>cases x<;>simp only[Oper.upon] at h<;>exact h.elim
  ·exact hf.elim
 ·rename_i hw
  simp only[hw] at h
  exact⟨keep a hy _,by rw[← Act.put_comm a v undef h2];exact h⟩
theorem anyR2_first{i:Nat}{oi:Oper}{v:Value}{Q:Act→World→Prop}(hi:ops[i]?=some oi)(his:∀ c∈cs,i≠c.1)(hne:noEnter2 oi.op=true)(hsel:∀ (j:Nat) (o:Oper) cs b,ops[j]?=some o→o.op ≠ .select cs b):
  ∀ (f:Nat) (listed:Array Bool) (a:Act) (w:World),RP.RInv md ops listed →
   (∀ j oj,ops[j]?=some oj→j≠i→listed.getD j true=false→(∀ e∈oj.after,Region.binds md e=true→e.on≠i)→oi.apart ops oj=true) →
   i∈Region.ready md ops listed→ReadsIn2 P ops md cs i oi v a→SafeL cs (upB listed) w →
   anyR2 P md ops cs Q f (listed.setIfInBounds i true) (a.put oi.dst v) w→anyR2 P md ops cs Q (f+1) listed a w:=by
 have hstep:∀ (listed:Array Bool) (w:World),SafeL cs (upB listed) w→SafeL cs (upB (listed.setIfInBounds i true)) w:=fun listed w h=>h.mono (fun s hs=>getD_set_true hs)
 have hback:∀ (cs':List (Nat×(World→Prop))),(∀ c∈cs',i≠c.1)→∀ (listed:Array Bool) (w:World),SafeL cs' (upB (listed.setIfInBounds i true)) w→SafeL cs' (upB listed) w:=by
  intro cs'
  induction cs' with
  | nil=>intro _ _ _ _;trivial
  | cons c cs' ih =>
   intro hi' listed w h
   refine⟨h.1.imp (fun hb=>?_) id,ih (fun d hd=>hi' d (List.mem_cons_of_mem _ hd)) listed w h.2⟩
   unfold upB at hb ⊢
   rw[getD_set_ne false (hi' c (List.mem_cons_self ..))] at hb
   exact hb
 intro f
 induction f with
 | zero =>
  intro listed a w inv _ hr hy hs H
  refine⟨fun h=>(by rw[h] at hr;cases hr),fun j hj=>?_⟩
  by_cases hji:j=i
  ·subst hji
   exact reads_op2 hi hne inv hr hs hy ⟨hstep _ _ hs,H⟩
  ·have:=ready_mono hj hji
   rw[H.1] at this
   cases this
 | succ f ih =>
  intro listed a w inv hfree hr hy hs H
  have hun:=(mem_ready.1 hr).1
  refine⟨fun h=>(by rw[h] at hr;cases hr),fun j hj=>?_⟩
  by_cases hji:j=i
  ·subst hji
   exact reads_op2 hi hne inv hr hs hy ⟨hstep _ _ hs,H⟩
  ·have h1:=H.2 j (ready_mono hj hji)
   obtain⟨hjun,oj,hoj,hall⟩:=mem_ready.1 hj
   have hnot:∀ e∈oj.after,Region.binds md e=true→e.on≠i:=fun e he hb heq=>by
    have h1:=hall e he hb
    rw[heq,getD_both hun] at h1
    cases h1
   have h2:=wpOp_put2 hoj (hfree j oj hoj hji hjun hnot) (fun cs b=>hsel i oi cs b hi) (fun cs b=>hsel j oj cs b hoj) hy h1
   have hfree':∀ k ok,ops[k]?=some ok→k≠i→(listed.setIfInBounds j true).getD k true=false →
     (∀ e∈ok.after,Region.binds md e=true→e.on≠i)→oi.apart ops ok=true:=fun k ok hk hki hun hno=>by
    refine hfree k ok hk hki ?_ hno
    by_cases hjk:j=k
    ·subst hjk;exact hjun
    ·rw[getD_set_ne true hjk] at hun;exact hun
   have hr':=ready_mono hr (Ne.symm hji)
   refine wpOp_mono (fun a' w' h3=>?_) h2
   obtain⟨hy',hs',H'⟩:=h3
   have hs2:SafeL cs (upB (listed.setIfInBounds j true)) w':=by
    rw[Array.setIfInBounds_comm _ _ (Ne.symm hji)] at hs'
    exact hback cs his _ _ hs'
   refine⟨hs2,ih (listed.setIfInBounds j true) a' w' (inv.set hj) hfree' hr' hy' hs2 ?_⟩
   rw[Array.setIfInBounds_comm _ _ hji]
   exact H'
def ordB2 (md:Region.Mode) (ops:Array Oper) (ss:List Nat):List (Nat×Nat)→Array Bool→Bool
 | [],listed=>(Region.ready md ops listed).isEmpty
 | (k,i)::l,listed =>
  (if k=0 then decide (Region.ready md ops listed=[i])
  else (Region.ready md ops listed).contains i&&Region.free md ops listed i&&(match ops[i]? with | some o=>noEnter2 o.op | none=>false)&&(ss.all fun s=>decide (i≠s))&&(k==1||RP.reachB md ops 4 (k-2) i)) &&
  ordB2 md ops ss l (listed.setIfInBounds i true)
def walkR2 (P:Program) (ops:Array Oper) (cs:List (Nat×(World→Prop))) (Q:Act→World→Prop):List (Nat×Nat)→(Nat→Bool)→Act→World→Prop
 | [],_,a,w=>Q a w
 | (k,i)::l,b,a,w =>
  if k=0 then wpList P ops (fun e a' w'=>e = .normal∧SafeL cs (fun s=>b s||i==s) w'∧walkR2 P ops cs Q l (fun s=>b s||i==s) a' w') (ops[i]?).toList a w
  else if k=1 then wpQuiet P ops (fun _=>True) (fun a'=>walkR2 P ops cs Q l b a' w) (ops[i]?).toList a
  else ∃ c∈cs,c.1=k-2∧wpQuiet P ops c.2 (fun a'=>walkR2 P ops cs Q l b a' w) (ops[i]?).toList a
theorem SafeL.congr_on:∀{cs:List (Nat×(World→Prop))}{b b':Nat→Bool}{w:World},(∀ c∈cs,b c.1=b' c.1)→SafeL cs b w→SafeL cs b' w
 | [],_,_,_,_,_=>trivial
 | c::cs,b,b',w,hb,h=>⟨h.1.imp (fun h1=>by rw[← hb c (List.mem_cons_self ..)];exact h1) id,SafeL.congr_on (fun d hd=>hb d (List.mem_cons_of_mem _ hd)) h.2⟩
theorem anyR2_walk{Q:Act→World→Prop}(hsel:Region.noSelect ops=true):
  ∀ (l:List (Nat×Nat)) (b:Nat→Bool) (listed:Array Bool) (a:Act) (w:World),(∀ c∈cs,b c.1=upB listed c.1)→RP.RInv md ops listed→SafeL cs (upB listed) w→ordB2 md ops (cs.map Prod.fst) l listed=true →
   walkR2 P ops cs Q l b a w→anyR2 P md ops cs Q l.length listed a w
 | [],b,listed,a,w,_,_,_,hB,h=>⟨by simpa [ordB2] using hB,h⟩
 | (k,i)::l,b,listed,a,w,hb,inv,hs,hB,h=>by
  simp only[ordB2,Bool.and_eq_true] at hB
  obtain⟨hB1,hB2⟩:=hB
  by_cases hk:k=0
  ·subst hk
   simp only[if_true,decide_eq_true_eq] at hB1
   have hr:i∈Region.ready md ops listed:=by rw[hB1];exact List.mem_singleton.2 rfl
   obtain⟨hun,o,ho,_⟩:=mem_ready.1 hr
   have hlt:i<listed.size:=by rw[inv.size];exact(Array.getElem?_eq_some_iff.1 ho).1
   have hgs:∀ c∈cs,(b c.1||i==c.1)=upB (listed.setIfInBounds i true) c.1:=fun c hc=>by
    rw[hb c hc]
    unfold upB
    by_cases his:i=c.1
    ·rw[his] at hlt ⊢
     simp[hlt]
    ·rw[getD_set_ne false his]
     simp[his]
   refine⟨by rw[hB1];simp,fun j hj=>?_⟩
   rw[hB1] at hj
   obtain rfl:=List.mem_singleton.1 hj
   simp only[walkR2,if_true,ho,Option.toList] at h
   have h2:wpOp P ops (fun e a' w'=>e = .normal∧SafeL cs (fun s=>b s||j==s) w'∧walkR2 P ops cs Q l (fun s=>b s||j==s) a' w') j (fun a' w'=>SafeL cs (fun s=>b s||j==s) w'∧walkR2 P ops cs Q l (fun s=>b s||j==s) a' w') a w:=by
    unfold wpOp
    simp only[ho]
    simp only[wpList,true_and] at h
    exact h
   have h3:=RP.wpOp_strong (fun e a' w' hq=>hq.1) h2
   refine wpOp_mono (fun a' w' h4=>?_) h3
   have hs2:SafeL cs (upB (listed.setIfInBounds j true)) w':=h4.1.congr_on hgs
   exact⟨hs2,anyR2_walk hsel l _ _ a' w' hgs (inv.set hr) hs2 hB2 h4.2⟩
  ·rw[if_neg hk] at hB1
   simp only[Bool.and_eq_true,Bool.or_eq_true,beq_iff_eq,List.all_eq_true,decide_eq_true_eq] at hB1
   obtain⟨⟨⟨⟨hr,hf⟩,hne⟩,his⟩,hw⟩:=hB1
   have hr':i∈Region.ready md ops listed:=by simpa using hr
   obtain⟨_,o,ho,_⟩:=mem_ready.1 hr'
   have hne':noEnter2 o.op=true:=by rw[ho] at hne;exact hne
   have his':∀ c∈cs,i≠c.1:=fun c hc=>his c.1 (List.mem_map.2 ⟨c,hc,rfl⟩)
   have hs2:SafeL cs (upB (listed.setIfInBounds i true)) w:=hs.mono (fun s hs=>getD_set_true hs)
   simp only[walkR2,if_neg hk] at h
   have hread:∃ v,ReadsIn2 P ops md cs i o v a∧walkR2 P ops cs Q l b (a.put o.dst v) w:=by
    by_cases h2:k=1
    ·rw[if_pos h2] at h
     obtain⟨v,hy,hK⟩:=yieldsIn_of_qOp ho (RP.qOp_of_list ho h)
     exact⟨v,.inr hy,hK⟩
    ·rw[if_neg h2] at h
     obtain⟨c,hc,hck,h⟩:=h
     obtain⟨v,hy,hK⟩:=yieldsIn_of_qOp ho (RP.qOp_of_list ho h)
     exact⟨v,.inl ⟨c,hc,by rw[hck];exact hw.resolve_left h2,hy⟩,hK⟩
   obtain⟨v,hy,hK⟩:=hread
   have hb2:∀ c∈cs,b c.1=upB (listed.setIfInBounds i true) c.1:=fun c hc=>by
    rw[hb c hc];unfold upB;rw[getD_set_ne false (his' c hc)]
   exact anyR2_first ho his' hne' (Region.noSelect_spec hsel) l.length listed a w inv (Region.free_spec ho hf) hr' hy hs
    (anyR2_walk hsel l b _ _ w hb2 (inv.set hr') hs2 hB2 hK)
theorem start2{ord:List (Nat×Nat)}{l:List Oper}{a:Act}{w:World}{Q:Act→World→Prop}(hsel:Region.noSelect l.toArray=true)(hord:ordB2 .any l.toArray (cs.map Prod.fst) ord (Array.replicate l.length false)=true)
  (hC:SafeL cs (fun _=>false) w) (h:walkR2 P l.toArray cs Q ord (fun _=>false) a w):anyR2 P .any l.toArray cs Q ord.length (Array.replicate l.length false) a w:=by
 have hf:∀ s,upB (Array.replicate l.length false) s=false:=fun s=>getD_replicate_false _ _
 refine anyR2_walk hsel ord _ _ a w (fun c _=>(hf c.1).symm) ⟨by simp,fun j oj _ hl=>(by rw[getD_replicate_false] at hl;cases hl)⟩ (hC.congr_on (fun c _=>(hf c.1).symm)) hord h
theorem wpOpIn_of_wpOp{i l0 n:Nat}{a:Act}{w:World}{K K':Act→World→Prop}{Q':Exit→Act→World→Prop}(hnd:∀ o c,ops[i]?=some o→o.op ≠ .defer c)(_hnr:∀ o c,ops[i]?=some o→o.op ≠ .go c)(hk:∀ a w,K a w→K' a w)
  (h:wpOp P ops (fun _ _ _=>False) i K a w):wpOpIn (Fence.wide.inRound l0) n P ops Q' i K' a w:=by
 unfold wpOp at h
 unfold wpOpIn
 split
 ·rename_i ho;simp only[ho] at h;exact hk _ _ h
 ·rename_i o ho
  simp only[ho] at h
  split
  ·rename_i hw
   simp only[hw,if_true] at h
   rcases h with h|⟨_,_,_,hf⟩
   ·refine⟨fun _ _=>trivial,?_⟩
    unfold Oper.wp at h
    rw[show (Fence.wide.inRound l0).round=some l0 from rfl,Oper.semAt_some l0 _ _ (fun c=>hnd o c ho)]
    generalize (execOp a.eval o).run P w=r at *
    cases r with
    | ok x w' =>
     cases x<;>simp only[Oper.upon,Oper.uponIn] at h ⊢
     case value=>exact hk _ _ h
     case skip=>exact hk _ _ h
     case defer=>exact hk _ _ h
     case enter f args =>
      refine⟨fun hd=>(by cases hd),?_⟩
      have h2:=Calls.mono h (R':=fun e w''=>match e,w'' with
       | .returned v,w''=>K' (a.put o.dst v) w''
       | .panicked chain,w''=>Q' (.panic chain) a w''
       | .outgrown,_=>LetsOut Q') (fun e w'' he=>by cases e<;>first | exact hk _ _ he | exact he.elim | (obtain⟨_,_,hf⟩:=he;exact hf.elim))
      exact CallsIn.inRound l0 (callsIn_wide.2 h2)
     case row row args=>exact⟨fun hd=>(by cases hd),fun c cs _=>let ⟨v,w',r,s⟩:=h c cs;⟨v,w',hk _ _ r,stepsIn_wide.2 s⟩⟩
    | halt x w'=>cases x<;>simp only[Oper.upon] at h<;>exact h.elim
   ·exact hf.elim
  ·rename_i hw;simp only[hw] at h;exact⟨fun _ _=>trivial,hk _ _ h⟩
def plainOps (ops:Array Oper):Bool:=ops.all fun o=>match o.op with | .defer _ | .go _=>false | _=>true
theorem plainOps_spec{ops:Array Oper}(h:plainOps ops=true){i:Nat}{o:Oper}(hi:ops[i]?=some o):(∀ c,o.op ≠ .defer c)∧(∀ c,o.op ≠ .go c):=by
 have hm:o∈ops:=Array.mem_of_getElem? hi
 have:=Array.all_eq_true'.1 h o hm
 refine⟨fun c hc=>?_,fun c hc=>?_⟩<;>rw[hc] at this<;>cases this
theorem anyR2_anyIn{l0 n:Nat}{Q:Act→World→Prop}{Q':Exit→Act→World→Prop}(hpl:plainOps ops=true)(hQ:∀ a w,Q a w→Q' .normal a w):
  ∀ (f:Nat) (listed:Array Bool) (a:Act) (w:World),anyR2 P md ops cs Q f listed a w→wpAnyIn (Fence.wide.inRound l0) n P md ops Q' f listed a w
 | 0,_,_,_,h=>⟨h.1,hQ _ _ h.2⟩
 | f+1,_,_,_,h=>⟨fun h0=>absurd h0 h.1,fun i hi=>wpOpIn_of_wpOp (fun _ c ho=>(plainOps_spec hpl ho).1 c) (fun _ c ho=>(plainOps_spec hpl ho).2 c) (fun a' w' h'=>anyR2_anyIn hpl hQ f _ a' w' h'.2) (h.2 i hi)⟩
theorem wpIn_region_readers2{id l0 n:Nat}{Q:Exit→Act→World→Prop}{a:Act}{w:World}{l:List Oper}(ord:List (Nat×Nat))(cs:List (Nat×(World→Prop)))(hm:P.follows .mixedOrders=true)
  (hB:(Region.noSelect l.toArray&&decide (ord.length=l.length)&&plainOps l.toArray&&ordB2 .any l.toArray (cs.map Prod.fst) ord (Array.replicate l.length false))=true)
  (hC:SafeL cs (fun _=>false) { w with drawn:=w.drawn+1 }) (h:walkR2 P l.toArray cs (fun a' w'=>Q .normal a' w') ord (fun _=>false) a { w with drawn:=w.drawn+1 }):(Code.region id l.toArray true).wpIn (Fence.wide.inRound l0) n P Q a w:=by
 simp only[Bool.and_eq_true,decide_eq_true_eq] at hB
 obtain⟨⟨⟨hsel,hlen⟩,hpl⟩,hord⟩:=hB
 refine wpIn_region_any hm ?_
 have:=anyR2_anyIn (l0:=l0) (n:=n) (Q':=Q) hpl (fun a w h=>h) _ _ _ _ (start2 hsel hord hC h)
 rw[hlen] at this
 simpa using this
theorem walkR2_read{s i:Nat}{Q:Act→World→Prop}{l:List (Nat×Nat)}{b:Nat→Bool}{a:Act}{w:World}{lo:List Oper}(c:Nat×(World→Prop))(hc:c∈cs)(hs:c.1=s)(h:wpQuiet P lo.toArray c.2 (fun a'=>walkR2 P lo.toArray cs Q l b a' w) ((lo.drop i).take 1) a):walkR2 P lo.toArray cs Q ((s+2,i)::l) b a w:=by
 simp only[walkR2,RP.pick_one]
 rw[if_neg (by omega),if_neg (by omega)]
 exact⟨c,hc,by omega,h⟩
theorem walkR2_any{i:Nat}{Q:Act→World→Prop}{l:List (Nat×Nat)}{b:Nat→Bool}{a:Act}{w:World}{lo:List Oper}(h:wpQuiet P lo.toArray (fun _=>True) (fun a'=>walkR2 P lo.toArray cs Q l b a' w) ((lo.drop i).take 1) a):walkR2 P lo.toArray cs Q ((1,i)::l) b a w:=by
 simp only[walkR2,RP.pick_one]
 exact h
theorem walkR2_move{i:Nat}{Q:Act→World→Prop}{l:List (Nat×Nat)}{b:Nat→Bool}{a:Act}{w:World}{lo:List Oper}
  (h:wpList P lo.toArray (fun e a' w'=>e = .normal∧SafeL cs (fun s=>b s||i==s) w'∧walkR2 P lo.toArray cs Q l (fun s=>b s||i==s) a' w') ((lo.drop i).take 1) a w):walkR2 P lo.toArray cs Q ((0,i)::l) b a w:=by
 simp only[walkR2,RP.pick_one]
 exact h
end
end Go.Proofs.YtnjedhgcfeoemaaGreatDoor

namespace Go.Proofs.YtnjedhgcfeoemaaGreatDoor
open Go.RowKit Go.Shelf
attribute [local go_sem] Oper.semAt_some
structure CellW (p:Addr) (v:Value) where
 w:World
 h:w.cell? p=some v
def nearV (most:Int) (tl:List (Int×Int)):Value :=
 if ∀ x∈tl,okT most x then .tuple #[.int .i64 (lowT tl),.int .i64 (highT tl),.bool true] else .tuple #[.int .i64 0,.int .i64 0,.bool false]
theorem keeps_of_below{W W':World}(h:Below W.heap.size W W'):KeepsOthers W W' :=
 ⟨h.size,fun k _ hk _=>(h.block k (Array.getElem?_eq_some_iff.1 hk).1).trans hk⟩
theorem one_cell{w:World}{g:Nat}{a:Value}{t:TypeId}(h:w.heap[g]?=some (.cells #[a] t (0,0))):w.cell? ⟨g,0,none⟩=some a∧w.frozen? ⟨g,0,none⟩=false :=
 ⟨by rw[cell_of_row w g 0 _ t (0,0) h];rfl,by simp[World.frozen?,h]⟩
theorem boxes5(w:World)(o1:Obj)(v2 v3 v4 v5:Value)(t2 t3 t4 t5:TypeId)(W:World)(hW:((((w.alloc o1).alloc (.cells #[v2] t2)).alloc (.cells #[v3] t3)).alloc (.cells #[v4] t4)).alloc (.cells #[v5] t5)=W):
  W.heap[w.heap.size+1]?=some (.cells #[v2] t2 (0,0))∧W.heap[w.heap.size+1+1]?=some (.cells #[v3] t3 (0,0))∧W.heap[w.heap.size+1+1+1]?=some (.cells #[v4] t4 (0,0))∧W.heap[w.heap.size+1+1+1+1]?=some (.cells #[v5] t5 (0,0)):=by
 subst hW
 refine⟨heap_old (heap_old (heap_old (heap_at _ _ _ _ (by simp)) _) _) _,heap_old (heap_old (heap_at _ _ _ _ (by simp)) _) _,heap_old (heap_at _ _ _ _ (by simp)) _,heap_at _ _ _ _ (by simp)⟩
theorem NearI.quits{B:Nat}{most:Int}{l:List (Int×Int)}{W:World}(h:NearI B most l W):NearX B (((W.setCell ⟨B+1+1,0,none⟩ (.int .i64 0)).setCell ⟨B+1+1+1,0,none⟩ (.int .i64 0)).setCell ⟨B+1+1+1+1,0,none⟩ (.bool false)):=by
 refine⟨?_,?_,?_⟩
 ·rw[World.cell?_setCell_other _ _ _ _ (by simp),World.cell?_setCell_other _ _ _ _ (by simp),World.cell?_setCell_same _ _ _ h.c4]
 ·rw[World.cell?_setCell_other _ _ _ _ (by simp),World.cell?_setCell_same _ _ _ (by rw[World.cell?_setCell_other _ _ _ _ (by simp)];exact h.c5)]
 ·rw[World.cell?_setCell_same _ _ _ (by rw[World.cell?_setCell_other _ _ _ _ (by simp),World.cell?_setCell_other _ _ _ _ (by simp)];exact h.c6)]
theorem near_kt{B:Nat}{W0 W W4:World}(hB:W0.heap.size=B)(hb:Below W0.heap.size W0 W)(hsz:B+5<W.heap.size)(h:Below W.heap.size W W4)(v5 v6:Value):
  KT B (B+5) W ((W4.setCell ⟨B+1+1,0,none⟩ v5).setCell ⟨B+1+1+1,0,none⟩ v6):=by
 subst hB
 refine⟨((h.mono hb.size).setCell (p:=⟨W0.heap.size+1+1,0,none⟩) (by show _≤W0.heap.size+1+1;omega) _).setCell (p:=⟨W0.heap.size+1+1+1,0,none⟩) (by show _≤W0.heap.size+1+1+1;omega) _,?_⟩
 rw[obj_other (g:=W0.heap.size+1+1+1) (k:=W0.heap.size+5) (by omega),obj_other (g:=W0.heap.size+1+1) (k:=W0.heap.size+5) (by omega),h.block _ hsz]
theorem near_below{W0 W:World}(hb:Below W0.heap.size W0 W)(v5 v6:Value):Below W0.heap.size W0 ((W.setCell ⟨W0.heap.size+1+1,0,none⟩ v5).setCell ⟨W0.heap.size+1+1+1,0,none⟩ v6) :=
 (hb.setCell (p:=⟨W0.heap.size+1+1,0,none⟩) (by show _≤W0.heap.size+1+1;omega) _).setCell (p:=⟨W0.heap.size+1+1+1,0,none⟩) (by show _≤W0.heap.size+1+1+1;omega) _
def nearAct (w:World) (b1 b2:Option Addr) (d1 d2 D m:Nat) (most:Int) (p:Int) (k:ByteArray):Act:={ tmps := #[.agg (tcells b1 d1 b2 d2 m D),.int .i64 most,.pointer (some ⟨w.heap.size,0,none⟩),.pointer (some ⟨w.heap.size+1,0,none⟩),.pointer (some ⟨w.heap.size+1+1,0,none⟩),.pointer (some ⟨w.heap.size+1+1+1,0,none⟩),.pointer (some ⟨w.heap.size+1+1+1+1,0,none⟩),.int .i64 p,.string k,undef,undef,undef,undef,undef,.agg #[.slice b1 m d1,.slice b2 m d2,.string (dec D)],.func (.func 241) #[] #[.pointer (some ⟨w.heap.size+1+1+1+1+1,0,none⟩)],.int .i64 p,.string k,undef,undef,undef,undef,undef,undef,undef,undef,undef,undef,undef,undef,undef,undef,undef,undef,undef,undef,undef,undef,undef,undef,undef,undef,undef,undef,undef,undef,undef,undef,undef,undef,undef,undef,undef,undef,undef,undef,undef,undef,undef,undef,undef,undef,undef,undef,undef,undef,undef,undef],defers:=[] }
theorem lowT_snoc(l:List (Int×Int))(x:Int×Int):lowT (l++[x])=lowT l+min (x.2*lgA x.1) (x.2*lgB x.1):=by simp[lowT]
theorem highT_snoc(l:List (Int×Int))(x:Int×Int):highT (l++[x])=highT l+max (x.2*lgA x.1) (x.2*lgB x.1):=by simp[highT]
theorem lgA_le(p:Int)(h1:2≤p)(h2:p≤97):0≤lgA p∧lgA p≤469762048:=by
 unfold lgA
 cases hq:digs p.toNat 62 26 with
 | none=>exact⟨Int.le_refl _,by decide⟩
 | some s =>
  have hfit:=(digs_fit p.toNat (by omega) (by omega) 26 s hq).out
  have:(2:Nat)^26=67108864:=rfl
  simp only
  omega
theorem prod_le{k a:Int}(hk : -10000000≤k∧k≤10000000)(ha:0≤a∧a≤469762049): -4697620490000000≤k*a∧k*a≤4697620490000000:=by
 have h:(k*a).natAbs≤10000000*469762049:=by rw[Int.natAbs_mul];exact Nat.mul_le_mul (by omega) (by omega)
 omega
theorem term_le{most:Int}(hm:most≤10000000){x:Int×Int}(hx:okT most x)(hp:2≤x.1∧x.1≤97):
  (-4697620490000000≤x.2*lgA x.1∧x.2*lgA x.1≤4697620490000000)∧(-4697620490000000≤x.2*lgB x.1∧x.2*lgB x.1≤4697620490000000):=by
 have ha:=lgA_le x.1 hp.1 hp.2
 have hk:=hx.1
 refine⟨prod_le (by omega) (by omega),prod_le (by omega) ?_⟩
 unfold lgB
 split<;>omega
theorem sums_le{most:Int}(hm:most≤10000000):∀ (l:List (Int×Int)),(∀ x∈l,okT most x∧2≤x.1∧x.1≤97) →
  (-((l.length:Int)*4697620490000000)≤lowT l∧lowT l≤(l.length:Int)*4697620490000000)∧(-((l.length:Int)*4697620490000000)≤highT l∧highT l≤(l.length:Int)*4697620490000000)
 | [],_=>⟨⟨Int.le_refl _,Int.le_refl _⟩,⟨Int.le_refl _,Int.le_refl _⟩⟩
 | x::l,h=>by
  have ih:=sums_le hm l (fun y hy=>h y (List.mem_cons_of_mem _ hy))
  have hx:=h x (List.mem_cons_self ..)
  have ht:=term_le hm hx.1 hx.2
  have e1:lowT (x::l)=min (x.2*lgA x.1) (x.2*lgB x.1)+lowT l:=by simp[lowT]
  have e2:highT (x::l)=max (x.2*lgA x.1) (x.2*lgB x.1)+highT l:=by simp[highT]
  rw[e1,e2,List.length_cons]
  omega
theorem near_any(w:World)(b1 b2:Option Addr)(d1 d2 D:Nat)(tl:List (Int×Int))(most:Int)(hm0:0≤most)(hm:most≤10000000)(hl:tl.length≤1000)
  (hr1:Rd w b1 (ints (tl.map Prod.fst))) (hr2:Rd w b2 (strs (tl.map fun x=>itx x.2))) (hp:∀ x∈tl,2≤x.1∧x.1≤97) (hz:∀ x∈tl,ZNum x.2) (L:Laid w) :
  Gives Tryz.prog 210 #[.agg (tcells b1 d1 b2 d2 tl.length D),.int .i64 most] w (nearV most tl):=by
 unfold Gives
 refine(callsIn_wide (n:=3)).1 ?_
 refine callsIn_of_wp_marks Tryz.func210 rfl trivial ?_ rfl
 simp only[Tryz.ntmps210,List.size_toArray,List.length_cons,List.length_nil,Nat.reduceAdd,Nat.reduceSub,Array.replicate_succ,Array.replicate_zero,List.push_toArray,List.append_toArray,List.nil_append,List.cons_append]
 have Hsz:Hid (∀ x∈tl,∀ W,Below w.heap.size w W→Gives Tryz.prog 239 #[.string (itx x.2)] W (if -9223372036854775808≤x.2∧x.2≤9223372036854775807 then .tuple #[.int .i64 x.2,.bool true] else .tuple #[.int .i64 0,.bool false])):=fun x hx W hW=>smallz_any W x.2 (hz x hx) (L.below hW)
 have Hfa:Hid (∀ x∈tl,∀ W,Gives Tryz.prog 240 #[.int .i64 x.1] W (fastV x.1.toNat)):=fun x hx W=>by
  have h1:=hp x hx
  obtain⟨q,hq⟩:=Int.eq_ofNat_of_zero_le (show 0≤x.1 by omega)
  have:=fast_any W q (by omega) (by omega)
  rw[hq]
  exact this
 clear L hz
 gi_wp2_with fail
 obtain⟨w0,hw0⟩:∃ w0,((((w.alloc (Obj.cells (tcells b1 d1 b2 d2 tl.length D) 163)).alloc (Obj.cells #[Value.int IntKind.i64 most] 3)).alloc (Obj.cells #[Value.int IntKind.i64 0] 3)).alloc (Obj.cells #[Value.int IntKind.i64 0] 3)).alloc (Obj.cells #[Value.bool false] 4)=w0:=⟨_,rfl⟩
 have hsz0:w0.heap.size=w.heap.size+5:=by rw[← hw0];simp
 have hB0:Below w.heap.size w w0:=by rw[← hw0];exact(((((Below.refl _ w).alloc nr_ _).alloc (by simp) _).alloc (by simp;omega) _).alloc (by simp;omega) _).alloc (by simp;omega) _
 have hbox:=boxes5 w _ _ _ _ _ _ _ _ _ w0 hw0
 rw[hw0]
 refine⟨trivial,?_⟩
 refine(callsIn_wide.2 (all_any w0 b1 b2 d1 d2 tl.length D)).mono ?_
 rintro e w' ⟨rfl,rfl⟩
 rw[hsz0]
 have hB5:(w0.alloc (.cells (tcells b1 d1 b2 d2 tl.length D) 163)).heap[w.heap.size+5]?=some (.cells (tcells b1 d1 b2 d2 tl.length D) 163 (0,0)):=by
  rw[← hsz0];exact Go.heap_alloc_new w0 _
 have hB1:Below w.heap.size w (w0.alloc (.cells (tcells b1 d1 b2 d2 tl.length D) 163)):=hB0.alloc (by omega) _
 have hsz1:(w0.alloc (.cells (tcells b1 d1 b2 d2 tl.length D) 163)).heap.size=w.heap.size+6:=by rw[World.size_alloc,hsz0]
 have hI1:NearI w.heap.size most [] (w0.alloc (.cells (tcells b1 d1 b2 d2 tl.length D) 163)):=by
  obtain⟨h1,h2,h3,h4⟩:=hbox
  have h1:=heap_old h1 (.cells (tcells b1 d1 b2 d2 tl.length D) 163)
  have h2:=heap_old h2 (.cells (tcells b1 d1 b2 d2 tl.length D) 163)
  have h3:=heap_old h3 (.cells (tcells b1 d1 b2 d2 tl.length D) 163)
  have h4:=heap_old h4 (.cells (tcells b1 d1 b2 d2 tl.length D) 163)
  exact⟨(one_cell h1).1,(one_cell h2).1,(one_cell h3).1,(one_cell h4).1,(one_cell h2).2,(one_cell h3).2,(one_cell h4).2,by rw[hsz1];omega,fun x hx=>by cases hx⟩
 clear hB0 hw0 hbox
 generalize w0.alloc (.cells (tcells b1 d1 b2 d2 tl.length D) 163)=w1 at *
 gi_wp2_with fail
 refine wpIn_rangeFunc_ownF rfl (by decide) (gf:=241) (lb := #[.pointer (some ⟨w.heap.size+5,0,none⟩)]) rfl trivial (enters_of Tryz.func241 (by kernel_rfl) rfl)
  (all_stops 2 (by decide) w w1 hB1 (w.heap.size+5) b1 b2 d1 d2 D tl hl hB5 hr1 hr2) kt_t (kt_b (by rw[hsz1];omega) (by rw[hsz1];omega)) (Below.refl _ _) (fun _=>rfl)
  (fun pre W=>NearI w.heap.size most (pre.map Subtype.val) W∧Below w.heap.size w W)
  (fun c pre W=>(c = .ret∧(∃ x∈tl,¬ okT most x)∧NearX w.heap.size W)∧Below w.heap.size w W)
  (OwnFrom.and (Own.from (fun s A B row hs hg hr=>hs.kept hg hr) _) (ownFrom_below nr_ (by rw[hsz1];omega)))
  (fun c=>OwnFrom.and (Own.from (fun s A B row hs hg hr=>⟨hs.1,hs.2.1,hs.2.2.kept hg hr⟩) _) (ownFrom_below nr_ (by rw[hsz1];omega)))
  ⟨hI1,hB1⟩
  (fun x=>nearAct w b1 b2 d1 d2 D tl.length most x.1.1 (itx x.1.2)) ?assign ?body ?done ?stop
 case assign =>
  intro l x W K hK
  unfold nearAct at hK
  gi_wp2
  exact hK
 case body =>
  rintro l pre ⟨⟨p,k⟩,hmem⟩ W ⟨hI,hB⟩ hlen
  have HI:=hd_ hI
  have HB:=hd_ hB
  have hpp:=hp _ hmem
  have hsm:=Hsz.out _ hmem W hB
  have hfa:=Hfa.out _ hmem
  simp only at hpp hsm hfa
  have Hmem:=hd_ hmem
  unfold nearAct
  clear hI hB hr1 hr2 hI1 hB1 hB5
  have hc3:=HI.out.c3
  have hc4:=HI.out.c4
  have hc5:=HI.out.c5
  have hc6:=HI.out.c6
  have hf4:=HI.out.f4
  have hf5:=HI.out.f5
  have hf6:=HI.out.f6
  by_cases hk64 : -9223372036854775808≤k∧k≤9223372036854775807
  ·rw[if_pos hk64] at hsm
   have hneg:IntKind.i64.wrap (-most) = -most:=iw_ _ (by omega)
   by_cases hk1:k≤most
   ·by_cases hk2 : -most≤k
    ·have hfa2:∀ W,Gives Tryz.prog 240 #[.int .i64 p] W (fastV p.toNat):=hfa
     by_cases hd:(digs p.toNat 62 26).isSome=true
     ·obtain⟨ds,hds⟩:=Option.isSome_iff_exists.1 hd
      have Hds:=hd_ hds
      have Hok:Hid (okT most (p,k)):=⟨⟨hk2,hk1⟩,hd⟩
      have hfv:fastV p.toNat = .tuple #[.int .i64 ds.2.2,.bool true]:=by unfold fastV;rw[hds]
      rw[hfv] at hfa2
      have Hlg:Hid (lgA p=(ds.2.2:Int)):=by show _=_;unfold lgA;rw[hds]
      have hfit:=(digs_fit p.toNat (by omega) (by omega) 26 ds hds).out
      have hout:ds.2.2≤469762048:=by have:(2:Nat)^26=67108864:=rfl;omega
      have hpl:(pre.map Subtype.val).length≤1000:=by rw[List.length_map];omega
      have hso:=sums_le hm (pre.map Subtype.val) (fun x hx=>⟨HI.out.ok x hx,by
       obtain⟨y,_,rfl⟩:=List.mem_map.1 hx
       exact hp _ y.2⟩)
      have hterm:=term_le hm Hok.out hpp
      simp only at hterm
      have Hsn1:Hid (lowT ((pre++[(⟨(p,k),hmem⟩:{x // x∈tl})]).map Subtype.val)=lowT (pre.map Subtype.val)+min (k*lgA p) (k*lgB p)):=by
       show _=_
       rw[List.map_append];exact lowT_snoc _ _
      have Hsn2:Hid (highT ((pre++[(⟨(p,k),hmem⟩:{x // x∈tl})]).map Subtype.val)=highT (pre.map Subtype.val)+max (k*lgA p) (k*lgB p)):=by
       show _=_
       rw[List.map_append];exact highT_snoc _ _
      have Hall:Hid (∀ x∈(pre++[(⟨(p,k),hmem⟩:{x // x∈tl})]).map Subtype.val,okT most x):=fun x hx=>by
       rw[List.map_append] at hx
       rcases List.mem_append.1 hx with h|h
       ·exact HI.out.ok x h
       ·obtain rfl:=List.mem_singleton.1 h;exact Hok.out
      have hlB:lgB p=if p=2 then (ds.2.2:Int) else (ds.2.2:Int)+1:=by unfold lgB;rw[Hlg.out]
      rw[Hlg.out] at hterm
      rw[Hlg.out] at Hsn1 Hsn2
      have hk1':¬ most<k:=by omega
      have hk2':¬ k < -most:=by omega
      have hwb:IntKind.i64.wrap ((ds.2.2:Int)+1)=(ds.2.2:Int)+1:=iw_ _ (by omega)
      clear hd hds hfv hfit hfa hlen hk64
      by_cases hp2:p=2
      ·rw[if_pos hp2] at hlB
       subst hp2
       rw[hlB] at hterm Hsn1 Hsn2
       rw[Int.min_self] at Hsn1
       rw[Int.max_self] at Hsn2
       have hw1:IntKind.i64.wrap (k*(ds.2.2:Int))=k*(ds.2.2:Int):=iw_ _ (by omega)
       clear hlB
       generalize (ds.2.2:Int)=A at *
       obtain⟨lo,hlo⟩:∃ lo,lowT (pre.map Subtype.val)=lo:=⟨_,rfl⟩
       obtain⟨hi,hhi⟩:∃ hi,highT (pre.map Subtype.val)=hi:=⟨_,rfl⟩
       rw[hlo] at hso Hsn1
       rw[hhi] at hso Hsn2
       have Hlo:=hd_ hlo
       have Hhi:=hd_ hhi
       clear hlo hhi
       have hw3:IntKind.i64.wrap (lo+k*A)=lo+k*A:=iw_ _ (by omega)
       have hw4':IntKind.i64.wrap (hi+k*A)=hi+k*A:=iw_ _ (by omega)
       have Hterm:=hd_ hterm
       have Hso:=hd_ hso
       gi_wp2_with fail
       refine⟨trivial,?_⟩
       refine(CallsIn.inRound l (callsIn_wide.2 hsm)).mono ?_
       rintro e w2 ⟨rfl,hb2⟩
       have HI2:=hd_ (HI.out.below hb2)
       have HB2:=hd_ (HB.out.trans (hb2.mono HB.out.size))
       have Hk2:=hd_ (hb2)
       have hc3:=HI2.out.c3
       have hc4:=HI2.out.c4
       have hc5:=HI2.out.c5
       have hc6:=HI2.out.c6
       have hf4:=HI2.out.f4
       have hf5:=HI2.out.f5
       have hf6:=HI2.out.f6
       clear hsm hb2
       gi_wp2_with fail
       refine⟨trivial,?_⟩
       refine(CallsIn.inRound l (callsIn_wide.2 (hfa2 w2))).mono ?_
       rintro e w3 ⟨rfl,hb3⟩
       have HI3:=hd_ (HI2.out.below hb3)
       have HB3:=hd_ (HB2.out.trans (hb3.mono HB2.out.size))
       have Hk3:=hd_ (Hk2.out.trans (hb3.mono Hk2.out.size))
       have hc3:=HI3.out.c3
       have hc4:=HI3.out.c4
       have hc5:=HI3.out.c5
       have hc6:=HI3.out.c6
       have hf4:=HI3.out.f4
       have hf5:=HI3.out.f5
       have hf6:=HI3.out.f6
       clear hfa2 hb3
       gi_wp2_with fail
       have q0:=@CellW.h
       have q9:Nonempty (CellW ⟨w.heap.size+1+1,0,none⟩ (.int .i64 lo)):=⟨⟨w3,by rw[HI3.out.c4,Hlo.out]⟩⟩
       have q8:Nonempty (CellW ⟨w.heap.size+1+1+1,0,none⟩ (.int .i64 hi)):=⟨⟨w3,by rw[HI3.out.c5,Hhi.out]⟩⟩
       refine wpIn_region_readers2 [(20,0),(1,1),(1,2),(1,3),(1,4),(1,5),(1,6),(1,7),(1,8),(21,9),(1,10),(1,11),(1,12),(1,13),(1,14),(1,15),(1,16),(1,17),(0,18),(0,19)]
        [(18,fun w'=>∃ p:CellW ⟨w.heap.size+1+1,0,none⟩ (.int .i64 lo),w'=p.w),(19,fun w'=>∃ p:CellW ⟨w.heap.size+1+1+1,0,none⟩ (.int .i64 hi),w'=p.w)]
        (by kernel_rfl) (by kernel_rfl) ⟨.inr ⟨⟨{ w3 with drawn:=w3.drawn+1 },HI3.out.c4.trans (by rw[Hlo.out])⟩,rfl⟩,.inr ⟨⟨{ w3 with drawn:=w3.drawn+1 },HI3.out.c5.trans (by rw[Hhi.out])⟩,rfl⟩,trivial⟩ ?_
       refine walkR2_read (s:=18) _ (List.mem_cons_self ..) rfl ?_
       simp only[dz_,tsc_,tz_]
       go_big_quiet_step (fail)
       refine wpQuiet_nil ?_
       iterate 8 (refine walkR2_any ?_;simp only[dsc_,dz_,tsc_,tz_];go_big_quiet_step (fail);refine wpQuiet_nil ?_)
       refine walkR2_read (s:=19) _ (List.mem_cons_of_mem _ (List.mem_cons_self ..)) rfl ?_
       simp only[dsc_,dz_,tsc_,tz_]
       go_big_quiet_step (fail)
       refine wpQuiet_nil ?_
       iterate 8 (refine walkR2_any ?_;simp only[dsc_,dz_,tsc_,tz_];go_big_quiet_step (fail);refine wpQuiet_nil ?_)
       clear q0 q8 q9
       obtain⟨w4,hw4⟩:∃ w4:World,{ heap:=w3.heap,tape:=w3.tape,drawn:=w3.drawn+1,os:=w3.os,output:=w3.output }=w4:=⟨_,rfl⟩
       rw[hw4]
       have HI4:Hid (NearI w.heap.size most (pre.map Subtype.val) w4):=by rw[← hw4];exact HI3.out.below ⟨rfl,rfl,rfl,Nat.le_refl _,fun _ _=>rfl⟩
       have HB4:Hid (Below w.heap.size w w4):=by rw[← hw4];exact HB3.out.trans ⟨rfl,rfl,rfl,Nat.le_refl _,fun _ _=>rfl⟩
       have Hk4:Hid (Below W.heap.size W w4):=by rw[← hw4];exact Hk3.out.trans ⟨rfl,rfl,rfl,Nat.le_refl _,fun _ _=>rfl⟩
       clear hw4 hc3 hc4 hc5 hc6 hf4 hf5 hf6
       have hc4:=HI4.out.c4
       have hc5:=HI4.out.c5
       have hf4:=HI4.out.f4
       have hf5:=HI4.out.f5
       refine walkR2_move ?_
       simp only[dsc_,dz_,tsc_,tz_]
       go_wp2_with fail
       obtain⟨v5,hv5⟩:∃ v5:Int,lo+k*A=v5:=⟨_,rfl⟩
       obtain⟨v6,hv6⟩:∃ v6:Int,hi+k*A=v6:=⟨_,rfl⟩
       rw[hv5]
       rw[hv6]
       have hc52:(w4.setCell ⟨w.heap.size+1+1,0,none⟩ (.int .i64 v5)).cell? ⟨w.heap.size+1+1+1,0,none⟩=some (.int .i64 hi):=by
        rw[World.cell?_setCell_other _ _ _ _ (by simp),HI4.out.c5,Hhi.out]
       have hf52:(w4.setCell ⟨w.heap.size+1+1,0,none⟩ (.int .i64 v5)).frozen? ⟨w.heap.size+1+1+1,0,none⟩=false:=by rw[World.frozen?_setCell];exact HI4.out.f5
       refine⟨⟨.inl rfl,.inr ⟨⟨w4.setCell ⟨w.heap.size+1+1,0,none⟩ (.int .i64 v5),hc52⟩,rfl⟩,trivial⟩,?_⟩
       clear hc4 hc5 hf4 hf5
       refine walkR2_move ?_
       simp only[dsc_,dz_,tsc_,tz_]
       go_wp2_with fail
       refine⟨⟨.inl rfl,.inl rfl,trivial⟩,?_⟩
       simp only[walkR2]
       exact⟨(keeps_of_below Hk4.out).trans ((KeepsOthers.setCell _ _ _).trans (KeepsOthers.setCell _ _ _)),near_kt rfl HB.out HI.out.sz Hk4.out _ _,HI4.out.stored (Hsn1.out.trans hv5) (Hsn2.out.trans hv6) Hall.out,near_below HB4.out _ _⟩
      ·rw[if_neg hp2] at hlB
       rw[hlB] at hterm Hsn1 Hsn2
       have hpe:(p==2)=false:=by rw[beq_eq_false_iff_ne];exact hp2
       have hw1:IntKind.i64.wrap (k*(ds.2.2:Int))=k*(ds.2.2:Int):=iw_ _ (by omega)
       have hw2:IntKind.i64.wrap (k*((ds.2.2:Int)+1))=k*((ds.2.2:Int)+1):=iw_ _ (by omega)
       clear hlB
       generalize (ds.2.2:Int)=A at *
       obtain⟨lo,hlo⟩:∃ lo,lowT (pre.map Subtype.val)=lo:=⟨_,rfl⟩
       obtain⟨hi,hhi⟩:∃ hi,highT (pre.map Subtype.val)=hi:=⟨_,rfl⟩
       rw[hlo] at hso Hsn1
       rw[hhi] at hso Hsn2
       have Hlo:=hd_ hlo
       have Hhi:=hd_ hhi
       clear hlo hhi
       have hw3:IntKind.i64.wrap (lo+min (k*A) (k*(A+1)))=lo+min (k*A) (k*(A+1)):=iw_ _ (by omega)
       have hw4':IntKind.i64.wrap (hi+max (k*A) (k*(A+1)))=hi+max (k*A) (k*(A+1)):=iw_ _ (by omega)
       have Hterm:=hd_ hterm
       have Hso:=hd_ hso
       gi_wp2_with fail
       refine⟨trivial,?_⟩
       refine(CallsIn.inRound l (callsIn_wide.2 hsm)).mono ?_
       rintro e w2 ⟨rfl,hb2⟩
       have HI2:=hd_ (HI.out.below hb2)
       have HB2:=hd_ (HB.out.trans (hb2.mono HB.out.size))
       have Hk2:=hd_ (hb2)
       have hc3:=HI2.out.c3
       have hc4:=HI2.out.c4
       have hc5:=HI2.out.c5
       have hc6:=HI2.out.c6
       have hf4:=HI2.out.f4
       have hf5:=HI2.out.f5
       have hf6:=HI2.out.f6
       clear hsm hb2
       gi_wp2_with fail
       refine⟨trivial,?_⟩
       refine(CallsIn.inRound l (callsIn_wide.2 (hfa2 w2))).mono ?_
       rintro e w3 ⟨rfl,hb3⟩
       have HI3:=hd_ (HI2.out.below hb3)
       have HB3:=hd_ (HB2.out.trans (hb3.mono HB2.out.size))
       have Hk3:=hd_ (Hk2.out.trans (hb3.mono Hk2.out.size))
       have hc3:=HI3.out.c3
       have hc4:=HI3.out.c4
       have hc5:=HI3.out.c5
       have hc6:=HI3.out.c6
       have hf4:=HI3.out.f4
       have hf5:=HI3.out.f5
       have hf6:=HI3.out.f6
       clear hfa2 hb3
       gi_wp2_with fail
       have q0:=@CellW.h
       have q9:Nonempty (CellW ⟨w.heap.size+1+1,0,none⟩ (.int .i64 lo)):=⟨⟨w3,by rw[HI3.out.c4,Hlo.out]⟩⟩
       have q8:Nonempty (CellW ⟨w.heap.size+1+1+1,0,none⟩ (.int .i64 hi)):=⟨⟨w3,by rw[HI3.out.c5,Hhi.out]⟩⟩
       refine wpIn_region_readers2 [(20,0),(1,1),(1,2),(1,3),(1,4),(1,5),(1,6),(1,7),(1,8),(21,9),(1,10),(1,11),(1,12),(1,13),(1,14),(1,15),(1,16),(1,17),(0,18),(0,19)]
        [(18,fun w'=>∃ p:CellW ⟨w.heap.size+1+1,0,none⟩ (.int .i64 lo),w'=p.w),(19,fun w'=>∃ p:CellW ⟨w.heap.size+1+1+1,0,none⟩ (.int .i64 hi),w'=p.w)]
        (by kernel_rfl) (by kernel_rfl) ⟨.inr ⟨⟨{ w3 with drawn:=w3.drawn+1 },HI3.out.c4.trans (by rw[Hlo.out])⟩,rfl⟩,.inr ⟨⟨{ w3 with drawn:=w3.drawn+1 },HI3.out.c5.trans (by rw[Hhi.out])⟩,rfl⟩,trivial⟩ ?_
       refine walkR2_read (s:=18) _ (List.mem_cons_self ..) rfl ?_
       simp only[dz_,tsc_,tz_]
       go_big_quiet_step (fail)
       refine wpQuiet_nil ?_
       iterate 8 (refine walkR2_any ?_;simp only[dsc_,dz_,tsc_,tz_];go_big_quiet_step (fail);refine wpQuiet_nil ?_)
       refine walkR2_read (s:=19) _ (List.mem_cons_of_mem _ (List.mem_cons_self ..)) rfl ?_
       simp only[dsc_,dz_,tsc_,tz_]
       go_big_quiet_step (fail)
       refine wpQuiet_nil ?_
       iterate 8 (refine walkR2_any ?_;simp only[dsc_,dz_,tsc_,tz_];go_big_quiet_step (fail);refine wpQuiet_nil ?_)
       clear q0 q8 q9
       obtain⟨w4,hw4⟩:∃ w4:World,{ heap:=w3.heap,tape:=w3.tape,drawn:=w3.drawn+1,os:=w3.os,output:=w3.output }=w4:=⟨_,rfl⟩
       rw[hw4]
       have HI4:Hid (NearI w.heap.size most (pre.map Subtype.val) w4):=by rw[← hw4];exact HI3.out.below ⟨rfl,rfl,rfl,Nat.le_refl _,fun _ _=>rfl⟩
       have HB4:Hid (Below w.heap.size w w4):=by rw[← hw4];exact HB3.out.trans ⟨rfl,rfl,rfl,Nat.le_refl _,fun _ _=>rfl⟩
       have Hk4:Hid (Below W.heap.size W w4):=by rw[← hw4];exact Hk3.out.trans ⟨rfl,rfl,rfl,Nat.le_refl _,fun _ _=>rfl⟩
       clear hw4 hc3 hc4 hc5 hc6 hf4 hf5 hf6
       have hc4:=HI4.out.c4
       have hc5:=HI4.out.c5
       have hf4:=HI4.out.f4
       have hf5:=HI4.out.f5
       refine walkR2_move ?_
       simp only[dsc_,dz_,tsc_,tz_]
       go_wp2_with fail
       obtain⟨v5,hv5⟩:∃ v5:Int,lo+min (k*A) (k*(A+1))=v5:=⟨_,rfl⟩
       obtain⟨v6,hv6⟩:∃ v6:Int,hi+max (k*A) (k*(A+1))=v6:=⟨_,rfl⟩
       rw[hv5]
       rw[hv6]
       have hc52:(w4.setCell ⟨w.heap.size+1+1,0,none⟩ (.int .i64 v5)).cell? ⟨w.heap.size+1+1+1,0,none⟩=some (.int .i64 hi):=by
        rw[World.cell?_setCell_other _ _ _ _ (by simp),HI4.out.c5,Hhi.out]
       have hf52:(w4.setCell ⟨w.heap.size+1+1,0,none⟩ (.int .i64 v5)).frozen? ⟨w.heap.size+1+1+1,0,none⟩=false:=by rw[World.frozen?_setCell];exact HI4.out.f5
       refine⟨⟨.inl rfl,.inr ⟨⟨w4.setCell ⟨w.heap.size+1+1,0,none⟩ (.int .i64 v5),hc52⟩,rfl⟩,trivial⟩,?_⟩
       clear hc4 hc5 hf4 hf5
       refine walkR2_move ?_
       simp only[dsc_,dz_,tsc_,tz_]
       go_wp2_with fail
       refine⟨⟨.inl rfl,.inl rfl,trivial⟩,?_⟩
       simp only[walkR2]
       exact⟨(keeps_of_below Hk4.out).trans ((KeepsOthers.setCell _ _ _).trans (KeepsOthers.setCell _ _ _)),near_kt rfl HB.out HI.out.sz Hk4.out _ _,HI4.out.stored (Hsn1.out.trans hv5) (Hsn2.out.trans hv6) Hall.out,near_below HB4.out _ _⟩
     ·have Hbad:Hid (∃ x∈tl,¬ okT most x):=⟨(p,k),Hmem.out,fun h=>hd h.2⟩
      have hfv:fastV p.toNat = .tuple #[.int .i64 0,.bool false]:=by
       unfold fastV
       cases hq:digs p.toNat 62 26 with
       | none=>rfl
       | some s=>rw[hq] at hd;exact absurd rfl hd
      rw[hfv] at hfa2
      have hk1':¬ most<k:=by omega
      have hk2':¬ k < -most:=by omega
      clear hd hfv hfa
      gi_wp2_with fail
      refine⟨trivial,?_⟩
      refine(CallsIn.inRound l (callsIn_wide.2 hsm)).mono ?_
      rintro e w2 ⟨rfl,hb2⟩
      have HI2:=hd_ (HI.out.below hb2)
      have HB2:=hd_ (HB.out.trans (hb2.mono HB.out.size))
      have Hk2:=hd_ (hb2)
      have hc3:=HI2.out.c3
      have hc4:=HI2.out.c4
      have hc5:=HI2.out.c5
      have hc6:=HI2.out.c6
      have hf4:=HI2.out.f4
      have hf5:=HI2.out.f5
      have hf6:=HI2.out.f6
      clear hsm hb2
      gi_wp2_with fail
      refine⟨trivial,?_⟩
      refine(CallsIn.inRound l (callsIn_wide.2 (hfa2 w2))).mono ?_
      rintro e w3 ⟨rfl,hb3⟩
      have HI3:=hd_ (HI2.out.below hb3)
      have HB3:=hd_ (HB2.out.trans (hb3.mono HB2.out.size))
      have Hk3:=hd_ (Hk2.out.trans (hb3.mono Hk2.out.size))
      have hc3:=HI3.out.c3
      have hc4:=HI3.out.c4
      have hc5:=HI3.out.c5
      have hc6:=HI3.out.c6
      have hf4:=HI3.out.f4
      have hf5:=HI3.out.f5
      have hf6:=HI3.out.f6
      clear hfa2 hb3
      gi_wp2
      exact⟨(keeps_of_below Hk3.out).trans (((KeepsOthers.setCell _ _ _).trans (KeepsOthers.setCell _ _ _)).trans (KeepsOthers.setCell _ _ _)),⟨rfl,Hbad.out,HI3.out.quits⟩,
       ((HB3.out.setCell (p:=⟨w.heap.size+1+1,0,none⟩) (by simp;omega) _).setCell (p:=⟨w.heap.size+1+1+1,0,none⟩) (by simp;omega) _).setCell (p:=⟨w.heap.size+1+1+1+1,0,none⟩) (by simp;omega) _⟩
    ·have Hbad:Hid (∃ x∈tl,¬ okT most x):=⟨(p,k),Hmem.out,fun h=>hk2 h.1.1⟩
     have hk1':¬ most<k:=by omega
     have hk2':k < -most:=by omega
     clear hfa
     gi_wp2_with fail
     refine⟨trivial,?_⟩
     refine(CallsIn.inRound l (callsIn_wide.2 hsm)).mono ?_
     rintro e w2 ⟨rfl,hb2⟩
     have HI2:=hd_ (HI.out.below hb2)
     have HB2:=hd_ (HB.out.trans (hb2.mono HB.out.size))
     have Hk2:=hd_ (hb2)
     have hc3:=HI2.out.c3
     have hc4:=HI2.out.c4
     have hc5:=HI2.out.c5
     have hc6:=HI2.out.c6
     have hf4:=HI2.out.f4
     have hf5:=HI2.out.f5
     have hf6:=HI2.out.f6
     clear hsm hb2
     gi_wp2
     exact⟨(keeps_of_below Hk2.out).trans (((KeepsOthers.setCell _ _ _).trans (KeepsOthers.setCell _ _ _)).trans (KeepsOthers.setCell _ _ _)),⟨rfl,Hbad.out,HI2.out.quits⟩,
      ((HB2.out.setCell (p:=⟨w.heap.size+1+1,0,none⟩) (by simp;omega) _).setCell (p:=⟨w.heap.size+1+1+1,0,none⟩) (by simp;omega) _).setCell (p:=⟨w.heap.size+1+1+1+1,0,none⟩) (by simp;omega) _⟩
   ·have Hbad:Hid (∃ x∈tl,¬ okT most x):=⟨(p,k),Hmem.out,fun h=>hk1 h.1.2⟩
    have hk1':most<k:=by omega
    clear hfa
    gi_wp2_with fail
    refine⟨trivial,?_⟩
    refine(CallsIn.inRound l (callsIn_wide.2 hsm)).mono ?_
    rintro e w2 ⟨rfl,hb2⟩
    have HI2:=hd_ (HI.out.below hb2)
    have HB2:=hd_ (HB.out.trans (hb2.mono HB.out.size))
    have Hk2:=hd_ (hb2)
    have hc3:=HI2.out.c3
    have hc4:=HI2.out.c4
    have hc5:=HI2.out.c5
    have hc6:=HI2.out.c6
    have hf4:=HI2.out.f4
    have hf5:=HI2.out.f5
    have hf6:=HI2.out.f6
    clear hsm hb2
    gi_wp2
    exact⟨(keeps_of_below Hk2.out).trans (((KeepsOthers.setCell _ _ _).trans (KeepsOthers.setCell _ _ _)).trans (KeepsOthers.setCell _ _ _)),⟨rfl,Hbad.out,HI2.out.quits⟩,
     ((HB2.out.setCell (p:=⟨w.heap.size+1+1,0,none⟩) (by simp;omega) _).setCell (p:=⟨w.heap.size+1+1+1,0,none⟩) (by simp;omega) _).setCell (p:=⟨w.heap.size+1+1+1+1,0,none⟩) (by simp;omega) _⟩
  ·rw[if_neg hk64] at hsm
   have Hbad:Hid (∃ x∈tl,¬ okT most x):=⟨(p,k),Hmem.out,fun h=>hk64 ⟨by have:=h.1.1;simp only at this;omega,by have:=h.1.2;simp only at this;omega⟩⟩
   clear hfa
   gi_wp2_with fail
   refine⟨trivial,?_⟩
   refine(CallsIn.inRound l (callsIn_wide.2 hsm)).mono ?_
   rintro e w2 ⟨rfl,hb2⟩
   have HI2:=hd_ (HI.out.below hb2)
   have HB2:=hd_ (HB.out.trans (hb2.mono HB.out.size))
   have Hk2:=hd_ (hb2)
   have hc3:=HI2.out.c3
   have hc4:=HI2.out.c4
   have hc5:=HI2.out.c5
   have hc6:=HI2.out.c6
   have hf4:=HI2.out.f4
   have hf5:=HI2.out.f5
   have hf6:=HI2.out.f6
   clear hsm hb2
   gi_wp2
   exact⟨(keeps_of_below Hk2.out).trans (((KeepsOthers.setCell _ _ _).trans (KeepsOthers.setCell _ _ _)).trans (KeepsOthers.setCell _ _ _)),⟨rfl,Hbad.out,HI2.out.quits⟩,
    ((HB2.out.setCell (p:=⟨w.heap.size+1+1,0,none⟩) (by simp;omega) _).setCell (p:=⟨w.heap.size+1+1+1,0,none⟩) (by simp;omega) _).setCell (p:=⟨w.heap.size+1+1+1+1,0,none⟩) (by simp;omega) _⟩
 case done =>
  rintro D' ys W hD rfl ⟨hI,hB⟩ hK
  rw[List.attach_map_subtype_val] at hI
  have hv:nearV most tl = .tuple #[.int .i64 (lowT tl),.int .i64 (highT tl),.bool true]:=by unfold nearV;rw[if_pos hI.ok]
  have Hv:=hd_ hv
  have HI:=hd_ hI
  have HB:=hd_ hB
  have HK:=hd_ hK
  have hc4:=HI.out.c4
  have hc5:=HI.out.c5
  have hc6:=HI.out.c6
  have hf4:=HI.out.f4
  have hf5:=HI.out.f5
  have hf6:=HI.out.f6
  clear hv hI hB hK hr1 hr2 hI1 hB1 hB5 Hsz Hfa
  generalize lowT tl=lo at *
  generalize highT tl=hi at *
  gi_wp2_with fail
  gi_region
  gi_wp2
  clear hc4 hc5 hc6 hf4 hf5 hf6
  have e4:(((W.setCell { block:=w.heap.size+1+1,off:=0 } (Value.int IntKind.i64 lo)).setCell { block:=w.heap.size+1+1+1,off:=0 } (Value.int IntKind.i64 hi)).setCell { block:=w.heap.size+1+1+1+1,off:=0 } (Value.bool true)).drew.cell? ⟨w.heap.size+1+1,0,none⟩=some (.int .i64 lo):=by
   show World.cell? (((W.setCell { block:=w.heap.size+1+1,off:=0 } (Value.int IntKind.i64 lo)).setCell { block:=w.heap.size+1+1+1,off:=0 } (Value.int IntKind.i64 hi)).setCell { block:=w.heap.size+1+1+1+1,off:=0 } (Value.bool true)) _=_
   rw[World.cell?_setCell_other _ _ _ _ (by simp),World.cell?_setCell_other _ _ _ _ (by simp),World.cell?_setCell_same _ _ _ HI.out.c4]
  have e5:(((W.setCell { block:=w.heap.size+1+1,off:=0 } (Value.int IntKind.i64 lo)).setCell { block:=w.heap.size+1+1+1,off:=0 } (Value.int IntKind.i64 hi)).setCell { block:=w.heap.size+1+1+1+1,off:=0 } (Value.bool true)).drew.cell? ⟨w.heap.size+1+1+1,0,none⟩=some (.int .i64 hi):=by
   show World.cell? (((W.setCell { block:=w.heap.size+1+1,off:=0 } (Value.int IntKind.i64 lo)).setCell { block:=w.heap.size+1+1+1,off:=0 } (Value.int IntKind.i64 hi)).setCell { block:=w.heap.size+1+1+1+1,off:=0 } (Value.bool true)) _=_
   rw[World.cell?_setCell_other _ _ _ _ (by simp),World.cell?_setCell_same _ _ _ (by rw[World.cell?_setCell_other _ _ _ _ (by simp)];exact HI.out.c5)]
  have e6:(((W.setCell { block:=w.heap.size+1+1,off:=0 } (Value.int IntKind.i64 lo)).setCell { block:=w.heap.size+1+1+1,off:=0 } (Value.int IntKind.i64 hi)).setCell { block:=w.heap.size+1+1+1+1,off:=0 } (Value.bool true)).drew.cell? ⟨w.heap.size+1+1+1+1,0,none⟩=some (.bool true):=by
   show World.cell? (((W.setCell { block:=w.heap.size+1+1,off:=0 } (Value.int IntKind.i64 lo)).setCell { block:=w.heap.size+1+1+1,off:=0 } (Value.int IntKind.i64 hi)).setCell { block:=w.heap.size+1+1+1+1,off:=0 } (Value.bool true)) _=_
   rw[World.cell?_setCell_same _ _ _ (by rw[World.cell?_setCell_other _ _ _ _ (by simp),World.cell?_setCell_other _ _ _ _ (by simp)];exact HI.out.c6)]
  have hk9:=(((KeepsOthers.setCell W ⟨w.heap.size+1+1,0,none⟩ (.int .i64 lo)).trans (KeepsOthers.setCell _ ⟨w.heap.size+1+1+1,0,none⟩ (.int .i64 hi))).trans (KeepsOthers.setCell _ ⟨w.heap.size+1+1+1+1,0,none⟩ (.bool true))).trans (KeepsOthers.drew _)
  have hK9:=hk9.same D' _ HK.out rfl
  have hb9:=(((HB.out.setCell (p:=⟨w.heap.size+1+1,0,none⟩) (by show _≤w.heap.size+1+1;omega) (.int .i64 lo)).setCell (p:=⟨w.heap.size+1+1+1,0,none⟩) (by show _≤w.heap.size+1+1+1;omega) (.int .i64 hi)).setCell (p:=⟨w.heap.size+1+1+1+1,0,none⟩) (by show _≤w.heap.size+1+1+1+1;omega) (.bool true)).drew
  generalize (((W.setCell { block:=w.heap.size+1+1,off:=0 } (Value.int IntKind.i64 lo)).setCell { block:=w.heap.size+1+1+1,off:=0 } (Value.int IntKind.i64 hi)).setCell { block:=w.heap.size+1+1+1+1,off:=0 } (Value.bool true)).drew=w9 at *
  have g4:=cell_kept e4 (grownBy_putObj' _ D' (.deferred none)) (fun r e=>by cases e;exact⟨_,hK9,rfl⟩)
  have g5:=cell_kept e5 (grownBy_putObj' _ D' (.deferred none)) (fun r e=>by cases e;exact⟨_,hK9,rfl⟩)
  have g6:=cell_kept e6 (grownBy_putObj' _ D' (.deferred none)) (fun r e=>by cases e;exact⟨_,hK9,rfl⟩)
  refine⟨by simp,.inl ⟨_,_,rfl,run_takeDeferred hK9,?_⟩⟩
  refine⟨.tuple #[.int .i64 lo,.int .i64 hi,.bool true],?_,by rw[Hv.out],hb9.trans (belowK_b (w:=w) nr_ w9 D' _ _ (by rw[hsz1] at hD;omega) hK9 rfl rfl)⟩
  simp[results,Tryz.results210,go_sem,g4,g5,g6]
 case stop =>
  rintro D' c pre W hD hSp ⟨⟨rfl,hbad,hX⟩,hB⟩ hK
  have hv:nearV most tl = .tuple #[.int .i64 0,.int .i64 0,.bool false]:=by
   unfold nearV
   rw[if_neg]
   intro h
   obtain⟨x,hx,hn⟩:=hbad
   exact hn (h x hx)
  have g4:=cell_kept hX.c4 (grownBy_putObj' _ D' (.deferred none)) (fun r e=>by cases e;exact⟨_,hK,rfl⟩)
  have g5:=cell_kept hX.c5 (grownBy_putObj' _ D' (.deferred none)) (fun r e=>by cases e;exact⟨_,hK,rfl⟩)
  have g6:=cell_kept hX.c6 (grownBy_putObj' _ D' (.deferred none)) (fun r e=>by cases e;exact⟨_,hK,rfl⟩)
  gi_wp2
  refine⟨by simp,.inl ⟨_,_,rfl,run_takeDeferred hK,?_⟩⟩
  refine⟨.tuple #[.int .i64 0,.int .i64 0,.bool false],?_,by rw[hv],hB.trans (belowK_b (w:=w) nr_ W D' _ _ (by rw[hsz1] at hD;omega) hK rfl rfl)⟩
  simp[results,Tryz.results210,go_sem,g4,g5,g6]
end Go.Proofs.YtnjedhgcfeoemaaGreatDoor

namespace Go.Proofs.YtnjedhgcfeoemaaGreatDoor
open Go.RowKit
theorem downward_any(w:World)(a b:Int)(ha : -4000000000000000000≤a∧a≤4000000000000000000)(hb:0<b)(hb2:b≤4000000000000000000):
  Gives Tryz.prog 247 #[.int .i64 a,.int .i64 b] w (.int .i64 (a/b)):=by
 unfold Gives
 have hbz:(b==0)=false:=by rw[beq_eq_false_iff_ne];omega
 by_cases h:a<0
 ·have hw1:IntKind.i64.wrap (-a) = -a:=iw_ _ (by omega)
  have hw2:IntKind.i64.wrap (-a+b) = -a+b:=iw_ _ (by omega)
  have hw3:IntKind.i64.wrap (-a+b-1) = -a+b-1:=iw_ _ (by omega)
  have e1:Int.tdiv (-a+b-1) b=(-a+b-1)/b:=Int.tdiv_eq_ediv_of_nonneg (by omega)
  have q1:0≤(-a+b-1)/b:=Int.ediv_nonneg (by omega) (by omega)
  have q2:(-a+b-1)/b ≤ -a+b-1:=Int.ediv_le_self _ (by omega)
  have hw4:IntKind.i64.wrap ((-a+b-1)/b)=(-a+b-1)/b:=iw_ _ (by omega)
  have hw5:IntKind.i64.wrap (-((-a+b-1)/b)) = -((-a+b-1)/b):=iw_ _ (by omega)
  have Hv:Hid (a/b = -((-a+b-1)/b)):=by
   show _=_
   have h1:=Int.emod_add_mul_ediv (-a+b-1) b
   have h2:=Int.emod_nonneg (-a+b-1) (show b≠0 by omega)
   have h3:=Int.emod_lt_of_pos (-a+b-1) hb
   generalize (-a+b-1)/b=q at *
   generalize (-a+b-1)%b=r at *
   have e2:a=(b-1-r)+b*(-q):=by rw[Int.mul_neg];omega
   rw[e2,Int.add_mul_ediv_left _ _ (show b≠0 by omega),Int.ediv_eq_zero_of_lt (by omega) (by omega)]
   omega
  generalize (-a+b-1)/b=q at *
  go_enter Tryz.func247,Tryz.ntmps247
  go_wp2
  go_ret
  exact⟨by rw[Hv.out];rfl,Below.refl _ _⟩
 ·have e1:Int.tdiv a b=a/b:=Int.tdiv_eq_ediv_of_nonneg (by omega)
  have q1:0≤a/b:=Int.ediv_nonneg (by omega) (by omega)
  have q2:a/b≤a:=Int.ediv_le_self _ (by omega)
  have hw4:IntKind.i64.wrap (a/b)=a/b:=iw_ _ (by omega)
  generalize a/b=q at *
  go_enter Tryz.func247,Tryz.ntmps247
  go_wp2
  go_ret
  exact⟨rfl,Below.refl _ _⟩
theorem lowest_neg(w:World)(n:Int)(d g:Nat)(hn:ZNum n)(hd:Num d)(hd0:0<d)(hn1:Num (n.natAbs+1))(hd1:Num (d+1))(hg:Nat.gcd n.natAbs d=g)(L:Laid w):
  Gives Tryz.prog 125 #[.string (itx (-n)),.string (itx (-(d:Int)))] w (fv (n/(g:Int)) (d/g)):=by
 unfold Gives fv
 have hg0:0<g:=by rw[← hg];exact Nat.gcd_pos_of_pos_right _ hd0
 have hgl:g≤d:=by rw[← hg];exact Nat.gcd_le_right _ hd0
 have hgn:Num g:=hd.le hgl
 have Hb0:=hd_ ((Below.refl w.heap.size w).alloc nr_ (.cells #[.string ⟨#[]⟩,.string ⟨#[]⟩] 42))
 have Hnew:Hid ((w.alloc (.cells #[.string ⟨#[]⟩,.string ⟨#[]⟩] 42)).heap[w.heap.size]?=some (.cells #[.string ⟨#[]⟩,.string ⟨#[]⟩] 42 (0,0))):=heap_alloc_new w _
 have HL:=hd_ (L.below Hb0.out)
 have Hsg:Hid (∀ W,Gives Tryz.prog 84 #[.string (itx (-(d:Int)))] W (.int .i64 (-1))):=fun W=>by
  have:=sign_any W (-(d:Int))
  rw[Int.sign_eq_neg_one_of_neg (show -(d:Int)<0 by omega)] at this
  exact this
 have Hn1:Hid (∀ W,Gives Tryz.prog 71 #[.string (itx (-n))] W (.string (itx n))):=fun W=>by
  have:=neg_any W (-n) (show Num _ by rw[Int.natAbs_neg];exact hn)
  rw[Int.neg_neg] at this
  exact this
 have Hn2:Hid (∀ W,Gives Tryz.prog 71 #[.string (itx (-(d:Int)))] W (.string (dec d))):=fun W=>by
  have:=neg_any W (-(d:Int)) (show Num _ by rw[Int.natAbs_neg];exact hd)
  rw[Int.neg_neg,itx_nat] at this
  exact this
 clear L
 go_enter Tryz.func125,Tryz.ntmps125
 go_wp2_with fail
 generalize w.alloc (.cells #[.string ⟨#[]⟩,.string ⟨#[]⟩] 42)=W0 at *
 have Hgc:Hid (∀ W,Below W0.heap.size W0 W→Gives Tryz.prog 188 #[.string (itx n),.string (dec d)] W (.string (dec g))):=fun W hW=>by
  have:=gcdz_any W n (d:Int) hn (show Num _ from hd) (HL.out.below hW)
  rw[itx_nat,show Int.gcd n (d:Int)=g from hg] at this
  exact this
 have Hd1:Hid (∀ W,Below W0.heap.size W0 W→Gives Tryz.prog 163 #[.string (itx n),.string (dec g)] W (.tuple #[.string (itx (n/(g:Int))),.string (itx (n%(g:Int))),.int .i64 0])):=fun W hW=>divmodz_any W n g hn hgn hg0 hn1 (HL.out.below hW)
 have Hd2:Hid (∀ W,Below W0.heap.size W0 W→Gives Tryz.prog 163 #[.string (dec d),.string (dec g)] W (.tuple #[.string (dec (d/g)),.string (itx ((d:Int)%(g:Int))),.int .i64 0])):=fun W hW=>by
  have:=divmodz_any W (d:Int) g (show Num _ from hd) hgn hg0 (show Num (d+1) from hd1) (HL.out.below hW)
  rw[itx_nat,show (d:Int)/(g:Int)=((d/g:Nat):Int) from rfl,itx_nat] at this
  exact this
 have ho:=is_one g
 by_cases h1:g=1
 ·have Hrs:Hid (itx (n/(g:Int))=itx n):=by show _=_;rw[h1];congr 1;exact Int.ediv_one n
  have Hrt:Hid (dec (d/g)=dec d):=by show _=_;rw[h1,Nat.div_one]
  rw[decide_eq_true h1] at ho
  clear h1 Hd1 Hd2 hg hg0 hgl hgn hn hd hn1 hd1
  obtain⟨s,hs⟩:∃ s,itx n=s:=⟨_,rfl⟩
  obtain⟨t,ht⟩:∃ t,dec d=t:=⟨_,rfl⟩
  rw[hs] at Hrs Hgc Hn1
  rw[ht] at Hrt Hgc Hn2
  clear hs ht
  generalize itx (-n)=ns at *
  generalize itx (-(d:Int))=nd at *
  generalize dec g=u at *
  refine cm_ (Hsg.out _) ?_
  rintro e w1 ⟨rfl,hb1⟩
  have Hb1:=hd_ hb1
  clear hb1 Hsg
  go_wp2_with fail
  refine cm_ (Hn1.out _) ?_
  rintro e w5 ⟨rfl,hb5⟩
  have Hb5:=hd_ (Hb1.out.trans (hb5.mono Hb1.out.size))
  clear hb5 Hb1 Hn1
  go_wp2_with fail
  refine cm_ (Hn2.out _) ?_
  rintro e w6 ⟨rfl,hb6⟩
  have Hb6:=hd_ (Hb5.out.trans (hb6.mono Hb5.out.size))
  clear hb6 Hb5 Hn2
  go_wp2_with fail
  refine cm_ (Hgc.out w6 Hb6.out) ?_
  rintro e w2 ⟨rfl,hb2⟩
  have Hb2:=hd_ (Hb6.out.trans (hb2.mono Hb6.out.size))
  clear hb2 Hb6 Hgc
  have Hcell:=hd_ (stored_cell Hnew.out Hb2.out)
  have Hbw:=hd_ (Hb0.out.trans (Hb2.out.mono Hb0.out.size))
  obtain⟨k0,k1,f0,f1⟩:=two_cells Hcell.out
  clear Hb2 Hb0 Hcell Hnew HL
  go_wp2
  obtain⟨c0,c1,hb3⟩:=two_stored (.string s) (.string t) k0 k1 nr_ Hbw.out
  generalize (w2.setCell ⟨w.heap.size,0,none⟩ (.string s)).setCell ⟨w.heap.size,1,none⟩ (.string t)=w9 at *
  exact bodyPost_ret (v := .agg #[.string s,.string t]) (by simp[results,Tryz.results125,go_sem,c0,c1]) rfl ⟨by rw[Hrs.out,Hrt.out],hb3⟩
 ·rw[decide_eq_false h1] at ho
  obtain⟨rs,hrs⟩:∃ rs,itx (n/(g:Int))=rs:=⟨_,rfl⟩
  obtain⟨rt,hrt⟩:∃ rt,dec (d/g)=rt:=⟨_,rfl⟩
  rw[hrs] at Hd1
  rw[hrt] at Hd2
  have Hrs:=hd_ hrs
  have Hrt:=hd_ hrt
  clear h1 hg hg0 hgl hgn hn hd hn1 hd1 hrs hrt
  generalize itx (n%(g:Int))=e1 at Hd1
  generalize itx ((d:Int)%(g:Int))=e2 at Hd2
  obtain⟨s,hs⟩:∃ s,itx n=s:=⟨_,rfl⟩
  obtain⟨t,ht⟩:∃ t,dec d=t:=⟨_,rfl⟩
  obtain⟨u,hu⟩:∃ u,dec g=u:=⟨_,rfl⟩
  rw[hs] at Hd1 Hgc Hn1
  rw[ht] at Hd2 Hgc Hn2
  rw[hu] at Hd1 Hd2 Hgc ho
  clear hs ht hu
  generalize itx (-n)=ns at *
  generalize itx (-(d:Int))=nd at *
  refine cm_ (Hsg.out _) ?_
  rintro e w1 ⟨rfl,hb1⟩
  have Hb1:=hd_ hb1
  clear hb1 Hsg
  go_wp2_with fail
  refine cm_ (Hn1.out _) ?_
  rintro e w5 ⟨rfl,hb5⟩
  have Hb5:=hd_ (Hb1.out.trans (hb5.mono Hb1.out.size))
  clear hb5 Hb1 Hn1
  go_wp2_with fail
  refine cm_ (Hn2.out _) ?_
  rintro e w6 ⟨rfl,hb6⟩
  have Hb6:=hd_ (Hb5.out.trans (hb6.mono Hb5.out.size))
  clear hb6 Hb5 Hn2
  go_wp2_with fail
  refine cm_ (Hgc.out w6 Hb6.out) ?_
  rintro e w2 ⟨rfl,hb2⟩
  have Hb2:=hd_ (Hb6.out.trans (hb2.mono Hb6.out.size))
  clear hb2 Hb6 Hgc
  go_wp2_with fail
  refine cm_ (Hd1.out w2 Hb2.out) ?_
  rintro e w3 ⟨rfl,hb3⟩
  have Hb3:=hd_ (Hb2.out.trans (hb3.mono Hb2.out.size))
  clear hb3 Hb2 Hd1
  go_wp2_with fail
  refine cm_ (Hd2.out w3 Hb3.out) ?_
  rintro e w4 ⟨rfl,hb4⟩
  have Hb4:=hd_ (Hb3.out.trans (hb4.mono Hb3.out.size))
  clear hb4 Hb3 Hd2
  have Hcell:=hd_ (stored_cell Hnew.out Hb4.out)
  have Hbw:=hd_ (Hb0.out.trans (Hb4.out.mono Hb0.out.size))
  obtain⟨k0,k1,f0,f1⟩:=two_cells Hcell.out
  clear Hb4 Hb0 Hcell Hnew HL
  go_wp2
  obtain⟨c0,c1,hb3⟩:=two_stored (.string rs) (.string rt) k0 k1 nr_ Hbw.out
  generalize (w4.setCell ⟨w.heap.size,0,none⟩ (.string rs)).setCell ⟨w.heap.size,1,none⟩ (.string rt)=w9 at *
  exact bodyPost_ret (v := .agg #[.string rs,.string rt]) (by simp[results,Tryz.results125,go_sem,c0,c1]) rfl ⟨by rw[Hrs.out,Hrt.out],hb3⟩
theorem lowest_any(w:World)(n m:Int)(hn:ZNum n)(hm:ZNum m)(hm0:m≠0)(hn1:Num (n.natAbs+1))(hm1:Num (m.natAbs+1))(L:Laid w):
  Gives Tryz.prog 125 #[.string (itx n),.string (itx m)] w (fr ((n:Rat)/(m:Rat))):=by
 have key:∀ (k:Int) (d:Nat),d≠0→fv (k/((Nat.gcd k.natAbs d:Nat):Int)) (d/Nat.gcd k.natAbs d)=fr (mkRat k d):=fun k d hd=>by
  have:=redV_rat k d hd
  unfold redV at this
  exact this
 by_cases h:0<m
 ·obtain⟨d,rfl⟩:∃ d:Nat,m=(d:Int):=⟨m.toNat,by omega⟩
  have:=lowest_frac w n d _ hn hm (by omega) hn1 hm1 rfl L
  rw[key n d (by omega),Rat.mkRat_eq_div] at this
  rw[itx_nat]
  exact this
 ·obtain⟨d,rfl⟩:∃ d:Nat,m = -(d:Int):=⟨m.natAbs,by omega⟩
  have hmm:Num d:=by have:Num (-(d:Int)).natAbs:=hm;rwa [Int.natAbs_neg] at this
  have hmm1:Num (d+1):=by rwa [Int.natAbs_neg] at hm1
  have:=lowest_neg w (-n) d _ (show Num _ by rw[Int.natAbs_neg];exact hn) hmm (by omega) (by rw[Int.natAbs_neg];exact hn1) hmm1 rfl L
  rw[Int.neg_neg,key (-n) d (by omega),Rat.mkRat_eq_div] at this
  have e:((-n:Int):Rat)/((d:Nat):Rat)=(n:Rat)/((-(d:Int):Int):Rat):=by
   rw[Rat.div_def,Rat.div_def,Rat.intCast_neg,Rat.intCast_neg,Rat.intCast_natCast]
   have hi:(-((d:Nat):Rat))⁻¹ = -(((d:Nat):Rat)⁻¹):=by
    apply Rat.inv_eq_of_mul_eq_one
    have:((d:Nat):Rat)≠0:=by intro h0;exact absurd (Rat.natCast_eq_zero_iff.1 h0) (by omega)
    rw[Rat.neg_mul,Rat.mul_neg,Rat.neg_neg,Rat.mul_inv_cancel _ this]
   rw[hi,Rat.neg_mul,Rat.mul_neg]
  rw[e] at this
  exact this
theorem div_eq(a b:Rat):a/b=((a.num*b.den:Int):Rat)/(((a.den:Int)*b.num:Int):Rat):=by
 have h1:a=(a.num:Rat)/((a.den:Nat):Rat):=by rw[← Rat.mkRat_eq_div,Rat.mkRat_self]
 have h2:b=(b.num:Rat)/((b.den:Nat):Rat):=by rw[← Rat.mkRat_eq_div,Rat.mkRat_self]
 have ha:((a.den:Nat):Rat)≠0:=by intro h;exact a.den_nz (Rat.natCast_eq_zero_iff.1 h)
 have hb:((b.den:Nat):Rat)≠0:=by intro h;exact b.den_nz (Rat.natCast_eq_zero_iff.1 h)
 rw[Rat.intCast_mul,Rat.intCast_mul,Rat.intCast_natCast,Rat.intCast_natCast]
 generalize a.num=x at *
 generalize b.num=y at *
 generalize ((a.den:Nat):Rat)=u at *
 generalize ((b.den:Nat):Rat)=v at *
 subst h1 h2
 by_cases hy:(y:Rat)=0
 ·rw[hy];simp[Rat.div_def]
 ·grind
theorem divR(w:World)(a b:Rat)(D E:Nat)(ha:Sm D a)(hb:Sm E b)(hb0:b≠0)(h6:D+E+2≤1000000)(L:Laid w):
  Gives Tryz.prog 246 #[fr a,fr b] w (.tuple #[fr (a/b),.int .i64 0]):=by
 have hm0:b.num≠0:=fun h=>hb0 (Rat.num_eq_zero.1 h)
 have p1:=ha.pos
 have p2:=hb.pos
 have e1:(a.num*b.den).natAbs<10^(D+E):=by rw[Int.natAbs_mul];exact pow_ten_mul ha.1 hb.2
 have e2:((a.den:Int)*b.num).natAbs<10^(D+E):=by rw[Int.natAbs_mul];exact pow_ten_mul ha.2 hb.1
 have h3:10^(D+E)<10^(D+E+1):=Nat.pow_lt_pow_right (by decide) (by omega)
 have z1:ZNum (a.num*b.den):=num_pow e1 (by omega) (by omega)
 have z2:ZNum ((a.den:Int)*b.num):=num_pow e2 (by omega) (by omega)
 have z3:Num ((a.num*b.den).natAbs+1):=num_pow (D:=D+E+1) (by omega) (by omega) (by omega)
 have z4:Num (((a.den:Int)*b.num).natAbs+1):=num_pow (D:=D+E+1) (by omega) (by omega) (by omega)
 have hm1:(a.den:Int)*b.num≠0:=Int.mul_ne_zero (by have:=a.den_nz;omega) hm0
 have zn:ZNum a.num:=num_pow ha.1 p1 (by omega)
 have zm:ZNum b.num:=num_pow hb.1 p2 (by omega)
 have zd:Num a.den:=num_pow ha.2 p1 (by omega)
 have ze:Num b.den:=num_pow hb.2 p2 (by omega)
 obtain⟨rs,hrs⟩:∃ rs,itx (a/b).num=rs:=⟨_,rfl⟩
 obtain⟨rt,hrt⟩:∃ rt,dec (a/b).den=rt:=⟨_,rfl⟩
 have Hv:Hid (fr (a/b) = .agg #[.string rs,.string rt]):=by show _=_;unfold fr fv;rw[hrs,hrt]
 have hlo:∀ W,Laid W→Gives Tryz.prog 125 #[.string (itx (a.num*b.den)),.string (itx ((a.den:Int)*b.num))] W (.agg #[.string rs,.string rt]):=fun W LW=>by
  have:=lowest_any W _ _ z1 z2 hm1 z3 z4 LW
  rw[← div_eq] at this
  unfold fr fv at this
  rw[hrs,hrt] at this
  exact this
 unfold Gives
 show Calls _ _ #[fv a.num a.den,fv b.num b.den] _ _
 have Hsg:Hid (∀ W,Gives Tryz.prog 89 #[fv b.num b.den] W (.int .i64 b.num.sign)):=fun W=>sign_frac W b.num b.den
 have hs0:(b.num.sign==0)=false:=by
  rw[beq_eq_false_iff_ne]
  intro h
  exact hm0 (Int.sign_eq_zero_iff_zero.1 h)
 clear hrs hrt hm1 z3 z4 e1 e2 h3 ha hb hb0
 generalize a.num=n at *
 generalize a.den=d at *
 generalize b.num=m at *
 generalize b.den=e at *
 generalize m.sign=sg at *
 have H3:=hd_ (Three.mk' w (itx n) (dec d) (itx m) (dec e))
 have HL:=hd_ (L.below H3.out.bel)
 clear L
 have Hm1:Hid (∀ W,Below (((w.alloc (.cells #[.string (itx n),.string (dec d)] 42)).alloc (.cells #[.string (itx m),.string (dec e)] 42)).alloc (.cells #[.string ⟨#[]⟩,.string ⟨#[]⟩] 42)).heap.size (((w.alloc (.cells #[.string (itx n),.string (dec d)] 42)).alloc (.cells #[.string (itx m),.string (dec e)] 42)).alloc (.cells #[.string ⟨#[]⟩,.string ⟨#[]⟩] 42)) W→∀ d' os,Calls Tryz.prog 115 #[.string (itx n),.string (dec e)] (Go.Sort.grow (redrawn W d') os) fun x w''=>x = .returned (.string (itx (n*e)))∧∃ p:Regrown,w''=Go.Sort.grow (redrawn W p.d) p.os):=fun W hW d' os=>by
  have:=mulz_any (Go.Sort.grow (redrawn W d') os) n (e:Int) zn (show Num _ from ze) z1 ((HL.out.below hW).below (below_regrown W d' os))
  rw[itx_nat] at this
  exact Calls.regrown_of this
 have Hm2:Hid (∀ W,Below (((w.alloc (.cells #[.string (itx n),.string (dec d)] 42)).alloc (.cells #[.string (itx m),.string (dec e)] 42)).alloc (.cells #[.string ⟨#[]⟩,.string ⟨#[]⟩] 42)).heap.size (((w.alloc (.cells #[.string (itx n),.string (dec d)] 42)).alloc (.cells #[.string (itx m),.string (dec e)] 42)).alloc (.cells #[.string ⟨#[]⟩,.string ⟨#[]⟩] 42)) W→∀ d' os,Calls Tryz.prog 115 #[.string (dec d),.string (itx m)] (Go.Sort.grow (redrawn W d') os) fun x w''=>x = .returned (.string (itx ((d:Int)*m)))∧∃ p:Regrown,w''=Go.Sort.grow (redrawn W p.d) p.os):=fun W hW d' os=>by
  have:=mulz_any (Go.Sort.grow (redrawn W d') os) (d:Int) m (show Num _ from zd) zm z2 ((HL.out.below hW).below (below_regrown W d' os))
  rw[itx_nat] at this
  exact Calls.regrown_of this
 have Hm3:Hid (∀ W,Below (((w.alloc (.cells #[.string (itx n),.string (dec d)] 42)).alloc (.cells #[.string (itx m),.string (dec e)] 42)).alloc (.cells #[.string ⟨#[]⟩,.string ⟨#[]⟩] 42)).heap.size (((w.alloc (.cells #[.string (itx n),.string (dec d)] 42)).alloc (.cells #[.string (itx m),.string (dec e)] 42)).alloc (.cells #[.string ⟨#[]⟩,.string ⟨#[]⟩] 42)) W→∀ d' os,Calls Tryz.prog 125 #[.string (itx (n*e)),.string (itx ((d:Int)*m))] (Go.Sort.grow (redrawn W d') os) fun x w''=>x = .returned (.agg #[.string rs,.string rt])∧∃ p:Regrown,w''=Go.Sort.grow (redrawn W p.d) p.os):=fun W hW d' os=>by
  exact Calls.regrown_of (hlo (Go.Sort.grow (redrawn W d') os) ((HL.out.below hW).below (below_regrown W d' os)))
 unfold fv at Hsg ⊢
 clear hlo z1 z2 zn zm zd ze hm0 p1 p2
 go_enter Tryz.func246,Tryz.ntmps246
 obtain⟨k0,k1,-,-⟩:=two_cells H3.out.fa
 obtain⟨k2,k3,-,-⟩:=two_cells H3.out.fb
 go_wp2_with fail
 generalize ((w.alloc (.cells #[.string (itx n),.string (dec d)] 42)).alloc (.cells #[.string (itx m),.string (dec e)] 42)).alloc (.cells #[.string ⟨#[]⟩,.string ⟨#[]⟩] 42)=W0 at *
 clear k0 k1 k2 k3
 refine cm_ (Hsg.out _) ?_
 rintro e w1 ⟨rfl,hb1⟩
 have Hb1:=hd_ hb1
 clear hb1 Hsg
 obtain⟨k0,k1,-,-⟩:=two_cells (H3.out.next Hb1.out).fa
 obtain⟨k2,k3,-,-⟩:=two_cells (H3.out.next Hb1.out).fb
 have q0:=cell_regrown k0
 have q1:=cell_regrown k1
 have q2:=cell_regrown k2
 have q3:=cell_regrown k3
 have hM1:=Hm1.out w1 Hb1.out
 have hM2:=Hm2.out w1 Hb1.out
 have hM3:=Hm3.out w1 Hb1.out
 clear k0 k1 k2 k3 Hm1 Hm2 Hm3
 go_wp2_with fail
 refine wp_region_below_tail 11 (by kernel_rfl) (by kernel_rfl) ?_
 simp only[List.take_succ_cons,List.take_zero,List.drop_succ_cons,List.drop_zero]
 repeat (first | go_big_quiet_step (first | with_reducible exact hM1 _ _ | with_reducible exact hM2 _ _ | with_reducible exact hM3 _ _) | quiet_step (first | with_reducible exact hM1 _ _ | with_reducible exact hM2 _ _ | with_reducible exact hM3 _ _))
 refine wpQuiet_nil ?_
 intro w8 hw8
 obtain⟨⟨dq,osq⟩,rfl⟩:=hw8
 have hb8:=below_regrown w1 dq osq
 have H8:=hd_ ((H3.out.next Hb1.out).next hb8)
 clear hb8 hM1 hM2 hM3 q0 q1 q2 q3 H3 Hb1
 generalize Go.Sort.grow (redrawn w1 dq) osq=w8 at *
 obtain⟨k0,k1,f0,f1⟩:=two_cells H8.out.fr
 have Hbw:=hd_ H8.out.bel
 clear H8
 go_wp2
 obtain⟨c0,c1,hb3⟩:=two_stored (B:=w.heap.size) (.string rs) (.string rt) k0 k1 (by omega) Hbw.out
 generalize (w8.setCell ⟨w.heap.size+1+1,0,none⟩ (.string rs)).setCell ⟨w.heap.size+1+1,1,none⟩ (.string rt)=w9 at *
 exact bodyPost_ret (v := .tuple #[.agg #[.string rs,.string rt],.int .i64 0]) (by simp[results,Tryz.results246,go_sem,c0,c1]) rfl ⟨by rw[Hv.out],hb3⟩
theorem tlQ_znum{ps:List Int}{l:List Rat}{D:Nat}(hs:∀ q∈l,Sm D q)(h6:3+(l.length+2)*D≤900000):∀ x∈tlQ ps l,ZNum x.2:=fun x hx=>by
 obtain⟨_,q,hq,_,he⟩:=tlist_mem hx
 have h1:=tden_lt l D hs l.length nr_
 rw[List.take_length] at h1
 have h2:=(hs q hq).1
 have h3:tden l/q.den≤tden l:=Nat.div_le_self _ _
 have h4:=pow_ten_mul h2 (Nat.lt_of_le_of_lt h3 h1)
 rw[he]
 refine num_pow (D:=D+(1+l.length*D)) ?_ (by omega) ?_
 ·rw[Int.natAbs_mul];exact h4
 ·rw[Nat.add_mul] at h6;omega
theorem terms_ok{w:World}{ps:List Int}{a0 a:Option Addr}{l:List Rat}{D c0 c:Nat}(S:SizeOk w ps a0 a l D)(L:Laid w):
  Calls Tryz.prog 100 #[.slice a0 ps.length c0,.slice a l.length c] w fun e w'=>∃ b1 d1 b2 d2,e = .returned (.agg (tcells b1 d1 b2 d2 (tlQ ps l).length (tden l)))∧TermsAt w' (tlQ ps l) b1 b2∧Below w.heap.size w w':=by
 have hn:=S.n
 have hd:=S.d
 have hlen:=S.len
 have h6:3+(l.length+2)*D≤900000:=by
  have:(l.length+2)*D≤102*1000:=Nat.mul_le_mul (by omega) hd
  omega
 refine cm_ (termsOf_any w a0 a c0 c ps l D S.rp S.rl S.len.symm S.sm (by omega) h6 L) ?_
 rintro e w' ⟨b1,d1,b2,d2,he,r1,r2,hb⟩
 refine⟨b1,d1,b2,d2,he,⟨r1,r2,?_,?_,tlQ_znum S.sm h6⟩,hb⟩
 ·exact Nat.le_trans (tlist_length _ _ _) (by omega)
 ·exact fun x hx=>S.pr x.1 (tlist_mem hx).1
theorem lcode_two{ps:List Int}{la lb:List Rat}(hp:pcode ps=0)(ha:∀ q∈la,Sm 30 q)(hb:∀ q∈lb,Sm 30 q)(h1:la.length=ps.length)(h2:lb.length=ps.length):lcode ps [la.map qs,lb.map qs]=0:=by
 unfold lcode
 rw[if_pos hp,lgo,if_pos (scode_ok ha h1),lgo,if_pos (scode_ok hb h2),lgo]
theorem checkAll_two(W:World)(ps:List Int)(g:Nat)(a0 a1 a2:Option Addr)(c0 c1 c2:Nat)(la lb:List Rat)(A:SizeOk W ps a0 a1 la 30)(B:SizeOk W ps a0 a2 lb 30)(hp:pcode ps=0)(L:Laid W)
  (h1:W.heap[g]?=some (.cells #[.slice a1 la.length c1,.slice a2 lb.length c2] 38 (0,0))) :
  Gives Tryz.prog 107 #[.slice a0 ps.length c0,.slice (some ⟨g,0,none⟩) 2 2] W (.int .i64 0):=by
 have h1':W.heap[g]?=some (.cells #[.slice a1 (la.map qs).length c1,.slice a2 (lb.map qs).length c2] 38 (0,0)):=by rw[List.length_map,List.length_map];exact h1
 have hn:=A.n
 have e1:=A.len
 have e2:=B.len
 have h:=checkAll_any W a0 _ c0 2 ps [la.map qs,lb.map qs] A.rp A.i64 (by omega) (rdl_two h1' A.rl B.rl) (by simp)
  (by
   intro l hl
   simp only[List.mem_cons,List.not_mem_nil,or_false] at hl
   rcases hl with rfl|rfl
   ·exact⟨by rw[List.length_map];omega,ssz_ok A.sm⟩
   ·exact⟨by rw[List.length_map];omega,ssz_ok B.sm⟩) L
 rw[lcode_two hp A.sm B.sm e1 e2] at h
 exact h
theorem checkQuotient_ok(w:World)(ps:List Int)(a0 a1 a2:Option Addr)(c0 c1 c2:Nat)(la lb:List Rat)(A:SizeOk w ps a0 a1 la 30)(B:SizeOk w ps a0 a2 lb 30)(hp:pcode ps=0)(L:Laid w)
  (hq:tlQ ps lb≠[]) :
  Gives Tryz.prog 192 #[.slice a0 ps.length c0,.slice a1 la.length c1,.slice a2 lb.length c2] w (.int .i64 0):=by
 unfold Gives
 have HB:=hd_ B
 have HL:=hd_ L
 have Hk:Hid (∀ W g,Below w.heap.size w W→W.heap[g]?=some (.cells #[.slice a1 la.length c1,.slice a2 lb.length c2] 38 (0,0))→Gives Tryz.prog 107 #[.slice a0 ps.length c0,.slice (some ⟨g,0,none⟩) 2 2] W (.int .i64 0)):=fun W g hW hg =>
  checkAll_two W ps g a0 a1 a2 c0 c1 c2 la lb (A.below hW) (B.below hW) hp (L.below hW) hg
 have hz:(((tlQ ps lb).length:Int)==0)=false:=by
  rw[beq_eq_false_iff_ne]
  intro h
  exact hq (List.eq_nil_of_length_eq_zero (by omega))
 have Ht:Hid (∀ W,Below w.heap.size w W→Calls Tryz.prog 100 #[.slice a0 ps.length c0,.slice a2 lb.length c2] W fun e w'=>∃ b1 d1 b2 d2,e = .returned (.agg (tcells b1 d1 b2 d2 (tlQ ps lb).length (tden lb)))∧TermsAt w' (tlQ ps lb) b1 b2∧Below W.heap.size W w'):=fun W hW =>
  terms_ok (HB.out.below hW) (HL.out.below hW)
 clear A B hp L hq HB HL
 generalize (tlQ ps lb).length=m at *
 go_enter Tryz.func192,Tryz.ntmps192
 go_wp2_with fail
 have B1:=hd_ ((Below.refl w.heap.size w).alloc nr_ (.cells #[.slice a1 la.length c1,.slice a2 lb.length c2] 38))
 refine cm_ (Hk.out _ _ B1.out (heap_at w _ _ _ rfl)) ?_
 rintro e w1 ⟨rfl,hb⟩
 have B2:=hd_ (B1.out.trans (hb.mono B1.out.size))
 clear hb Hk B1
 go_wp2_with fail
 refine cm_ (Ht.out _ B2.out) ?_
 rintro e w2 ⟨b1,d1,b2,d2,rfl,T,hb⟩
 have B3:=hd_ (B2.out.trans (hb.mono B2.out.size))
 clear hb Ht T
 have hf:∀ W:World,(Instr.field 163 (.agg (tcells b1 d1 b2 d2 m (tden lb))) 0).run Tryz.prog W = .ok (.slice b1 m d1) W:=fun W=>by rfl
 go_wp2_with fail
 go_ret
 exact⟨rfl,B3.out⟩
theorem neqQ_run(W:World)(s t s' t':ByteArray):
  (binOp .neq 42 (.agg #[.string s,.string t]) (.agg #[.string s',.string t'])).run Tryz.prog W = .ok (.bool (!(s.toList==s'.toList&&t.toList==t'.toList))) W:=by
 rw[run_neq_struct,show (10000:Nat)=9998+1+1 from rfl,run_equalIn_agg (ht:=structQ) (hp:=stoodQ),eqFields_two W _ s t s' t' _ fieldsQ]
 rfl
theorem quiet_neqQ{C:World→Prop}{K:Act→Prop}{a:Act}{o:Oper}(x y:Operand)(r:TypeId)(p q:Rat)(h:o.op = .binOp .neq 42 x y r)(hx:a.eval x = .agg #[.string (itx p.num),.string (dec p.den)])(hy:a.eval y = .agg #[.string (itx q.num),.string (dec q.den)])
  (hk:K (a.put o.dst (.bool (!decide (p=q))))):o.quiet Tryz.prog a C K :=
 ⟨_,fun w _=>by
  unfold Oper.quietAt execOp
  rw[h]
  simp only[Sem.run_bind,hx,hy,guardQ_run,neqQ_run,Result.andThen_ok,Sem.run_pure,qs_beq]
  exact⟨rfl,rfl⟩,hk⟩
theorem Sm.div{D E:Nat}{a b:Rat}(ha:Sm D a)(hb:Sm E b):Sm (D+E) (a/b):=by
 rw[Rat.div_def];exact ha.mul (hb.inv hb.pos)
def ratioK (la lb:List Rat):Nat→Rat
 | 0=>0
 | k+1=>if lb.getD k 0=0 then ratioK la lb k else la.getD k 0/lb.getD k 0
theorem getD_sm{D:Nat}{l:List Rat}(h:∀ q∈l,Sm D q)(hD:0<D)(k:Nat):Sm D (l.getD k 0):=by
 rw[List.getD_eq_getElem?_getD]
 rcases Nat.lt_or_ge k l.length with hk|hk
 ·rw[List.getElem?_eq_getElem hk];exact h _ (List.getElem_mem hk)
 ·rw[List.getElem?_eq_none hk];exact Sm.zero.le hD
theorem ratioK_sm{D:Nat}{la lb:List Rat}(ha:∀ q∈la,Sm D q)(hb:∀ q∈lb,Sm D q)(hD:0<D):∀ k,Sm (D+D) (ratioK la lb k)
 | 0=>Sm.zero.le (by omega)
 | k+1=>by
  unfold ratioK
  split
  ·exact ratioK_sm ha hb hD k
  ·exact(getD_sm ha hD k).div (getD_sm hb hD k)
def ratioB (la lb:List Rat) (n:Nat) (k:Rat):Bool:=decide (∀ j,j<n→k*lb.getD j 0=la.getD j 0)
theorem obj_pair{w:World}{g:Nat}{a b:Value}{t:TypeId}(h:w.heap[g]?=some (.cells #[a,b] t (0,0)))(x y:Value):
  ((w.setCell ⟨g,0,none⟩ x).setCell ⟨g,1,none⟩ y).heap[g]?=some (.cells #[x,y] t (0,0)):=by
 rw[obj_set (obj_set h 0 x) 1 y];rfl
theorem obj_pair_other{w:World}{g k:Nat}{o:Obj}(h:w.heap[k]?=some o)(hk:g≠k)(x y:Value):
  ((w.setCell ⟨g,0,none⟩ x).setCell ⟨g,1,none⟩ y).heap[k]?=some o:=by
 rw[obj_other hk,obj_other hk];exact h
theorem ratio_any(w:World)(a1 a2:Option Addr)(c1 c2 n D:Nat)(la lb:List Rat)(ra:Rd w a1 (cellsQ la))(rb:Rd w a2 (cellsQ lb))(ea:la.length=n)(eb:lb.length=n)
  (sa:∀ q∈la,Sm D q) (sb:∀ q∈lb,Sm D q) (hn:n≤1000) (hD0:0<D) (hD:D≤1000) (L:Laid w) :
  Gives Tryz.prog 220 #[.slice a1 n c1,.slice a2 n c2] w (.tuple #[fr (ratioK la lb n),.bool (ratioB la lb n (ratioK la lb n))]):=by
 unfold Gives
 have HL:=hd_ L
 have Hra:=hd_ ra
 have Hrb:=hd_ rb
 have Hea:=hd_ ea
 have Heb:=hd_ eb
 have Hsa:=hd_ sa
 have Hsb:=hd_ sb
 have HD:=hd_ hD
 have HD0:=hd_ hD0
 have B0:=hd_ ((Below.refl w.heap.size w).alloc nr_ (.cells #[.string ⟨#[]⟩,.string ⟨#[]⟩] 42))
 have K0:=hd_ (heap_at w #[.string ⟨#[]⟩,.string ⟨#[]⟩] 42 _ rfl)
 have S0:Hid ((w.alloc (.cells #[.string ⟨#[]⟩,.string ⟨#[]⟩] 42)).heap.size=w.heap.size+1):=by show (w.heap.push _).size=_;exact Array.size_push ..
 have Hnum:Hid (∀ W,Below w.heap.size w W→Gives Tryz.prog 98 #[.int .i64 0] W (.agg #[.string (itx 0),.string (dec 1)])):=fun W hW=>number_any W 0 (by decide) (by decide) (HL.out.below hW)
 clear L ra rb ea eb sa sb hD hD0
 go_enter Tryz.func220,Tryz.ntmps220
 go_wp2_with fail
 generalize w.alloc (.cells #[.string ⟨#[]⟩,.string ⟨#[]⟩] 42)=w0 at *
 refine cm_ (Hnum.out _ B0.out) ?_
 rintro e w1 ⟨rfl,hb⟩
 have B1:=hd_ (B0.out.trans (hb.mono B0.out.size))
 have K1:=hd_ (heap_kept K0.out hb nr_)
 have S1:Hid (w.heap.size+1≤w1.heap.size):=by show _≤_;have:=hb.size;have:=S0.out;omega
 clear hb K0 B0 S0 Hnum
 go_wp2_with fail
 have B2:=hd_ (B1.out.alloc B1.out.size (.cells #[.string (itx 0),.string (dec 1)] 42))
 have K2:=hd_ (heap_old K1.out (.cells #[.string (itx 0),.string (dec 1)] 42))
 have M2:=hd_ (heap_at w1 #[.string (itx 0),.string (dec 1)] 42 _ rfl)
 have hne:w.heap.size≠w1.heap.size:=by have:=S1.out;omega
 have hge:w.heap.size≤w1.heap.size:=by have:=S1.out;omega
 have Hne:=hd_ hne
 have Hge:=hd_ hge
 generalize w1.alloc (.cells #[.string (itx 0),.string (dec 1)] 42)=w2 at *
 clear K1 B1 S1 hne hge
 generalize w1.heap.size=g1 at *
 go_loopw [14] (fun i wr=>∃ k:Nat,k≤n∧i = .int .i64 k∧Hid (wr.heap[w.heap.size]?=some (.cells #[.string ⟨#[]⟩,.string ⟨#[]⟩] 42 (0,0)))∧Hid (wr.heap[g1]?=some (.cells #[.string (itx (ratioK la lb k).num),.string (dec (ratioK la lb k).den)] 42 (0,0)))∧Hid (Below w.heap.size w wr)) (fun i _=>n-(intOf i).toNat)
 case atStart=>exact⟨0,Nat.zero_le _,rfl,K2,M2,B2⟩
 case round =>
  obtain⟨k,hk,rfl,K,M,B⟩:=hrel
  by_cases hlt:k<n
  ·have hlt':(k:Int)<n:=by omega
   have hkb:k<lb.length:=by rw[Heb.out];exact hlt
   have hka:k<la.length:=by rw[Hea.out];exact hlt
   obtain⟨b,off,rfl,hb,hcells⟩:=Hrb.out.open (by rw[cellsQ_length,Heb.out];omega)
   obtain⟨x0,x1⟩:=cellsS_rd hcells k (by rw[List.length_map];exact hkb)
   rw[← B.out.cell (p:=⟨b,off+k*2,none⟩) hb,qs_getD _ k hkb] at x0
   rw[← B.out.cell (p:=⟨b,off+k*2+1,none⟩) hb,qs_getD _ k hkb] at x1
   have Hxb:Hid (lb.getD k 0=lb[k]):=by show _=_;rw[List.getD_eq_getElem?_getD,List.getElem?_eq_getElem hkb];rfl
   have Hxa:Hid (la.getD k 0=la[k]):=by show _=_;rw[List.getD_eq_getElem?_getD,List.getElem?_eq_getElem hka];rfl
   have Sa:=hd_ (Hsa.out _ (List.getElem_mem hka))
   have Sb:=hd_ (Hsb.out _ (List.getElem_mem hkb))
   obtain⟨b',off',rfl,hb',hcells'⟩:=Hra.out.open (by rw[cellsQ_length,Hea.out];omega)
   obtain⟨y0,y1⟩:=cellsS_rd hcells' k (by rw[List.length_map];exact hka)
   rw[← B.out.cell (p:=⟨b',off'+k*2,none⟩) hb',qs_getD _ k hka] at y0
   rw[← B.out.cell (p:=⟨b',off'+k*2+1,none⟩) hb',qs_getD _ k hka] at y1
   have Hs:Hid (ratioK la lb (k+1)=if lb.getD k 0=0 then ratioK la lb k else la.getD k 0/lb.getD k 0):=hd_ rfl
   rw[Hxb.out,Hxa.out] at Hs
   generalize lb[k]=xb at *
   generalize la[k]=xa at *
   simp only[qs] at x0 x1 y0 y1
   clear hcells hcells' Hxb Hxa
   by_cases h0:xb=0
   ·subst h0
    have Hs':Hid (ratioK la lb (k+1)=ratioK la lb k):=by show _=_;rw[Hs.out,if_pos rfl]
    have hz:((itx (0:Int)).toList==[48])=true:=by rw[itx_isz];rfl
    have B':=hd_ (B.out.alloc B.out.size (.cells #[.string (itx 0),.string (dec 1)] 42))
    have K':=hd_ (heap_old K.out (.cells #[.string (itx 0),.string (dec 1)] 42))
    have M':=hd_ (heap_old M.out (.cells #[.string (itx 0),.string (dec 1)] 42))
    clear Hs y0 y1 B K M Sa Sb
    go_wp2_with fail
    go_roundw
    case rel =>
     refine⟨k+1,by omega,by go_num,K',?_,B'⟩
     rw[Hs'.out]
     exact M'
    case measure=>simp[intOf];omega
   ·have Hs':Hid (ratioK la lb (k+1)=xa/xb):=by show _=_;rw[Hs.out,if_neg h0]
    have hz:((itx xb.num).toList==[48])=false:=by rw[itx_isz];exact decide_eq_false fun h=>h0 (Rat.num_eq_zero.1 h)
    have B':=hd_ (B.out.alloc B.out.size (.cells #[.string (itx xb.num),.string (dec xb.den)] 42))
    have K':=hd_ (heap_old K.out (.cells #[.string (itx xb.num),.string (dec xb.den)] 42))
    have M':=hd_ (heap_old M.out (.cells #[.string (itx xb.num),.string (dec xb.den)] 42))
    have N':=hd_ (heap_at wr #[.string (itx xb.num),.string (dec xb.den)] 42 _ rfl)
    have W':=hd_ ((Below.refl wr.heap.size wr).alloc nr_ (.cells #[.string (itx xb.num),.string (dec xb.den)] 42))
    have Y0:=hd_ ((W'.out.cell (p:=⟨b',off'+k*2,none⟩) (Nat.lt_of_lt_of_le hb' B.out.size)).trans y0)
    have Y1:=hd_ ((W'.out.cell (p:=⟨b',off'+k*2+1,none⟩) (Nat.lt_of_lt_of_le hb' B.out.size)).trans y1)
    have HDv:Hid (∀ W,Below w.heap.size w W→Gives Tryz.prog 246 #[fr xa,fr xb] W (.tuple #[fr (xa/xb),.int .i64 0])):=fun W hW =>
     divR W xa xb D D Sa.out Sb.out h0 (by have:=HD.out;omega) (HL.out.below hW)
    unfold fr fv at HDv
    clear Hs y0 y1 B K M Sa Sb h0 W'
    have H0:=hd_ (show ((0:Int)≤k∧(k:Int)<n) from ⟨by omega,by omega⟩)
    go_wp2_with fail
    generalize wr.alloc (.cells #[.string (itx xb.num),.string (dec xb.den)] 42)=W0 at *
    clear x0 x1
    obtain⟨k0,k1,-,-⟩:=two_cells N'.out
    have q0:=BW.cell k0
    have q1:=BW.cell k1
    have q2:=BW.cell Y0.out
    have q3:=BW.cell Y1.out
    have hnon:Nonempty (BW W0):=⟨⟨W0,Below.refl _ _⟩⟩
    clear k0 k1 N'
    refine RP.wp_region_readers 9 [(1,0),(1,1),(1,2),(1,3),(1,4),(0,5),(2,6),(2,7),(2,8),(0,9)] (fun w'=>∃ p:BW W0,w'=p.w) (by kernel_rfl) (by kernel_rfl) ?_ ?_
    ·exact⟨⟨{ W0 with drawn:=W0.drawn+1 },⟨rfl,rfl,rfl,Nat.le_refl _,fun _ _=>rfl⟩⟩,rfl⟩
    iterate 5 (refine RP.walkR_read ?_;simp only[dsc_,dz_,tsc_,tz_];go_big_quiet_step (fail);refine wpQuiet_nil ?_)
    clear q0 q1 q2 q3 hnon
    refine RP.walkR_move ?_
    simp only[dsc_,dz_,tsc_,tz_]
    go_wp2_with fail
    refine cm_ (HDv.out _ B'.out.drew) ?_
    rintro e w5 ⟨rfl,hb5⟩
    have W5:Hid (Below W0.heap.size W0 w5):=(Below.refl W0.heap.size W0).drew.trans hb5
    have B5:=hd_ (B'.out.trans (W5.out.mono B'.out.size))
    have K5:=hd_ (heap_kept K'.out W5.out nr_)
    have M5:=hd_ (heap_kept M'.out W5.out nr_)
    clear hb5 HDv K' M' B' Y0 Y1
    go_wp2_with fail
    refine⟨⟨⟨w5,W5.out⟩,rfl⟩,?_⟩
    refine RP.walkR_any ?_
    simp only[dsc_,dz_,tsc_,tz_]
    go_big_quiet_step (fail)
    refine wpQuiet_nil ?_
    refine RP.walkR_any ?_
    simp only[dsc_,dz_,tsc_,tz_]
    go_big_quiet_step (fail)
    refine wpQuiet_nil ?_
    refine RP.walkR_any ?_
    simp only[dsc_,dz_,tsc_,tz_]
    go_big_quiet_step (fail)
    refine wpQuiet_nil ?_
    obtain⟨k0,k1,f0,f1⟩:=two_cells M5.out
    refine RP.walkR_move ?_
    simp only[dsc_,dz_,tsc_,tz_]
    go_wp2_with fail
    have B6:=hd_ ((B5.out.setCell (p:=⟨g1,0,none⟩) Hge.out (.string (itx (xa/xb).num))).setCell (p:=⟨g1,1,none⟩) Hge.out (.string (dec (xa/xb).den)))
    have M6:=hd_ (obj_pair M5.out (.string (itx (xa/xb).num)) (.string (dec (xa/xb).den)))
    have K6:=hd_ (obj_pair_other K5.out Hne.out.symm (.string (itx (xa/xb).num)) (.string (dec (xa/xb).den)))
    clear k0 k1 f0 f1 K5 M5 B5 W5
    generalize (w5.setCell ⟨g1,0,none⟩ (.string (itx (xa/xb).num))).setCell ⟨g1,1,none⟩ (.string (dec (xa/xb).den))=w6 at *
    simp only[RP.walkR]
    go_wp2
    go_roundw
    case rel =>
     refine⟨k+1,by omega,by go_num,K6,?_,B6⟩
     rw[Hs'.out]
     exact M6
    case measure=>simp[intOf];omega
  ·have hlt':¬ (k:Int)<n:=by omega
   have hkn:k=n:=by omega
   subst hkn
   clear hk hlt
   generalize hq:ratioK la lb k=q at *
   have Sq:Hid (Sm (D+D) q):=by show Sm _ q;rw[← hq];exact ratioK_sm Hsa.out Hsb.out HD0.out k
   have Hq:=hd_ hq
   clear hq
   go_wp2_with fail
   go_loopw [34] (fun i wr=>∃ j:Nat,j≤k∧i = .int .i64 j∧Hid (∀ i,i<j→q*lb.getD i 0=la.getD i 0)∧Hid (wr.heap[w.heap.size]?=some (.cells #[.string ⟨#[]⟩,.string ⟨#[]⟩] 42 (0,0)))∧Hid (wr.heap[g1]?=some (.cells #[.string (itx q.num),.string (dec q.den)] 42 (0,0)))∧Hid (Below w.heap.size w wr)) (fun i _=>k-(intOf i).toNat)
   case atStart=>exact⟨0,Nat.zero_le _,rfl,fun i hi=>absurd hi (Nat.not_lt_zero _),K,M,B⟩
   case round =>
    clear K M B
    obtain⟨j,hj,rfl,Hall,K,M,B⟩:=hrel
    by_cases hlt:j<k
    ·have hlt':(j:Int)<k:=by omega
     have hkb:j<lb.length:=by rw[Heb.out];exact hlt
     have hka:j<la.length:=by rw[Hea.out];exact hlt
     obtain⟨b,off,rfl,hb,hcells⟩:=Hrb.out.open (by rw[cellsQ_length,Heb.out];omega)
     obtain⟨x0,x1⟩:=cellsS_rd hcells j (by rw[List.length_map];exact hkb)
     rw[← B.out.cell (p:=⟨b,off+j*2,none⟩) hb,qs_getD _ j hkb] at x0
     rw[← B.out.cell (p:=⟨b,off+j*2+1,none⟩) hb,qs_getD _ j hkb] at x1
     have Hxb:Hid (lb.getD j 0=lb[j]):=by show _=_;rw[List.getD_eq_getElem?_getD,List.getElem?_eq_getElem hkb];rfl
     have Hxa:Hid (la.getD j 0=la[j]):=by show _=_;rw[List.getD_eq_getElem?_getD,List.getElem?_eq_getElem hka];rfl
     have Sb:=hd_ (Hsb.out _ (List.getElem_mem hkb))
     obtain⟨b',off',rfl,hb',hcells'⟩:=Hra.out.open (by rw[cellsQ_length,Hea.out];omega)
     obtain⟨y0,y1⟩:=cellsS_rd hcells' j (by rw[List.length_map];exact hka)
     rw[← B.out.cell (p:=⟨b',off'+j*2,none⟩) hb',qs_getD _ j hka] at y0
     rw[← B.out.cell (p:=⟨b',off'+j*2+1,none⟩) hb',qs_getD _ j hka] at y1
     generalize lb[j]=xb at *
     generalize la[j]=xa at *
     simp only[qs] at x0 x1 y0 y1
     have B':=hd_ (B.out.alloc B.out.size (.cells #[.string (itx xb.num),.string (dec xb.den)] 42))
     have K':=hd_ (heap_old K.out (.cells #[.string (itx xb.num),.string (dec xb.den)] 42))
     have M':=hd_ (heap_old M.out (.cells #[.string (itx xb.num),.string (dec xb.den)] 42))
     have N':=hd_ (heap_at wr #[.string (itx xb.num),.string (dec xb.den)] 42 _ rfl)
     have W':=hd_ ((Below.refl wr.heap.size wr).alloc nr_ (.cells #[.string (itx xb.num),.string (dec xb.den)] 42))
     have Y0:=hd_ ((W'.out.cell (p:=⟨b',off'+j*2,none⟩) (Nat.lt_of_lt_of_le hb' B.out.size)).trans y0)
     have Y1:=hd_ ((W'.out.cell (p:=⟨b',off'+j*2+1,none⟩) (Nat.lt_of_lt_of_le hb' B.out.size)).trans y1)
     have HM:Hid (∀ W,Below w.heap.size w W→∀ d os,Calls Tryz.prog 47 #[fr q,fr xb] (Go.Sort.grow (redrawn W d) os) fun e w''=>e = .returned (fr (q*xb))∧∃ p:Regrown,w''=Go.Sort.grow (redrawn W p.d) p.os):=fun W hW =>
      mulR_regrown W q xb (D+D) D Sq.out Sb.out (by have:=HD.out;omega) (HL.out.below hW)
     unfold fr fv at HM
     clear hcells hcells' y0 y1 K M B W' Sb
     have H0:=hd_ (show ((0:Int)≤j∧(j:Int)<k) from ⟨by omega,by omega⟩)
     go_wp2_with fail
     generalize wr.alloc (.cells #[.string (itx xb.num),.string (dec xb.den)] 42)=W0 at *
     clear x0 x1
     obtain⟨k0,k1,-,-⟩:=two_cells N'.out
     obtain⟨m0,m1,-,-⟩:=two_cells M'.out
     have q0:=cell_regrown k0
     have q1:=cell_regrown k1
     have q2:=cell_regrown Y0.out
     have q3:=cell_regrown Y1.out
     have q4:=cell_regrown m0
     have q5:=cell_regrown m1
     have hM:=HM.out _ B'.out
     clear k0 k1 HM N' m0 m1
     refine wp_region_quiet_below (by kernel_rfl) (by kernel_rfl) ?_
     repeat (first | go_big_quiet_step (with_reducible exact hM _ _) | quiet_step (with_reducible exact hM _ _))
     refine BigFrame.wpQuiet_want rfl fun K hK=>quiet_neqQ _ _ _ (q*xb) xa rfl rfl rfl (hK _ ?_)
     refine wpQuiet_nil ?_
     intro w2 hw2
     obtain⟨⟨dq,osq⟩,rfl⟩:=hw2
     have W2:=hd_ (below_regrown W0 dq osq)
     have B2:=hd_ (B'.out.trans (W2.out.mono B'.out.size))
     have K2:=hd_ (heap_kept K'.out W2.out nr_)
     have M2:=hd_ (heap_kept M'.out W2.out nr_)
     clear K' M' B' Y0 Y1 W2 hM q0 q1 q2 q3 q4 q5
     generalize Go.Sort.grow (redrawn W0 dq) osq=w2 at *
     by_cases hqx:q*xb=xa
     ·rw[decide_eq_true hqx]
      have Hall':Hid (∀ i,i<j+1→q*lb.getD i 0=la.getD i 0):=fun i hi=>by
       rcases Nat.lt_or_ge i j with h|h
       ·exact Hall.out i h
       ·rw[show i=j by omega,Hxb.out,Hxa.out];exact hqx
      clear hqx Hall Hxa Hxb
      go_wp2_with fail
      go_roundw
      case rel=>exact⟨j+1,by omega,by go_num,Hall',K2,M2,B2⟩
      case measure=>simp[intOf];omega
     ·rw[decide_eq_false hqx]
      have HB:Hid (ratioB la lb k q=false):=by
       show _=_
       exact decide_eq_false fun h=>hqx (by rw[← Hxb.out,← Hxa.out];exact h j hlt)
      clear hqx Hall Hxa Hxb
      obtain⟨k0,k1,f0,f1⟩:=two_cells K2.out
      obtain⟨m0,m1,-,-⟩:=two_cells M2.out
      go_wp2_with fail
      obtain⟨c0,c1,hb3⟩:=two_stored (B:=w.heap.size) (.string (itx q.num)) (.string (dec q.den)) k0 k1 nr_ B2.out
      generalize (w2.setCell ⟨w.heap.size,0,none⟩ (.string (itx q.num))).setCell ⟨w.heap.size,1,none⟩ (.string (dec q.den))=w9 at *
      rw[Hq.out,HB.out]
      exact bodyPost_ret (v := .tuple #[.agg #[.string (itx q.num),.string (dec q.den)],.bool false]) (by simp[results,Tryz.results220,go_sem,c0,c1]) rfl ⟨rfl,hb3⟩
    ·have hlt':¬ (j:Int)<k:=by omega
     have HB:Hid (ratioB la lb k q=true):=by
      show _=_
      exact decide_eq_true fun i hi=>Hall.out i (by omega)
     clear Hall
     obtain⟨k0,k1,f0,f1⟩:=two_cells K.out
     obtain⟨m0,m1,-,-⟩:=two_cells M.out
     go_wp2_with fail
     obtain⟨c0,c1,hb3⟩:=two_stored (B:=w.heap.size) (.string (itx q.num)) (.string (dec q.den)) k0 k1 nr_ B.out
     generalize (wr.setCell ⟨w.heap.size,0,none⟩ (.string (itx q.num))).setCell ⟨w.heap.size,1,none⟩ (.string (dec q.den))=w9 at *
     rw[Hq.out,HB.out]
     exact bodyPost_ret (v := .tuple #[.agg #[.string (itx q.num),.string (dec q.den)],.bool true]) (by simp[results,Tryz.results220,go_sem,c0,c1]) rfl ⟨rfl,hb3⟩
theorem Floor_of(w:World)(ps:List Int)(a0 a1 a2:Option Addr)(c0 c1 c2:Nat)(la lb:List Rat)(A:SizeOk w ps a0 a1 la 30)(B:SizeOk w ps a0 a2 lb 30)(hp:pcode ps=0)(L:Laid w)(hz:tlQ ps lb≠[])(q:Int)
  (hf:∀ W,Below w.heap.size w W→Gives Tryz.prog 193 #[.slice a0 ps.length c0,.slice a1 la.length c1,.slice a2 lb.length c2] W (.string (itx q))) :
  Gives Tryz.prog 128 #[.slice a0 ps.length c0,.slice a1 la.length c1,.slice a2 lb.length c2] w (.tuple #[.string (itx q),.int .i64 0]):=by
 unfold Gives
 have Hc:=hd_ (checkQuotient_ok w ps a0 a1 a2 c0 c1 c2 la lb A B hp L hz)
 have Hf:=hd_ hf
 clear A B hp L hz hf
 go_enter Tryz.func128,Tryz.ntmps128
 go_wp2_with fail
 refine cm_ Hc.out ?_
 rintro e w1 ⟨rfl,hb⟩
 have B1:=hd_ hb
 clear hb Hc
 go_wp2_with fail
 refine cm_ (Hf.out _ B1.out) ?_
 rintro e w2 ⟨rfl,hb⟩
 have B2:=hd_ (B1.out.trans (hb.mono B1.out.size))
 clear hb Hf
 go_wp2_with fail
 go_ret2
 exact⟨rfl,B2.out⟩
theorem itoa_any(w:World)(z:Int)(h0 : -9223372036854775808≤z)(h1:z≤9223372036854775807)(L:Laid w):Gives Tryz.prog 144 #[.int .i64 z] w (.string (itx z)):=by
 refine(Tryz.strconv_Itoa z h0 h1 w L.tab).mono ?_
 rintro e w1 ⟨rfl,hw⟩
 exact⟨rfl,below_of_grow hw⟩
end Go.Proofs.YtnjedhgcfeoemaaGreatDoor

namespace Go.Proofs.YtnjedhgcfeoemaaGreatDoor
open Go.ChangeShapes Go.WideShapes Go.ChangeAt Go.RowKit Go.Joins
theorem cellsBdT:Tryz.prog.cellsOf 27=3:=by kernel_rfl
section
variable {H:Type} {enc:TypeId×Value→H} {W:World}
theorem open_bd{r:Reach}{b0:Nat}{v:Value}{d:DataW H}{p:List MemPlace}(hv:Value.okWide Tryz.prog W r b0 27 v)(h:DataW.Trod enc Tryz.prog W 0 (fun _=>true) true 27 v d p):
  ∃ (a b:Int) (s:ByteArray),v = .agg #[.int .i64 a,.int .i64 b,.string s]∧(-9223372036854775808≤a∧a≤9223372036854775807)∧(-9223372036854775808≤b∧b≤9223372036854775807)∧s.size≤maxLen:=by
 obtain⟨v0,v1,v2,y0,y1,y2,n,rfl,_,_,h0,h1,h2⟩:=open_agg3 Tryz.underlying27 (by kernel_rfl) cellsBdT hv h
 obtain⟨a,ha,_,wa⟩:=DataW.trod_int Tryz.underlying3 h0
 obtain⟨b,hb,_,wb⟩:=DataW.trod_int Tryz.underlying3 h1
 obtain⟨s,hs,_,ws⟩:=DataW.trod_string Tryz.underlying25 h2
 simp only[List.cons.injEq,and_true] at ha hb hs
 exact⟨a,b,s,by rw[ha,hb,hs],bounds_i64 wa,bounds_i64 wb,by simpa [Lit.wf] using ws⟩
end
end Go.Proofs.YtnjedhgcfeoemaaGreatDoor

namespace Go.Proofs.YtnjedhgcfeoemaaGreatDoor
open Go.RowKit
theorem elInt:ElemOf Tryz.prog 35 3 (.int .i64 0) 1 8:=⟨Tryz.underlying35,info_parts (by kernel_rfl),rfl,by decide⟩
def vS:List Nat→Nat
 | []=>0
 | x::l=>x+4294967296*vS l
theorem vS_append:∀(a b:List Nat),vS (a++b)=vS a+4294967296^a.length*vS b
 | [],b=>by simp[vS]
 | x::a,b=>by
  simp only[List.cons_append,vS,List.length_cons,vS_append a b,Nat.pow_succ]
  rw[Nat.mul_add,← Nat.mul_assoc,Nat.mul_comm (4294967296^a.length)]
  omega
theorem vS_snoc(a:List Nat)(x:Nat):vS (a++[x])=vS a+4294967296^a.length*x:=by
 rw[vS_append];simp[vS]
def Wd32 (l:List Nat):Prop:=∀ x∈l,x<4294967296
theorem Wd32.getD{l:List Nat}(h:Wd32 l)(i:Nat):l.getD i 0<4294967296:=by
 rw[List.getD_eq_getElem?_getD]
 cases hk:l[i]? with
 | none=>simp
 | some x=>exact h x (List.mem_of_getElem? hk)
theorem Wd32.set{l:List Nat}(h:Wd32 l)(i x:Nat)(hx:x<4294967296):Wd32 (l.set i x):=fun y hy=>by
 rcases List.mem_or_eq_of_mem_set hy with hy|hy
 ·exact h y hy
 ·rw[hy];exact hx
theorem Wd32.take{l:List Nat}(h:Wd32 l)(k:Nat):Wd32 (l.take k):=fun x hx=>h x (List.mem_of_mem_take hx)
theorem Wd32.snoc{l:List Nat}(h:Wd32 l){x:Nat}(hx:x<4294967296):Wd32 (l++[x]):=fun y hy=>by
 rcases List.mem_append.1 hy with h1|h1
 ·exact h y h1
 ·rw[List.mem_singleton.1 h1];exact hx
theorem vS_lt:∀{l:List Nat},Wd32 l→vS l<4294967296^l.length
 | [],_=>by simp[vS]
 | x::l,h=>by
  have h1:=h x List.mem_cons_self
  have h2:=vS_lt (l:=l) fun y hy=>h y (List.mem_cons_of_mem _ hy)
  rw[List.length_cons,Nat.pow_succ,vS]
  omega
theorem vS_take_succ(l:List Nat)(k:Nat)(h:k<l.length):vS (l.take (k+1))=vS (l.take k)+4294967296^k*l.getD k 0:=by
 have e:l.getD k 0=l[k]:=by rw[List.getD_eq_getElem?_getD,List.getElem?_eq_getElem h];rfl
 rw[List.take_succ_eq_append_getElem h,vS_snoc,List.length_take,Nat.min_eq_left (Nat.le_of_lt h),e]
theorem bits_step(L M:List Nat)(k cc x r q e:Nat)(hk:k<M.length)(hl:k<L.length)(he:L.getD k 0=e)
  (h:vS (M.take k)+4294967296^k*cc=1000000000*vS (L.take k)+x) (hdm:r+4294967296*q=cc+e*1000000000) :
  vS ((M.set k r).take (k+1))+4294967296^(k+1)*q=1000000000*vS (L.take (k+1))+x:=by
 have e1:(M.set k r).take k=M.take k:=List.take_set_of_le (Nat.le_refl k)
 have e2:(M.set k r).getD k 0=r:=by
  rw[List.getD_eq_getElem?_getD,List.getElem?_set_self hk];rfl
 have e3:=vS_take_succ (M.set k r) k (by rw[List.length_set];exact hk)
 have e4:=vS_take_succ L k hl
 rw[e1,e2] at e3
 rw[he] at e4
 have e5:4294967296^(k+1)*q=4294967296^k*(4294967296*q):=by rw[Nat.pow_succ,Nat.mul_assoc]
 rw[e3,e4,e5]
 clear e1 e2 e3 e4 e5 he hk hl
 generalize vS (M.take k)=A at *
 generalize vS (L.take k)=C at *
 generalize 4294967296^k=P at *
 have e6:P*r+P*(4294967296*q)=P*cc+P*e*1000000000:=by rw[← Nat.mul_add,hdm,Nat.mul_add,Nat.mul_assoc]
 generalize P*r=u1 at *
 generalize P*(4294967296*q)=u2 at *
 generalize P*cc=u3 at *
 generalize P*e=u4 at *
 omega
theorem bits_end(N k m n t a:Nat)(hN:N=a+4294967296^n*t)(ha:a<4294967296^n)(ht1:2^m≤t)(ht2:t<2^(m+1))(h1:2^k≤N)(h2:N<2^(k+1)):k=32*n+m:=by
 have e:(4294967296:Nat)^n=2^(32*n):=by rw[show (4294967296:Nat)=2^32 by decide,← Nat.pow_mul]
 rw[e] at hN ha
 have q1:2^(32*n+m)≤N:=by
  rw[Nat.pow_add]
  have:=Nat.mul_le_mul_left (2^(32*n)) ht1
  omega
 have q2:N<2^(32*n+m+1):=by
  rw[Nat.add_assoc,Nat.pow_add]
  have:2^(32*n)*(t+1)≤2^(32*n)*2^(m+1):=Nat.mul_le_mul_left _ ht2
  rw[Nat.mul_add,Nat.mul_one] at this
  omega
 have a1:=(Nat.pow_lt_pow_iff_right (a:=2) (by decide)).1 (Nat.lt_of_le_of_lt h1 q2)
 have a2:=(Nat.pow_lt_pow_iff_right (a:=2) (by decide)).1 (Nat.lt_of_le_of_lt q1 h2)
 omega
theorem bitLen_of{x m:Nat}(h0:x≠0)(hx:x<18446744073709551616)(h:Lib.bitLen x=m):1≤m∧2^(m-1)≤x∧x<2^m:=by
 have:=Lib.bitLenAux_bounds 64 x (by rw[show (2:Nat)^64=18446744073709551616 by decide];exact hx) h0
 have e:Lib.bitLenAux 64 x=m:=h
 rw[e] at this
 exact this
end Go.Proofs.YtnjedhgcfeoemaaGreatDoor

namespace Go.Proofs.YtnjedhgcfeoemaaGreatDoor.LN
structure LogAt (n:Nat) (p:Int) (L:Nat):Prop where
 le:2^L≤p.toNat^(2^n)
 lt:p.toNat^(2^n)<2^(L+1)
 two:p=2→L=2^n
 odd:p≠2→2^L<p.toNat^(2^n)
end Go.Proofs.YtnjedhgcfeoemaaGreatDoor.LN

namespace Go.Proofs.YtnjedhgcfeoemaaGreatDoor
theorem pow_odd(p:Nat)(h:p%2=1)(m:Nat):p^m%2=1:=by
 induction m with
 | zero=>rfl
 | succ m ih=>rw[Nat.pow_succ,Nat.mul_mod,ih,h]
theorem lgN_at{p n:Nat}(hp:p=2∨p∈oddP)(hn:n≤1056):LN.LogAt n (p:Int) (lgN p n):=by
 rcases hp with rfl|hp
 ·rw[show ((2:Nat):Int)=2 from rfl,lgN_two]
  exact⟨Nat.le_refl _,Nat.pow_lt_pow_right (by decide) (by omega),fun _=>rfl,fun h=>absurd rfl h⟩
 ·have ho:=oddP_odd hp
  obtain⟨h1,h2⟩:=lgN_is hp hn
  refine⟨by rw[Int.toNat_natCast];exact h1,by rw[Int.toNat_natCast];exact h2,fun h=>by omega,fun _=>?_⟩
  rw[Int.toNat_natCast]
  refine Nat.lt_of_le_of_ne h1 fun e=>?_
  have h3:=pow_odd p ho.1 (2^n)
  rw[← e] at h3
  by_cases h0:lgN p n=0
  ·rw[h0] at h2
   have:p^1≤p^(2^n):=Nat.pow_le_pow_right (by omega) (Nat.two_pow_pos n)
   rw[Nat.pow_one] at this
   omega
  ·obtain⟨k,hk⟩:=Nat.exists_eq_succ_of_ne_zero h0
   rw[hk,Nat.pow_succ] at h3
   omega
end Go.Proofs.YtnjedhgcfeoemaaGreatDoor

namespace Go.Proofs.YtnjedhgcfeoemaaGreatDoor
open Go.RowKit
theorem compD(_w:World)(a b K:Nat)(hK:K<90000)(ha:a<2^K)(hb:b<2^K):∃ c:Int,(c = -1∨c=0∨c=1)∧(0≤c↔b≤a)∧∀ W,Gives Tryz.prog 114 #[.string (dec a),.string (dec b)] W (.int .i64 c):=by
 have hn:=num_two ha (by omega)
 have hm:=num_two hb (by omega)
 refine⟨cmpZ a b,?_,?_,fun W=>?_⟩
 ·unfold cmpZ;split
  ·exact .inl rfl
  ·split
   ·exact .inr (.inl rfl)
   ·exact .inr (.inr rfl)
 ·unfold cmpZ;split
  ·constructor<;>omega
  ·split
   ·constructor<;>omega
   ·constructor<;>omega
 ·have:=comparez_any W (a:Int) (b:Int) hn hm
  rw[itx_nat,itx_nat] at this
  exact this
def digitsV (p n more:Nat):Value:=match digs p more n with
 | some s => .tuple #[.string (dec s.2.2),.bool true]
 | none => .tuple #[.string ⟨#[]⟩,.bool false]
theorem sdigits_any(w:World)(p n more:Nat)(hp:2≤p)(hp2:p≤97)(hn:n≤4000)(hm:64≤more)(hm2:more≤4000)(L:Laid w):
  Gives Tryz.prog 242 #[.int .i64 p,.int .i64 n,.int .i64 more] w (digitsV p n more):=by
 unfold Gives
 have hl:=log2_le p hp hp2
 have hln:=hd_ (Tryz.bits_Len p w (by omega) (by omega))
 rw[show ((p:Nat):Int).toNat=p from rfl,bitLen_log p (by omega) hp2] at hln
 have hw1:IntKind.i64.wrap (((p.log2+1:Nat):Int)-1)=(p.log2:Int):=by rw[show ((p.log2+1:Nat):Int)-1=(p.log2:Int) by omega];exact iw_ _ (by omega)
 have hw2:IntKind.u64.wrap (p:Int)=p:=IntWalk.u64_in _ (by omega)
 have hw3:IntKind.i64.wrap ((more:Int)-(p.log2:Int))=((more-p.log2:Nat):Int):=by rw[show (more:Int)-(p.log2:Int)=((more-p.log2:Nat):Int) by omega];exact iw_ _ (by omega)
 have HL:=hd_ L
 clear L
 obtain⟨K,hK⟩:∃ K:Nat,K=4050:=⟨_,rfl⟩
 have HK:=hd_ hK
 have Hm2:=hd_ hm2
 have Hn:=hd_ hn
 have Hdb:Hid (∀ j lo hi o,digs p more j=some (lo,hi,o)→lo<2*2^more∧hi<2*2^more∧o<2^(j+3)):=fun j lo hi o h=>by
  have:=digs_b p more hp hp2 hm j _ h
  exact⟨this.lo,this.hi,this.out⟩
 have Hnext:Hid (∀ j s,digs p more j=some s→digs p more (j+1)=digStep (2^more) s):=fun j s h=>by
  simp only[digs,h,Option.bind_some]
 have Hu0:Hid (0<2^more):=Nat.two_pow_pos more
 have Hu:Hid (2^more<2^K):=Nat.pow_lt_pow_right (by decide) (by omega)
 have Huu:Hid (2^more+2^more=2*2^more):=(Nat.two_mul _).symm
 have Hu2:Hid (2*2^more<2^K):=by
  show _<_
  rw[Nat.mul_comm,← Nat.pow_succ]
  exact Nat.pow_lt_pow_right (by decide) (by omega)
 have Hp2:Hid (∀ W,Below w.heap.size w W→Gives Tryz.prog 18 #[.string ⟨#[50]⟩,.int .i64 more] W (.tuple #[.string (dec (2^more)),.int .i64 0])):=fun W hW=>wpow2 W more hm2 (HL.out.below hW)
 have Hp3:Hid (∀ W,Below w.heap.size w W→Gives Tryz.prog 18 #[.string ⟨#[50]⟩,.int .i64 (more-p.log2:Nat)] W (.tuple #[.string (dec (2^(more-p.log2))),.int .i64 0])):=fun W hW=>wpow2 W (more-p.log2) (by omega) (HL.out.below hW)
 have H0:Hid (digs p more 0=some (p*2^(more-p.log2),p*2^(more-p.log2),p.log2)):=rfl
 have Hof1:Hid (∀ W,Below w.heap.size w W→Gives Tryz.prog 73 #[.int .i64 p] W (.string (dec p))):=fun W hW=>by
  have:=ofz_any W p (by omega) (by omega) (HL.out.below hW)
  rw[itx_nat] at this;exact this
 have Hof2:Hid (∀ W,Below w.heap.size w W→Gives Tryz.prog 73 #[.int .i64 p.log2] W (.string (dec p.log2))):=fun W hW=>by
  have:=ofz_any W p.log2 (by omega) (by omega) (HL.out.below hW)
  rw[itx_nat] at this;exact this
 have Had1:Hid (∀ W,Below w.heap.size w W→Gives Tryz.prog 20 #[.string (dec (2^more)),.string (dec (2^more))] W (.string (dec (2*2^more)))):=fun W hW=>by
  have:=addD W (2^more) (2^more) K (by have:=HK.out;omega) Hu.out Hu.out (HL.out.below hW)
  rw[Huu.out] at this;exact this
 have Hmu1:Hid (∀ W,Below w.heap.size w W→Gives Tryz.prog 115 #[.string (dec p),.string (dec (2^(more-p.log2)))] W (.string (dec (p*2^(more-p.log2))))):=fun W hW =>
  mulD W p (2^(more-p.log2)) (K+K) (by have:=HK.out;omega) (Nat.lt_of_lt_of_le (show p<2^7 by omega) (Nat.pow_le_pow_right (by decide) (by have:=HK.out;omega))) (Nat.pow_lt_pow_right (by decide) (by omega)) (HL.out.below hW)
 have B0:=hd_ (Below.refl w.heap.size w)
 have hnn:(n:Int)≤4000:=by omega
 rw[show ((more-p.log2:Nat):Int)=(more:Int)-(p.log2:Int) by omega] at Hp3
 clear hp hp2 hK hw3
 have Hd1:=hd_ dec_one
 have Hd2:=hd_ dec_two
 generalize hlp:p.log2=lp at *
 clear hlp
 generalize 2^more=unit at *
 generalize hvv:digitsV p n more=vv at *
 have Hvv:=hd_ hvv
 clear hvv
 go_enter Tryz.func242,Tryz.ntmps242
 go_wp2_with fail
 refine cm_ hln.out ?_
 rintro e w1 ⟨rfl,rfl⟩
 clear hln
 go_wp2_with fail
 refine cm_ (Hp2.out _ B0.out) ?_
 rintro e w2 ⟨rfl,hb⟩
 have B2:=hd_ (B0.out.trans (hb.mono B0.out.size))
 clear hb B0
 go_wp2_with fail
 refine cm_ (Had1.out _ B2.out) ?_
 rintro e w3 ⟨rfl,hb⟩
 have B3:=hd_ (B2.out.trans (hb.mono B2.out.size))
 clear hb B2
 go_wp2_with fail
 refine cm_ (Hp3.out _ B3.out) ?_
 rintro e w4 ⟨rfl,hb⟩
 have B4:=hd_ (B3.out.trans (hb.mono B3.out.size))
 clear hb B3
 go_wp2_with fail
 refine cm_ (Hof1.out _ B4.out) ?_
 rintro e w5 ⟨rfl,hb⟩
 have B5:=hd_ (B4.out.trans (hb.mono B4.out.size))
 clear hb B4
 go_wp2_with fail
 refine cm_ (Hmu1.out _ B5.out) ?_
 rintro e w6 ⟨rfl,hb⟩
 have B6:=hd_ (B5.out.trans (hb.mono B5.out.size))
 clear hb B5
 go_wp2_with fail
 refine cm_ (Hof2.out _ B6.out) ?_
 rintro e w7 ⟨rfl,hb⟩
 have B7:=hd_ (B6.out.trans (hb.mono B6.out.size))
 clear hb B6
 go_wp2_with fail
 clear Hp2 Had1 Hp3 Hof1 Hmu1 Hof2
 generalize p*2^(more-lp)=st at *
 go_loopw [14,15,16,50] (fun a b c i wr=>∃ (j lo hi o:Nat),j≤n∧Hid (digs p more j=some (lo,hi,o))∧a = .string (dec lo)∧b = .string (dec hi)∧c = .string (dec o)∧i = .int .i64 j∧Hid (Below w1.heap.size w1 wr)) (fun _ _ _ i _=>n-(intOf i).toNat)
 case atStart=>exact⟨0,_,_,_,by omega,H0,rfl,rfl,rfl,rfl,B7⟩
 case round =>
  clear B7 H0
  obtain⟨j,lo,hi,o,hj,Hd,rfl,rfl,rfl,rfl,B1⟩:=hrel
  by_cases hlt:j<n
  ·have hlt':(j:Int)<n:=by omega
   obtain⟨f1,f2,f3⟩:=Hdb.out j _ _ _ Hd.out
   have g1:lo<2^K:=Nat.lt_trans f1 Hu2.out
   have g2:hi<2^K:=Nat.lt_trans f2 Hu2.out
   have g3:o<2^K:=Nat.lt_of_lt_of_le f3 (Nat.pow_le_pow_right (by decide) (by have:=Hn.out;have:=HK.out;omega))
   clear f1 f2 f3
   have k1:lo*lo<2^(K+K):=by rw[Nat.pow_add];exact Nat.mul_lt_mul'' g1 g1
   have k2:hi*hi<2^(K+K):=by rw[Nat.pow_add];exact Nat.mul_lt_mul'' g2 g2
   have k3:unit<2^(K+K):=Nat.lt_trans Hu.out (Nat.pow_lt_pow_right (by decide) (by have:=HK.out;omega))
   have k4:2*unit<2^(K+K+1):=Nat.lt_trans Hu2.out (Nat.pow_lt_pow_right (by decide) (by have:=HK.out;omega))
   have k5:lo*lo/unit<2^(K+K):=Nat.lt_of_le_of_lt (Nat.div_le_self _ _) k1
   have k6:hi*hi/unit<2^(K+K):=Nat.lt_of_le_of_lt (Nat.div_le_self _ _) k2
   have one:1<2^(K+K):=Nat.one_lt_two_pow (by have:=HK.out;omega)
   have k7:hi*hi/unit+1<2^(K+K+1):=by rw[Nat.pow_succ 2 (K+K)];omega
   have k8:lo*lo/unit<2^(K+K+1):=Nat.lt_trans k5 (Nat.pow_lt_pow_right (by decide) (by have:=HK.out;omega))
   have k9:(hi*hi/unit+1)/2<2^(K+K+1):=Nat.lt_of_le_of_lt (Nat.div_le_self _ _) k7
   have one1:1<2^(K+K+1):=Nat.one_lt_two_pow (by have:=HK.out;omega)
   have two1:2<2^(K+K+1):=by
    have:2^2≤2^(K+K+1):=Nat.pow_le_pow_right (by decide) (by have:=HK.out;omega)
    omega
   have g3':o<2^(K+K):=Nat.lt_trans g3 (Nat.pow_lt_pow_right (by decide) (by have:=HK.out;omega))
   have k10:o+o<2^(K+K+1):=by rw[Nat.pow_succ 2 (K+K)];omega
   have BL:=fun W (hW:Below wr.heap.size wr W)=>HL.out.below (B1.out.trans (hW.mono B1.out.size))
   have M1:Hid (∀ W,Below wr.heap.size wr W→Gives Tryz.prog 115 #[.string (dec lo),.string (dec lo)] W (.string (dec (lo*lo)))):=fun W hW=>mulD W lo lo K (by have:=HK.out;omega) g1 g1 (BL W hW)
   have M2:Hid (∀ W,Below wr.heap.size wr W→Gives Tryz.prog 115 #[.string (dec hi),.string (dec hi)] W (.string (dec (hi*hi)))):=fun W hW=>mulD W hi hi K (by have:=HK.out;omega) g2 g2 (BL W hW)
   have D1:Hid (∀ W,Below wr.heap.size wr W→Gives Tryz.prog 163 #[.string (dec (lo*lo)),.string (dec unit)] W (.tuple #[.string (dec (lo*lo/unit)),.string (dec (lo*lo%unit)),.int .i64 0])):=fun W hW=>divD W _ unit (K+K) (by have:=HK.out;omega) k1 k3 Hu0.out (BL W hW)
   have D2:Hid (∀ W,Below wr.heap.size wr W→Gives Tryz.prog 163 #[.string (dec (hi*hi)),.string (dec unit)] W (.tuple #[.string (dec (hi*hi/unit)),.string (dec (hi*hi%unit)),.int .i64 0])):=fun W hW=>divD W _ unit (K+K) (by have:=HK.out;omega) k2 k3 Hu0.out (BL W hW)
   have A1:Hid (∀ W,Below wr.heap.size wr W→Gives Tryz.prog 20 #[.string (dec (hi*hi/unit)),.string ⟨#[49]⟩] W (.string (dec (hi*hi/unit+1)))):=fun W hW=>by
    have:=addD W _ 1 (K+K) (by have:=HK.out;omega) k6 one (BL W hW)
    rw[Hd1.out] at this;exact this
   have A2:Hid (∀ W,Below wr.heap.size wr W→Gives Tryz.prog 20 #[.string (dec o),.string (dec o)] W (.string (dec (o+o)))):=fun W hW=>addD W o o K (by have:=HK.out;omega) g3 g3 (BL W hW)
   have A3:Hid (∀ W,Below wr.heap.size wr W→Gives Tryz.prog 20 #[.string (dec (o+o)),.string ⟨#[49]⟩] W (.string (dec (o+o+1)))):=fun W hW=>by
    have:=addD W _ 1 (K+K+1) (by have:=HK.out;omega) k10 one1 (BL W hW)
    rw[Hd1.out] at this;exact this
   have D3:Hid (∀ W,Below wr.heap.size wr W→Gives Tryz.prog 163 #[.string (dec (lo*lo/unit)),.string ⟨#[50]⟩] W (.tuple #[.string (dec (lo*lo/unit/2)),.string (dec (lo*lo/unit%2)),.int .i64 0])):=fun W hW=>by
    have:=divD W _ 2 (K+K+1) (by have:=HK.out;omega) k8 two1 (by decide) (BL W hW)
    rw[Hd2.out] at this;exact this
   have D4:Hid (∀ W,Below wr.heap.size wr W→Gives Tryz.prog 163 #[.string (dec (hi*hi/unit+1)),.string ⟨#[50]⟩] W (.tuple #[.string (dec ((hi*hi/unit+1)/2)),.string (dec ((hi*hi/unit+1)%2)),.int .i64 0])):=fun W hW=>by
    have:=divD W _ 2 (K+K+1) (by have:=HK.out;omega) k7 two1 (by decide) (BL W hW)
    rw[Hd2.out] at this;exact this
   have A4:Hid (∀ W,Below wr.heap.size wr W→Gives Tryz.prog 20 #[.string (dec ((hi*hi/unit+1)/2)),.string ⟨#[49]⟩] W (.string (dec ((hi*hi/unit+1)/2+1)))):=fun W hW=>by
    have:=addD W _ 1 (K+K+1) (by have:=HK.out;omega) k9 one1 (BL W hW)
    rw[Hd1.out] at this;exact this
   obtain⟨c1,hc1,hc1',C1⟩:=compD wr (lo*lo/unit) (2*unit) (K+K+1) (by have:=HK.out;omega) k8 k4
   obtain⟨c2,hc2,hc2',C2⟩:=compD wr (hi*hi/unit+1) (2*unit) (K+K+1) (by have:=HK.out;omega) k7 k4
   have HC1:=hd_ C1
   have HC2:=hd_ C2
   have Hc1:=hd_ hc1'
   have Hc2:=hd_ hc2'
   have Hst:=hd_ (Hnext.out j _ Hd.out)
   simp only[digStep] at Hst
   have Hoo:Hid (2*o=o+o):=Nat.two_mul o
   rw[Hoo.out] at Hst
   clear C1 C2 hc1' hc2' BL k1 k2 k3 k4 k5 k6 k7 k8 k9 k10 one one1 two1 g1 g2 g3 g3' Hoo
   generalize lo*lo/unit=X1 at *
   generalize hi*hi/unit=X2 at *
   generalize lo*lo%unit=r1 at *
   generalize hi*hi%unit=r2 at *
   generalize lo*lo=q1 at *
   generalize hi*hi=q2 at *
   generalize X1%2=r3 at *
   generalize (X2+1)%2=r4 at *
   obtain⟨Y1,hY1⟩:∃ y,X1/2=y:=⟨_,rfl⟩
   obtain⟨Y2,hY2⟩:∃ y,(X2+1)/2+1=y:=⟨_,rfl⟩
   obtain⟨Y3,hY3⟩:∃ y,X2+1=y:=⟨_,rfl⟩
   rw[hY1] at D3 Hst
   rw[hY2] at A4 Hst
   rw[hY3] at D4 A1 HC2 Hst Hc2 A4
   clear hY1 hY2 hY3
   generalize Y3/2=Y4 at *
   generalize dec lo=slo at *
   generalize dec hi=shi at *
   generalize dec o=so at *
   generalize o+o=oo at *
   have P0:=hd_ (Below.refl wr.heap.size wr)
   clear Hnext Hdb
   by_cases h1:0≤c1
   ·have Hst1:Hid (digs p more (j+1)=some (Y1,Y2,oo+1)):=by
     show _=_
     rw[Hst.out,if_pos (Hc1.out.1 h1)]
    clear Hst Hc1 Hc2 HC2
    go_wp2_with fail
    refine cm_ (M1.out _ P0.out) ?_
    rintro e w1 ⟨rfl,hb⟩
    have P1:=hd_ (P0.out.trans (hb.mono P0.out.size))
    clear hb P0 M1
    go_wp2_with fail
    refine cm_ (D1.out _ P1.out) ?_
    rintro e w2 ⟨rfl,hb⟩
    have P2:=hd_ (P1.out.trans (hb.mono P1.out.size))
    clear hb P1 D1
    go_wp2_with fail
    refine cm_ (M2.out _ P2.out) ?_
    rintro e w3 ⟨rfl,hb⟩
    have P3:=hd_ (P2.out.trans (hb.mono P2.out.size))
    clear hb P2 M2
    go_wp2_with fail
    refine cm_ (D2.out _ P3.out) ?_
    rintro e w4 ⟨rfl,hb⟩
    have P4:=hd_ (P3.out.trans (hb.mono P3.out.size))
    clear hb P3 D2
    go_wp2_with fail
    refine cm_ (A1.out _ P4.out) ?_
    rintro e w5 ⟨rfl,hb⟩
    have P5:=hd_ (P4.out.trans (hb.mono P4.out.size))
    clear hb P4 A1
    go_wp2_with fail
    refine cm_ (A2.out _ P5.out) ?_
    rintro e w6 ⟨rfl,hb⟩
    have P6:=hd_ (P5.out.trans (hb.mono P5.out.size))
    clear hb P5 A2
    go_wp2_with fail
    refine cm_ (HC1.out _) ?_
    rintro e w7 ⟨rfl,hb⟩
    have P7:=hd_ (P6.out.trans (hb.mono P6.out.size))
    clear hb P6 HC1
    go_wp2_with fail
    refine cm_ (A3.out _ P7.out) ?_
    rintro e w8 ⟨rfl,hb⟩
    have P8:=hd_ (P7.out.trans (hb.mono P7.out.size))
    clear hb P7 A3
    go_wp2_with fail
    refine cm_ (D3.out _ P8.out) ?_
    rintro e w9 ⟨rfl,hb⟩
    have P9:=hd_ (P8.out.trans (hb.mono P8.out.size))
    clear hb P8 D3
    go_wp2_with fail
    refine cm_ (D4.out _ P9.out) ?_
    rintro e w10 ⟨rfl,hb⟩
    have P10:=hd_ (P9.out.trans (hb.mono P9.out.size))
    clear hb P9 D4
    go_wp2_with fail
    refine cm_ (A4.out _ P10.out) ?_
    rintro e w11 ⟨rfl,hb⟩
    have P11:=hd_ (P10.out.trans (hb.mono P10.out.size))
    clear hb P10 A4
    go_wp2_with fail
    have B9:=hd_ (B1.out.trans (P11.out.mono B1.out.size))
    go_roundw
    case rel=>exact⟨j+1,Y1,Y2,oo+1,by omega,Hst1,rfl,rfl,rfl,by go_num,B9⟩
    case measure=>simp[intOf];omega
   ·have h1':c1<0:=by omega
    by_cases h2:0≤c2
    ·have Hst1:Hid (digs p more (j+1)=none):=by
      show _=_
      rw[Hst.out,if_neg (fun h=>h1 (Hc1.out.2 h)),if_pos (Hc2.out.1 h2)]
     have Hv1:Hid (vv = .tuple #[.string ⟨#[]⟩,.bool false]):=by
      show _=_
      rw[← Hvv.out]
      unfold digitsV
      rw[digs_none Hst1.out (by omega)]
     clear Hst Hc1 Hc2 A3 D3 D4 A4
     go_wp2_with fail
     refine cm_ (M1.out _ P0.out) ?_
     rintro e w1 ⟨rfl,hb⟩
     have P1:=hd_ (P0.out.trans (hb.mono P0.out.size))
     clear hb P0 M1
     go_wp2_with fail
     refine cm_ (D1.out _ P1.out) ?_
     rintro e w2 ⟨rfl,hb⟩
     have P2:=hd_ (P1.out.trans (hb.mono P1.out.size))
     clear hb P1 D1
     go_wp2_with fail
     refine cm_ (M2.out _ P2.out) ?_
     rintro e w3 ⟨rfl,hb⟩
     have P3:=hd_ (P2.out.trans (hb.mono P2.out.size))
     clear hb P2 M2
     go_wp2_with fail
     refine cm_ (D2.out _ P3.out) ?_
     rintro e w4 ⟨rfl,hb⟩
     have P4:=hd_ (P3.out.trans (hb.mono P3.out.size))
     clear hb P3 D2
     go_wp2_with fail
     refine cm_ (A1.out _ P4.out) ?_
     rintro e w5 ⟨rfl,hb⟩
     have P5:=hd_ (P4.out.trans (hb.mono P4.out.size))
     clear hb P4 A1
     go_wp2_with fail
     refine cm_ (A2.out _ P5.out) ?_
     rintro e w6 ⟨rfl,hb⟩
     have P6:=hd_ (P5.out.trans (hb.mono P5.out.size))
     clear hb P5 A2
     go_wp2_with fail
     refine cm_ (HC1.out _) ?_
     rintro e w7 ⟨rfl,hb⟩
     have P7:=hd_ (P6.out.trans (hb.mono P6.out.size))
     clear hb P6 HC1
     go_wp2_with fail
     refine cm_ (HC2.out _) ?_
     rintro e w8 ⟨rfl,hb⟩
     have P8:=hd_ (P7.out.trans (hb.mono P7.out.size))
     clear hb P7 HC2
     go_wp2_with fail
     have B9:=hd_ (B1.out.trans (P8.out.mono B1.out.size))
     go_ret2
     exact⟨by rw[Hv1.out];rfl,B9.out⟩
    ·have h2':c2<0:=by omega
     have Hst1:Hid (digs p more (j+1)=some (X1,Y3,oo)):=by
      show _=_
      rw[Hst.out,if_neg (fun h=>h1 (Hc1.out.2 h)),if_neg (fun h=>h2 (Hc2.out.2 h))]
     clear Hst Hc1 Hc2 A3 D3 D4 A4
     go_wp2_with fail
     refine cm_ (M1.out _ P0.out) ?_
     rintro e w1 ⟨rfl,hb⟩
     have P1:=hd_ (P0.out.trans (hb.mono P0.out.size))
     clear hb P0 M1
     go_wp2_with fail
     refine cm_ (D1.out _ P1.out) ?_
     rintro e w2 ⟨rfl,hb⟩
     have P2:=hd_ (P1.out.trans (hb.mono P1.out.size))
     clear hb P1 D1
     go_wp2_with fail
     refine cm_ (M2.out _ P2.out) ?_
     rintro e w3 ⟨rfl,hb⟩
     have P3:=hd_ (P2.out.trans (hb.mono P2.out.size))
     clear hb P2 M2
     go_wp2_with fail
     refine cm_ (D2.out _ P3.out) ?_
     rintro e w4 ⟨rfl,hb⟩
     have P4:=hd_ (P3.out.trans (hb.mono P3.out.size))
     clear hb P3 D2
     go_wp2_with fail
     refine cm_ (A1.out _ P4.out) ?_
     rintro e w5 ⟨rfl,hb⟩
     have P5:=hd_ (P4.out.trans (hb.mono P4.out.size))
     clear hb P4 A1
     go_wp2_with fail
     refine cm_ (A2.out _ P5.out) ?_
     rintro e w6 ⟨rfl,hb⟩
     have P6:=hd_ (P5.out.trans (hb.mono P5.out.size))
     clear hb P5 A2
     go_wp2_with fail
     refine cm_ (HC1.out _) ?_
     rintro e w7 ⟨rfl,hb⟩
     have P7:=hd_ (P6.out.trans (hb.mono P6.out.size))
     clear hb P6 HC1
     go_wp2_with fail
     refine cm_ (HC2.out _) ?_
     rintro e w8 ⟨rfl,hb⟩
     have P8:=hd_ (P7.out.trans (hb.mono P7.out.size))
     clear hb P7 HC2
     go_wp2_with fail
     have B9:=hd_ (B1.out.trans (P8.out.mono B1.out.size))
     go_roundw
     case rel=>exact⟨j+1,X1,Y3,oo,by omega,Hst1,rfl,rfl,rfl,by go_num,B9⟩
     case measure=>simp[intOf];omega
  ·have hlt':¬ (j:Int)<n:=by omega
   have hjn:j=n:=by omega
   subst hjn
   have Hv1:Hid (vv = .tuple #[.string (dec o),.bool true]):=by
    show _=_
    rw[← Hvv.out]
    unfold digitsV
    rw[Hd.out]
   clear Hnext Hdb
   go_wp2_with fail
   go_ret2
   exact⟨by rw[Hv1.out];rfl,B1.out⟩
theorem digs_ok_all{p n:Nat}(ho:p∈oddP)(hn:n≤1056):∀ more,1120≤more→(digs p more n).isSome=true:=by
 intro more hm
 exact digs_ok (p:=p) (n:=n) (more:=more) ho hn hm
theorem dec_lgN{p n:Nat}(ho:p∈oddP)(hn:n≤1056):∀ more s,64≤more→digs p more n=some s→dec (lgN p n)=dec s.2.2:=by
 intro more s hm h
 have h1:6≤more:=Nat.le_trans (by decide) hm
 have:=digs_lgN (p:=p) (n:=n) (more:=more) ho hn h1 h
 rw[this]
theorem log_any(w:World)(p n:Nat)(hp:p=2∨p∈oddP)(hn:n≤1056)(L:Laid w):Gives Tryz.prog 212 #[.int .i64 p,.int .i64 n] w (.string (dec (lgN p n))):=by
 unfold Gives
 by_cases h2:p=2
 ·subst h2
  have Hp:=hd_ (wpow2 w n (by omega) L)
  rw[show ((2:Nat):Int)=2 from rfl,lgN_two]
  clear L hp
  generalize dec (2^n)=s at *
  go_enter Tryz.func212,Tryz.ntmps212
  go_wp2_with fail
  refine cm_ Hp.out ?_
  rintro e w1 ⟨rfl,hb⟩
  have B1:=hd_ hb
  clear hb Hp
  go_wp2_with fail
  go_ret
  exact⟨rfl,B1.out⟩
 ·have ho:=hp.resolve_left h2
  have hodd:=oddP_odd ho
  have h2':((p:Int)==2)=false:=by rw[beq_eq_false_iff_ne];omega
  have HL:=hd_ L
  have Hdg:Hid (∀ (more:Nat) W,64≤more→more≤4000→Below w.heap.size w W→Gives Tryz.prog 242 #[.int .i64 p,.int .i64 n,.int .i64 more] W (digitsV p n more)):=fun more W h1 h2 hW =>
   sdigits_any W p n more (by omega) (by omega) (by omega) h1 h2 (HL.out.below hW)
  have Hok:Hid (∀ more:Nat,1120≤more→(digs p more n).isSome=true):=hd_ (digs_ok_all ho hn)
  have Hlg:Hid (∀ (more:Nat) s,64≤more→digs p more n=some s→dec (lgN p n)=dec s.2.2):=hd_ (dec_lgN ho hn)
  have hw1:IntKind.i64.wrap ((n:Int)+64)=((n+64:Nat):Int):=by rw[show (n:Int)+64=((n+64:Nat):Int) by omega];exact iw_ _ (by omega)
  have B0:=hd_ (Below.refl w.heap.size w)
  clear L hp ho h2 hodd
  generalize dec (lgN p n)=vv at *
  go_enter Tryz.func212,Tryz.ntmps212
  go_wp2_with fail
  go_loopw [7] (fun a wr=>∃ (more:Nat),Hid (64≤more)∧more≤4000∧a = .int .i64 more∧Hid (Below w.heap.size w wr)) (fun a _=>4000-(intOf a).toNat)
  case atStart=>exact⟨n+64,by show _≤_;omega,by omega,rfl,B0⟩
  case round =>
   clear B0
   obtain⟨more,H64,h4000,rfl,B1⟩:=hrel
   have Hd:=hd_ (Hdg.out more wr H64.out h4000 B1.out)
   cases hd:digs p more n with
   | some s =>
    have Hs:Hid (digitsV p n more = .tuple #[.string (dec s.2.2),.bool true]):=by show _=_;unfold digitsV;rw[hd]
    have Hv:Hid (vv=dec s.2.2):=Hlg.out more s H64.out hd
    rw[Hs.out] at Hd
    clear hd Hs Hlg Hok Hdg
    go_wp2_with fail
    refine cm_ Hd.out ?_
    rintro e w1 ⟨rfl,hb⟩
    have B2:=hd_ (B1.out.trans (hb.mono B1.out.size))
    clear hb Hd
    go_wp2_with fail
    go_ret
    exact⟨by rw[Hv.out];rfl,B2.out⟩
   | none =>
    have Hs:Hid (digitsV p n more = .tuple #[.string ⟨#[]⟩,.bool false]):=by show _=_;unfold digitsV;rw[hd]
    rw[Hs.out] at Hd
    have hlt:more<1120:=by
     refine Nat.lt_of_not_le fun h=>?_
     have:=Hok.out more h
     rw[hd] at this
     cases this
    have hw2:IntKind.i64.wrap ((more:Int)*2)=((more*2:Nat):Int):=by rw[show (more:Int)*2=((more*2:Nat):Int) by omega];exact iw_ _ (by omega)
    clear hd Hs Hlg Hok Hdg
    go_wp2_with fail
    refine cm_ Hd.out ?_
    rintro e w1 ⟨rfl,hb⟩
    have B2:=hd_ (B1.out.trans (hb.mono B1.out.size))
    clear hb Hd
    go_wp2_with fail
    go_roundw
    case rel=>exact⟨more*2,by have:=H64.out;show _≤_;omega,by omega,rfl,B2⟩
    case measure=>have:=H64.out;simp[intOf];omega
theorem rd_take{w:World}{a:Option Addr}{V:List Value}(h:Rd w a V)(m:Nat):Rd w a (V.take m):=by
 rcases h with rfl|⟨b,off,h1,h2,h3⟩
 ·left;simp
 ·refine .inr ⟨b,off,h1,h2,fun i v hi=>h3 i v ?_⟩
  rw[List.getElem?_take] at hi
  split at hi
  ·exact hi
  ·cases hi
end Go.Proofs.YtnjedhgcfeoemaaGreatDoor

namespace Go.Proofs.YtnjedhgcfeoemaaGreatDoor.LN
def quoL (xl yl yh g d:Int):Int:=xl*g/((if xl<0 then yl else yh)*d)
def quoH (xh yl yh g d:Int):Int:=xh*g/((if xh<0 then yh else yl)*d)
end Go.Proofs.YtnjedhgcfeoemaaGreatDoor.LN

namespace Go.Proofs.YtnjedhgcfeoemaaGreatDoor
open Go.RowKit Go.Shelf
attribute [local go_sem] Oper.semAt_some
theorem ends_kt{B:Nat}{W0 W W4:World}(hB:W0.heap.size=B)(hb:Below W0.heap.size W0 W)(hsz:B+4<W.heap.size)(h:Below W.heap.size W W4)(v5 v6:Value):
  KT B (B+4) W ((W4.setCell ⟨B+1+1,0,none⟩ v5).setCell ⟨B+1+1+1,0,none⟩ v6):=by
 subst hB
 refine⟨((h.mono hb.size).setCell (p:=⟨W0.heap.size+1+1,0,none⟩) (by show _≤W0.heap.size+1+1;omega) _).setCell (p:=⟨W0.heap.size+1+1+1,0,none⟩) (by show _≤W0.heap.size+1+1+1;omega) _,?_⟩
 rw[obj_other (g:=W0.heap.size+1+1+1) (k:=W0.heap.size+4) (by omega),obj_other (g:=W0.heap.size+1+1) (k:=W0.heap.size+4) (by omega),h.block _ hsz]
theorem boxes4(w:World)(o1:Obj)(v2 v3 v4:Value)(t2 t3 t4:TypeId)(W:World)(hW:(((w.alloc o1).alloc (.cells #[v2] t2)).alloc (.cells #[v3] t3)).alloc (.cells #[v4] t4)=W):
  W.heap[w.heap.size+1]?=some (.cells #[v2] t2 (0,0))∧W.heap[w.heap.size+1+1]?=some (.cells #[v3] t3 (0,0))∧W.heap[w.heap.size+1+1+1]?=some (.cells #[v4] t4 (0,0)):=by
 subst hW
 exact⟨heap_old (heap_old (heap_at _ _ _ _ (by simp)) _) _,heap_old (heap_at _ _ _ _ (by simp)) _,heap_at _ _ _ _ (by simp)⟩
theorem eLo_snoc(f:Int→Nat)(l:List (Int×Int))(x:Int×Int):LN.eLo f (l++[x])=LN.eLo f l+(if x.2<0 then x.2*(LN.hiL f x.1:Int) else x.2*(f x.1:Int)):=by simp[LN.eLo]
theorem eHi_snoc(f:Int→Nat)(l:List (Int×Int))(x:Int×Int):LN.eHi f (l++[x])=LN.eHi f l+(if x.2<0 then x.2*(f x.1:Int) else x.2*(LN.hiL f x.1:Int)):=by simp[LN.eHi]
theorem abs_mul_lt{k:Int}{a E F:Nat}(hk:k.natAbs<2^E)(ha:a<2^F):(k*(a:Int)).natAbs<2^(E+F):=by
 rw[Int.natAbs_mul,Int.natAbs_natCast,Nat.pow_add]
 exact Nat.mul_lt_mul'' hk ha
theorem eSum_le{n E:Nat}(hn:n≤1056):∀ l:List (Int×Int),PrT l→(∀ x∈l,x.2.natAbs<2^E)→(LN.eLo (lf n) l).natAbs≤l.length*2^(E+(n+3))∧(LN.eHi (lf n) l).natAbs≤l.length*2^(E+(n+3))
 | [],_,_=>by simp[LN.eLo,LN.eHi]
 | x::l,hp,hk=>by
  have ih:=eSum_le hn l (fun y hy=>hp y (List.mem_cons_of_mem _ hy)) (fun y hy=>hk y (List.mem_cons_of_mem _ hy))
  obtain⟨h1,h2⟩:=lf_lt (hp x List.mem_cons_self) hn
  have hx:=hk x List.mem_cons_self
  have a1:=abs_mul_lt hx h1
  have a2:=abs_mul_lt hx h2
  have e1:LN.eLo (lf n) (x::l)=(if x.2<0 then x.2*(LN.hiL (lf n) x.1:Int) else x.2*(lf n x.1:Int))+LN.eLo (lf n) l:=by simp[LN.eLo]
  have e2:LN.eHi (lf n) (x::l)=(if x.2<0 then x.2*(lf n x.1:Int) else x.2*(LN.hiL (lf n) x.1:Int))+LN.eHi (lf n) l:=by simp[LN.eHi]
  rw[e1,e2,List.length_cons,Nat.add_mul,Nat.one_mul]
  generalize 2^(E+(n+3))=T at *
  generalize l.length*T=S at *
  constructor
  ·refine Nat.le_trans (Int.natAbs_add_le _ _) ?_
   split<;>omega
  ·refine Nat.le_trans (Int.natAbs_add_le _ _) ?_
   split<;>omega
theorem eSum_num{n E:Nat}(hn:n≤1056)(l:List (Int×Int))(hl:l.length≤1000)(hp:PrT l)(hk:∀ x∈l,x.2.natAbs<2^E):
  (LN.eLo (lf n) l).natAbs<2^(E+(n+3)+10)∧(LN.eHi (lf n) l).natAbs<2^(E+(n+3)+10):=by
 obtain⟨h1,h2⟩:=eSum_le hn l hp hk
 have h3:l.length*2^(E+(n+3))≤1000*2^(E+(n+3)):=Nat.mul_le_mul_right _ hl
 have e:2^(E+(n+3)+10)=1024*2^(E+(n+3)):=by rw[Nat.pow_add _ _ 10,Nat.mul_comm]
 have h4:=Nat.two_pow_pos (E+(n+3))
 rw[e]
 constructor<;>omega
theorem addZ(w:World)(a b:Int)(K:Nat)(hK:K<90000)(ha:a.natAbs<2^K)(hb:b.natAbs<2^K)(L:Laid w):Gives Tryz.prog 20 #[.string (itx a),.string (itx b)] w (.string (itx (a+b))) :=
 addz_any w a b (num_two ha (by omega)) (num_two hb (by omega)) (num_two (K:=K+1) (by rw[Nat.pow_succ];omega) (by omega)) L
theorem mulZ(w:World)(a b:Int)(K M:Nat)(hK:K+M<90000)(ha:a.natAbs<2^K)(hb:b.natAbs<2^M)(L:Laid w):Gives Tryz.prog 115 #[.string (itx a),.string (itx b)] w (.string (itx (a*b))) :=
 mulz_any w a b (num_two ha (by omega)) (num_two hb (by omega)) (num_two (K:=K+M) (by rw[Int.natAbs_mul,Nat.pow_add];exact Nat.mul_lt_mul'' ha hb) (by omega)) L
def endsAct (w:World) (b1 b2:Option Addr) (d1 d2 D m:Nat) (n:Int) (p:Int) (k:ByteArray):Act:={ tmps := #[.agg (tcells b1 d1 b2 d2 m D),.int .i64 n,.pointer (some ⟨w.heap.size,0,none⟩),.pointer (some ⟨w.heap.size+1,0,none⟩),.pointer (some ⟨w.heap.size+1+1,0,none⟩),.pointer (some ⟨w.heap.size+1+1+1,0,none⟩),.int .i64 p,.string k,undef,undef,.agg #[.slice b1 m d1,.slice b2 m d2,.string (dec D)],.func (.func 241) #[] #[.pointer (some ⟨w.heap.size+1+1+1+1,0,none⟩)],.int .i64 p,.string k,undef,undef,undef,undef,undef,undef,undef,undef,undef,undef,undef,undef,undef,undef,undef,undef,undef,undef,undef,undef,undef,undef,undef,undef,undef,undef,undef],defers:=[] }
theorem ends_any(w:World)(b1 b2:Option Addr)(d1 d2 D n E:Nat)(tl:List (Int×Int))(T:TermsAt w tl b1 b2)(hP:PrT tl)(hE:E≤20000)(hK:∀ x∈tl,x.2.natAbs<2^E)(hn:n≤1056)(L:Laid w):
  Gives Tryz.prog 172 #[.agg (tcells b1 d1 b2 d2 tl.length D),.int .i64 n] w (.tuple #[.string (itx (LN.eLo (lf n) tl)),.string (itx (LN.eHi (lf n) tl))]):=by
 unfold Gives
 have hr1:=T.r1
 have hr2:=T.r2
 have hl:=T.len
 refine(callsIn_wide (n:=3)).1 ?_
 refine callsIn_of_wp_marks Tryz.func172 rfl trivial ?_ rfl
 simp only[Tryz.ntmps172,List.size_toArray,List.length_cons,List.length_nil,Nat.reduceAdd,Nat.reduceSub,Array.replicate_succ,Array.replicate_zero,List.push_toArray,List.append_toArray,List.nil_append,List.cons_append]
 have HT:=hd_ T
 have HL:=hd_ L
 have Hn:=hd_ hn
 have HE:=hd_ hE
 have HP:=hd_ hP
 have HK:=hd_ hK
 have H0:Hid (itx 0=⟨#[48]⟩):=by show _=_;rw[show (0:Int)=((0:Nat):Int) from rfl,itx_nat,dec_zero]
 clear L T hn hE hK hP
 gi_wp2_with fail
 obtain⟨w0,hw0⟩:∃ w0,(((w.alloc (Obj.cells (tcells b1 d1 b2 d2 tl.length D) 163)).alloc (Obj.cells #[Value.int IntKind.i64 n] 3)).alloc (Obj.cells #[Value.string ⟨#[48]⟩] 25)).alloc (Obj.cells #[Value.string ⟨#[48]⟩] 25)=w0:=⟨_,rfl⟩
 have hsz0:w0.heap.size=w.heap.size+4:=by rw[← hw0];simp
 have hB0:Below w.heap.size w w0:=by rw[← hw0];exact((((Below.refl _ w).alloc nr_ _).alloc (by simp) _).alloc (by simp;omega) _).alloc (by simp;omega) _
 have hbox:=boxes4 w _ _ _ _ _ _ _ w0 hw0
 rw[hw0]
 refine⟨trivial,?_⟩
 refine(callsIn_wide.2 (all_any w0 b1 b2 d1 d2 tl.length D)).mono ?_
 rintro e w' ⟨rfl,rfl⟩
 rw[hsz0]
 have hB5:(w0.alloc (.cells (tcells b1 d1 b2 d2 tl.length D) 163)).heap[w.heap.size+4]?=some (.cells (tcells b1 d1 b2 d2 tl.length D) 163 (0,0)):=by
  rw[← hsz0];exact Go.heap_alloc_new w0 _
 have hB1:Below w.heap.size w (w0.alloc (.cells (tcells b1 d1 b2 d2 tl.length D) 163)):=hB0.alloc (by omega) _
 have hsz1:(w0.alloc (.cells (tcells b1 d1 b2 d2 tl.length D) 163)).heap.size=w.heap.size+5:=by rw[World.size_alloc,hsz0]
 have hI1:EndI w.heap.size n (itx (LN.eLo (lf n) [])) (itx (LN.eHi (lf n) [])) (w0.alloc (.cells (tcells b1 d1 b2 d2 tl.length D) 163)):=by
  obtain⟨h1,h2,h3⟩:=hbox
  have h1:=heap_old h1 (.cells (tcells b1 d1 b2 d2 tl.length D) 163)
  have h2:=heap_old h2 (.cells (tcells b1 d1 b2 d2 tl.length D) 163)
  have h3:=heap_old h3 (.cells (tcells b1 d1 b2 d2 tl.length D) 163)
  have e1:itx (LN.eLo (lf n) [])=⟨#[48]⟩:=H0.out
  have e2:itx (LN.eHi (lf n) [])=⟨#[48]⟩:=H0.out
  rw[e1,e2]
  exact⟨(one_cell h1).1,(one_cell h2).1,(one_cell h3).1,(one_cell h2).2,(one_cell h3).2,by rw[hsz1];omega⟩
 clear hB0 hw0 hbox H0
 generalize w0.alloc (.cells (tcells b1 d1 b2 d2 tl.length D) 163)=w1 at *
 gi_wp2_with fail
 refine wpIn_rangeFunc_ownF rfl (by decide) (gf:=241) (lb := #[.pointer (some ⟨w.heap.size+4,0,none⟩)]) rfl trivial (enters_of Tryz.func241 (by kernel_rfl) rfl)
  (all_stops 2 (by decide) w w1 hB1 (w.heap.size+4) b1 b2 d1 d2 D tl hl hB5 hr1 hr2) kt_t (kt_b (by rw[hsz1];omega) (by rw[hsz1];omega)) (Below.refl _ _) (fun _=>rfl)
  (fun pre W=>EndI w.heap.size n (itx (LN.eLo (lf n) (pre.map Subtype.val))) (itx (LN.eHi (lf n) (pre.map Subtype.val))) W∧Below w.heap.size w W)
  (fun _ _ W=>False∧Below w.heap.size w W)
  (OwnFrom.and (Own.from (fun s A B row hs hg hr=>hs.kept hg hr) _) (ownFrom_below nr_ (by rw[hsz1];omega)))
  (fun c=>OwnFrom.and (Own.from (fun s A B row hs hg hr=>hs.elim) _) (ownFrom_below nr_ (by rw[hsz1];omega)))
  ⟨hI1,hB1⟩
  (fun x=>endsAct w b1 b2 d1 d2 D tl.length n x.1.1 (itx x.1.2)) ?assign ?body ?done ?stop
 case assign =>
  intro l x W K hK
  unfold endsAct at hK
  gi_wp2
  exact hK
 case body =>
  rintro l pre ⟨⟨p,k⟩,hmem⟩ W0 ⟨hI,hB⟩ hlen
  have HI:=hd_ hI
  have HB:=hd_ hB
  have hpp:=HP.out _ hmem
  have hkk:=HK.out _ hmem
  simp only at hpp hkk
  have hn:=Hn.out
  have hE:=HE.out
  obtain⟨g1,g2⟩:=lf_lt hpp hn
  have hsub:∀ x∈pre.map Subtype.val,x∈tl:=fun x hx=>by
   obtain⟨y,_,rfl⟩:=List.mem_map.1 hx
   exact y.2
  have hpl:(pre.map Subtype.val).length≤1000:=by rw[List.length_map];omega
  obtain⟨s1,s2⟩:=eSum_num hn (pre.map Subtype.val) hpl (fun x hx=>HP.out x (hsub x hx)) (fun x hx=>HK.out x (hsub x hx))
  have e1:LN.eLo (lf n) ((pre++[(⟨(p,k),hmem⟩:{x // x∈tl})]).map Subtype.val)=LN.eLo (lf n) (pre.map Subtype.val)+(if k<0 then (LN.hiL (lf n) p:Int)*k else (lf n p:Int)*k):=by
   rw[List.map_append]
   have:=eLo_snoc (lf n) (pre.map Subtype.val) (p,k)
   simp only at this
   rw[Int.mul_comm k,Int.mul_comm k] at this
   exact this
  have e2:LN.eHi (lf n) ((pre++[(⟨(p,k),hmem⟩:{x // x∈tl})]).map Subtype.val)=LN.eHi (lf n) (pre.map Subtype.val)+(if k<0 then (lf n p:Int)*k else (LN.hiL (lf n) p:Int)*k):=by
   rw[List.map_append]
   have:=eHi_snoc (lf n) (pre.map Subtype.val) (p,k)
   simp only at this
   rw[Int.mul_comm k,Int.mul_comm k] at this
   exact this
  have Hlog:Hid (∀ W,Below w.heap.size w W→Gives Tryz.prog 212 #[.int .i64 p,.int .i64 n] W (.string (dec (lf n p)))):=fun W hW=>by
   obtain⟨q,rfl,hq⟩:=hpp
   exact log_any W q n hq hn (HL.out.below hW)
  have Hm1:Hid (∀ W,Below w.heap.size w W→Gives Tryz.prog 115 #[.string (dec (lf n p)),.string (itx k)] W (.string (itx ((lf n p:Int)*k)))):=fun W hW=>by
   have:=mulZ W (lf n p:Int) k (n+3) E (by omega) (by rw[Int.natAbs_natCast];exact g1) hkk (HL.out.below hW)
   rw[itx_nat] at this;exact this
  have Hm2:Hid (∀ W,Below w.heap.size w W→Gives Tryz.prog 115 #[.string (dec (LN.hiL (lf n) p)),.string (itx k)] W (.string (itx ((LN.hiL (lf n) p:Int)*k)))):=fun W hW=>by
   have:=mulZ W (LN.hiL (lf n) p:Int) k (n+3) E (by omega) (by rw[Int.natAbs_natCast];exact g2) hkk (HL.out.below hW)
   rw[itx_nat] at this;exact this
  have Hsg:Hid (∀ W,Below w.heap.size w W→Gives Tryz.prog 84 #[.string (itx k)] W (.int .i64 k.sign)):=fun W _=>sign_any W k
  have t1:((lf n p:Int)*k).natAbs<2^(E+(n+3)+10):=by
   have:=abs_mul_lt hkk g1
   rw[Int.mul_comm] at this
   exact Nat.lt_of_lt_of_le this (Nat.pow_le_pow_right (by decide) (by omega))
  have t2:((LN.hiL (lf n) p:Int)*k).natAbs<2^(E+(n+3)+10):=by
   have:=abs_mul_lt hkk g2
   rw[Int.mul_comm] at this
   exact Nat.lt_of_lt_of_le this (Nat.pow_le_pow_right (by decide) (by omega))
  have hF:E+(n+3)+10<90000:=by omega
  have one:1<2^(n+3):=Nat.one_lt_two_pow (by omega)
  have Had:Hid (∀ W,Below w.heap.size w W→Gives Tryz.prog 20 #[.string (dec (lf n p)),.string ⟨#[49]⟩] W (.string (dec (lf n p+1)))):=fun W hW=>by
   have:=addD W (lf n p) 1 (n+3) (by omega) g1 one (HL.out.below hW)
   rw[dec_one] at this;exact this
  generalize E+(n+3)+10=F at *
  unfold endsAct
  have Hk0:=hd_ (Below.refl W0.heap.size W0)
  have HI0:=HI
  have HB0:=HB
  have hw2:(k.sign = -1∧k<0)∨(0≤k.sign∧k.sign≤1∧¬ k<0):=by
   rcases Int.lt_trichotomy k 0 with h|h|h
   ·exact .inl ⟨Int.sign_eq_neg_one_of_neg h,h⟩
   ·subst h;exact .inr ⟨by decide,by decide,by decide⟩
   ·rw[Int.sign_eq_one_of_pos h];exact .inr ⟨by decide,by decide,by omega⟩
  clear hI hB hr1 hr2 hI1 hB1 hB5 hpp hkk hsub g1 g2 one
  have hc3:=HI0.out.c3
  have hc4:=HI0.out.c4
  have hc5:=HI0.out.c5
  have hf4:=HI0.out.f4
  have hf5:=HI0.out.f5
  have HLL:Hid (∀ W,Below w.heap.size w W→Laid W):=fun W hW=>HL.out.below hW
  by_cases hp2:p=2
  ·subst hp2
   have hH:LN.hiL (lf n) 2=lf n 2:=by unfold LN.hiL;rw[if_pos rfl]
   rw[hH] at Hm2 e1 e2 t2
   clear hH
   rcases hw2 with⟨hs,hk⟩|⟨hs1,hs2,hk⟩
   ·rw[if_pos hk] at e1 e2
    rw[hs] at Hsg
    clear hs
    have Ha1:Hid (∀ W,Below w.heap.size w W→Gives Tryz.prog 20 #[.string (itx (LN.eLo (lf n) (pre.map Subtype.val))),.string (itx ((lf n 2:Int)*k))] W (.string (itx ((LN.eLo (lf n) (pre.map Subtype.val))+(lf n 2:Int)*k)))):=fun W hW=>addZ W _ _ F hF s1 t2 (HLL.out W hW)
    have Ha2:Hid (∀ W,Below w.heap.size w W→Gives Tryz.prog 20 #[.string (itx (LN.eHi (lf n) (pre.map Subtype.val))),.string (itx ((lf n 2:Int)*k))] W (.string (itx ((LN.eHi (lf n) (pre.map Subtype.val))+(lf n 2:Int)*k)))):=fun W hW=>addZ W _ _ F hF s2 t1 (HLL.out W hW)
    rw[← e1] at Ha1
    rw[← e2] at Ha2
    clear e1 e2 s1 s2 t1 t2 HLL hlen hpl hF
    obtain⟨slo2,hq1⟩:∃ s,itx (LN.eLo (lf n) ((pre++[(⟨(2,k),hmem⟩:{x // x∈tl})]).map Subtype.val))=s:=⟨_,rfl⟩
    obtain⟨shi2,hq2⟩:∃ s,itx (LN.eHi (lf n) ((pre++[(⟨(2,k),hmem⟩:{x // x∈tl})]).map Subtype.val))=s:=⟨_,rfl⟩
    rw[hq1] at Ha1
    rw[hq2] at Ha2
    have Hf1:=hd_ hq1
    have Hf2:=hd_ hq2
    clear hq1 hq2
    generalize itx (LN.eLo (lf n) (pre.map Subtype.val))=slo at *
    generalize itx (LN.eHi (lf n) (pre.map Subtype.val))=shi at *
    generalize itx k=sk at *
    generalize itx ((lf n 2:Int)*k)=sa at *
    generalize dec (lf n 2)=sL at *
    clear Had
    gi_wp2_with fail
    refine⟨trivial,?_⟩
    refine(CallsIn.inRound l (callsIn_wide.2 (Hlog.out W0 HB0.out))).mono ?_
    rintro e W1 ⟨rfl,hb⟩
    have HI1:=hd_ (HI0.out.below hb)
    have HB1:=hd_ (HB0.out.trans (hb.mono HB0.out.size))
    have Hk1:=hd_ (Hk0.out.trans (hb.mono Hk0.out.size))
    clear hb hc3 hc4 hc5 hf4 hf5 Hlog HI0 HB0 Hk0
    have hc3:=HI1.out.c3
    have hc4:=HI1.out.c4
    have hc5:=HI1.out.c5
    have hf4:=HI1.out.f4
    have hf5:=HI1.out.f5
    gi_wp2_with fail
    refine⟨trivial,?_⟩
    refine(CallsIn.inRound l (callsIn_wide.2 (Hm1.out W1 HB1.out))).mono ?_
    rintro e W2 ⟨rfl,hb⟩
    have HI2:=hd_ (HI1.out.below hb)
    have HB2:=hd_ (HB1.out.trans (hb.mono HB1.out.size))
    have Hk2:=hd_ (Hk1.out.trans (hb.mono Hk1.out.size))
    clear hb hc3 hc4 hc5 hf4 hf5 Hm1 HI1 HB1 Hk1
    have hc3:=HI2.out.c3
    have hc4:=HI2.out.c4
    have hc5:=HI2.out.c5
    have hf4:=HI2.out.f4
    have hf5:=HI2.out.f5
    gi_wp2_with fail
    refine⟨trivial,?_⟩
    refine(CallsIn.inRound l (callsIn_wide.2 (Hm2.out W2 HB2.out))).mono ?_
    rintro e W3 ⟨rfl,hb⟩
    have HI3:=hd_ (HI2.out.below hb)
    have HB3:=hd_ (HB2.out.trans (hb.mono HB2.out.size))
    have Hk3:=hd_ (Hk2.out.trans (hb.mono Hk2.out.size))
    clear hb hc3 hc4 hc5 hf4 hf5 Hm2 HI2 HB2 Hk2
    have hc3:=HI3.out.c3
    have hc4:=HI3.out.c4
    have hc5:=HI3.out.c5
    have hf4:=HI3.out.f4
    have hf5:=HI3.out.f5
    gi_wp2_with fail
    refine⟨trivial,?_⟩
    refine(CallsIn.inRound l (callsIn_wide.2 (Hsg.out W3 HB3.out))).mono ?_
    rintro e W4 ⟨rfl,hb⟩
    have HI4:=hd_ (HI3.out.below hb)
    have HB4:=hd_ (HB3.out.trans (hb.mono HB3.out.size))
    have Hk4:=hd_ (Hk3.out.trans (hb.mono Hk3.out.size))
    clear hb hc3 hc4 hc5 hf4 hf5 Hsg HI3 HB3 Hk3
    have hc3:=HI4.out.c3
    have hc4:=HI4.out.c4
    have hc5:=HI4.out.c5
    have hf4:=HI4.out.f4
    have hf5:=HI4.out.f5
    gi_wp2_with fail
    have q0:=@CellW.h
    have q9:Nonempty (CellW ⟨w.heap.size+1+1,0,none⟩ (.string slo)):=⟨⟨W4,HI4.out.c4⟩⟩
    have q8:Nonempty (CellW ⟨w.heap.size+1+1+1,0,none⟩ (.string shi)):=⟨⟨W4,HI4.out.c5⟩⟩
    refine wpIn_region_readers2 [(8,0),(1,1),(9,3),(1,4),(0,2),(0,5),(0,6),(0,7)]
     [(6,fun w'=>∃ p:CellW ⟨w.heap.size+1+1,0,none⟩ (.string slo),w'=p.w),(7,fun w'=>∃ p:CellW ⟨w.heap.size+1+1+1,0,none⟩ (.string shi),w'=p.w)]
     (by kernel_rfl) (by kernel_rfl) ⟨.inr ⟨⟨{ W4 with drawn:=W4.drawn+1 },HI4.out.c4⟩,rfl⟩,.inr ⟨⟨{ W4 with drawn:=W4.drawn+1 },HI4.out.c5⟩,rfl⟩,trivial⟩ ?_
    refine walkR2_read (s:=6) _ (List.mem_cons_self ..) rfl ?_
    simp only[dz_,tsc_,tz_]
    go_big_quiet_step (fail)
    refine wpQuiet_nil ?_
    refine walkR2_any ?_
    simp only[dsc_,dz_,tsc_,tz_]
    go_big_quiet_step (fail)
    refine wpQuiet_nil ?_
    refine walkR2_read (s:=7) _ (List.mem_cons_of_mem _ (List.mem_cons_self ..)) rfl ?_
    simp only[dsc_,dz_,tsc_,tz_]
    go_big_quiet_step (fail)
    refine wpQuiet_nil ?_
    refine walkR2_any ?_
    simp only[dsc_,dz_,tsc_,tz_]
    go_big_quiet_step (fail)
    refine wpQuiet_nil ?_
    clear q0 q8 q9 hc3 hc4 hc5 hf4 hf5
    obtain⟨V0,hV0⟩:∃ V0:World,{ heap:=W4.heap,tape:=W4.tape,drawn:=W4.drawn+1,os:=W4.os,output:=W4.output }=V0:=⟨_,rfl⟩
    rw[hV0]
    have hdr:Below W4.heap.size W4 V0:=by rw[← hV0];exact⟨rfl,rfl,rfl,Nat.le_refl _,fun _ _=>rfl⟩
    have HJ0:=hd_ (HI4.out.below hdr)
    have HC0:=hd_ (HB4.out.trans (hdr.mono HB4.out.size))
    have Hl0:=hd_ (Hk4.out.trans (hdr.mono Hk4.out.size))
    clear hV0 hdr HI4 HB4 Hk4
    refine walkR2_move ?_
    simp only[dsc_,dz_,tsc_,tz_]
    go_wp2_with fail
    refine cm_ (Ha1.out V0 HC0.out) ?_
    rintro e V1 ⟨rfl,hb⟩
    have HJ1:=hd_ (HJ0.out.below hb)
    have HC1:=hd_ (HC0.out.trans (hb.mono HC0.out.size))
    have Hl1:=hd_ (Hl0.out.trans (hb.mono Hl0.out.size))
    clear hb HJ0 HC0 Hl0 Ha1
    go_wp2_with fail
    refine⟨⟨.inr ⟨⟨V1,HJ1.out.c4⟩,rfl⟩,.inr ⟨⟨V1,HJ1.out.c5⟩,rfl⟩,trivial⟩,?_⟩
    refine walkR2_move ?_
    simp only[dsc_,dz_,tsc_,tz_]
    go_wp2_with fail
    refine cm_ (Ha2.out V1 HC1.out) ?_
    rintro e V2 ⟨rfl,hb⟩
    have HJ2:=hd_ (HJ1.out.below hb)
    have HC2:=hd_ (HC1.out.trans (hb.mono HC1.out.size))
    have Hl2:=hd_ (Hl1.out.trans (hb.mono Hl1.out.size))
    clear hb HJ1 HC1 Hl1 Ha2
    go_wp2_with fail
    refine⟨⟨.inr ⟨⟨V2,HJ2.out.c4⟩,rfl⟩,.inr ⟨⟨V2,HJ2.out.c5⟩,rfl⟩,trivial⟩,?_⟩
    have hc4:=HJ2.out.c4
    have hc5:=HJ2.out.c5
    have hf4:=HJ2.out.f4
    have hf5:=HJ2.out.f5
    refine walkR2_move ?_
    simp only[dsc_,dz_,tsc_,tz_]
    go_wp2_with fail
    have hc52:(V2.setCell ⟨w.heap.size+1+1,0,none⟩ (.string slo2)).cell? ⟨w.heap.size+1+1+1,0,none⟩=some (.string shi):=by
     rw[World.cell?_setCell_other _ _ _ _ (by simp)];exact HJ2.out.c5
    have hf52:(V2.setCell ⟨w.heap.size+1+1,0,none⟩ (.string slo2)).frozen? ⟨w.heap.size+1+1+1,0,none⟩=false:=by rw[World.frozen?_setCell];exact HJ2.out.f5
    refine⟨⟨.inl rfl,.inr ⟨⟨V2.setCell ⟨w.heap.size+1+1,0,none⟩ (.string slo2),hc52⟩,rfl⟩,trivial⟩,?_⟩
    clear hc4 hc5 hf4 hf5
    refine walkR2_move ?_
    simp only[dsc_,dz_,tsc_,tz_]
    go_wp2_with fail
    refine⟨⟨.inl rfl,.inl rfl,trivial⟩,?_⟩
    simp only[walkR2]
    exact⟨(keeps_of_below Hl2.out).trans ((KeepsOthers.setCell _ _ _).trans (KeepsOthers.setCell _ _ _)),ends_kt rfl HB.out HI.out.sz Hl2.out _ _,(HJ2.out.stored _ _).cast Hf1.out Hf2.out,near_below HC2.out _ _⟩
   ·rw[if_neg hk] at e1 e2
    have hs':¬ k.sign<0:=by omega
    have Ha1:Hid (∀ W,Below w.heap.size w W→Gives Tryz.prog 20 #[.string (itx (LN.eLo (lf n) (pre.map Subtype.val))),.string (itx ((lf n 2:Int)*k))] W (.string (itx ((LN.eLo (lf n) (pre.map Subtype.val))+(lf n 2:Int)*k)))):=fun W hW=>addZ W _ _ F hF s1 t1 (HLL.out W hW)
    have Ha2:Hid (∀ W,Below w.heap.size w W→Gives Tryz.prog 20 #[.string (itx (LN.eHi (lf n) (pre.map Subtype.val))),.string (itx ((lf n 2:Int)*k))] W (.string (itx ((LN.eHi (lf n) (pre.map Subtype.val))+(lf n 2:Int)*k)))):=fun W hW=>addZ W _ _ F hF s2 t2 (HLL.out W hW)
    generalize k.sign=sg at *
    rw[← e1] at Ha1
    rw[← e2] at Ha2
    clear e1 e2 s1 s2 t1 t2 HLL hlen hpl hF
    obtain⟨slo2,hq1⟩:∃ s,itx (LN.eLo (lf n) ((pre++[(⟨(2,k),hmem⟩:{x // x∈tl})]).map Subtype.val))=s:=⟨_,rfl⟩
    obtain⟨shi2,hq2⟩:∃ s,itx (LN.eHi (lf n) ((pre++[(⟨(2,k),hmem⟩:{x // x∈tl})]).map Subtype.val))=s:=⟨_,rfl⟩
    rw[hq1] at Ha1
    rw[hq2] at Ha2
    have Hf1:=hd_ hq1
    have Hf2:=hd_ hq2
    clear hq1 hq2
    generalize itx (LN.eLo (lf n) (pre.map Subtype.val))=slo at *
    generalize itx (LN.eHi (lf n) (pre.map Subtype.val))=shi at *
    generalize itx k=sk at *
    generalize itx ((lf n 2:Int)*k)=sa at *
    generalize dec (lf n 2)=sL at *
    clear Had
    gi_wp2_with fail
    refine⟨trivial,?_⟩
    refine(CallsIn.inRound l (callsIn_wide.2 (Hlog.out W0 HB0.out))).mono ?_
    rintro e W1 ⟨rfl,hb⟩
    have HI1:=hd_ (HI0.out.below hb)
    have HB1:=hd_ (HB0.out.trans (hb.mono HB0.out.size))
    have Hk1:=hd_ (Hk0.out.trans (hb.mono Hk0.out.size))
    clear hb hc3 hc4 hc5 hf4 hf5 Hlog HI0 HB0 Hk0
    have hc3:=HI1.out.c3
    have hc4:=HI1.out.c4
    have hc5:=HI1.out.c5
    have hf4:=HI1.out.f4
    have hf5:=HI1.out.f5
    gi_wp2_with fail
    refine⟨trivial,?_⟩
    refine(CallsIn.inRound l (callsIn_wide.2 (Hm1.out W1 HB1.out))).mono ?_
    rintro e W2 ⟨rfl,hb⟩
    have HI2:=hd_ (HI1.out.below hb)
    have HB2:=hd_ (HB1.out.trans (hb.mono HB1.out.size))
    have Hk2:=hd_ (Hk1.out.trans (hb.mono Hk1.out.size))
    clear hb hc3 hc4 hc5 hf4 hf5 Hm1 HI1 HB1 Hk1
    have hc3:=HI2.out.c3
    have hc4:=HI2.out.c4
    have hc5:=HI2.out.c5
    have hf4:=HI2.out.f4
    have hf5:=HI2.out.f5
    gi_wp2_with fail
    refine⟨trivial,?_⟩
    refine(CallsIn.inRound l (callsIn_wide.2 (Hm2.out W2 HB2.out))).mono ?_
    rintro e W3 ⟨rfl,hb⟩
    have HI3:=hd_ (HI2.out.below hb)
    have HB3:=hd_ (HB2.out.trans (hb.mono HB2.out.size))
    have Hk3:=hd_ (Hk2.out.trans (hb.mono Hk2.out.size))
    clear hb hc3 hc4 hc5 hf4 hf5 Hm2 HI2 HB2 Hk2
    have hc3:=HI3.out.c3
    have hc4:=HI3.out.c4
    have hc5:=HI3.out.c5
    have hf4:=HI3.out.f4
    have hf5:=HI3.out.f5
    gi_wp2_with fail
    refine⟨trivial,?_⟩
    refine(CallsIn.inRound l (callsIn_wide.2 (Hsg.out W3 HB3.out))).mono ?_
    rintro e W4 ⟨rfl,hb⟩
    have HI4:=hd_ (HI3.out.below hb)
    have HB4:=hd_ (HB3.out.trans (hb.mono HB3.out.size))
    have Hk4:=hd_ (Hk3.out.trans (hb.mono Hk3.out.size))
    clear hb hc3 hc4 hc5 hf4 hf5 Hsg HI3 HB3 Hk3
    have hc3:=HI4.out.c3
    have hc4:=HI4.out.c4
    have hc5:=HI4.out.c5
    have hf4:=HI4.out.f4
    have hf5:=HI4.out.f5
    gi_wp2_with fail
    have q0:=@CellW.h
    have q9:Nonempty (CellW ⟨w.heap.size+1+1,0,none⟩ (.string slo)):=⟨⟨W4,HI4.out.c4⟩⟩
    have q8:Nonempty (CellW ⟨w.heap.size+1+1+1,0,none⟩ (.string shi)):=⟨⟨W4,HI4.out.c5⟩⟩
    refine wpIn_region_readers2 [(8,0),(1,1),(9,3),(1,4),(0,2),(0,5),(0,6),(0,7)]
     [(6,fun w'=>∃ p:CellW ⟨w.heap.size+1+1,0,none⟩ (.string slo),w'=p.w),(7,fun w'=>∃ p:CellW ⟨w.heap.size+1+1+1,0,none⟩ (.string shi),w'=p.w)]
     (by kernel_rfl) (by kernel_rfl) ⟨.inr ⟨⟨{ W4 with drawn:=W4.drawn+1 },HI4.out.c4⟩,rfl⟩,.inr ⟨⟨{ W4 with drawn:=W4.drawn+1 },HI4.out.c5⟩,rfl⟩,trivial⟩ ?_
    refine walkR2_read (s:=6) _ (List.mem_cons_self ..) rfl ?_
    simp only[dz_,tsc_,tz_]
    go_big_quiet_step (fail)
    refine wpQuiet_nil ?_
    refine walkR2_any ?_
    simp only[dsc_,dz_,tsc_,tz_]
    go_big_quiet_step (fail)
    refine wpQuiet_nil ?_
    refine walkR2_read (s:=7) _ (List.mem_cons_of_mem _ (List.mem_cons_self ..)) rfl ?_
    simp only[dsc_,dz_,tsc_,tz_]
    go_big_quiet_step (fail)
    refine wpQuiet_nil ?_
    refine walkR2_any ?_
    simp only[dsc_,dz_,tsc_,tz_]
    go_big_quiet_step (fail)
    refine wpQuiet_nil ?_
    clear q0 q8 q9 hc3 hc4 hc5 hf4 hf5
    obtain⟨V0,hV0⟩:∃ V0:World,{ heap:=W4.heap,tape:=W4.tape,drawn:=W4.drawn+1,os:=W4.os,output:=W4.output }=V0:=⟨_,rfl⟩
    rw[hV0]
    have hdr:Below W4.heap.size W4 V0:=by rw[← hV0];exact⟨rfl,rfl,rfl,Nat.le_refl _,fun _ _=>rfl⟩
    have HJ0:=hd_ (HI4.out.below hdr)
    have HC0:=hd_ (HB4.out.trans (hdr.mono HB4.out.size))
    have Hl0:=hd_ (Hk4.out.trans (hdr.mono Hk4.out.size))
    clear hV0 hdr HI4 HB4 Hk4
    refine walkR2_move ?_
    simp only[dsc_,dz_,tsc_,tz_]
    go_wp2_with fail
    refine cm_ (Ha1.out V0 HC0.out) ?_
    rintro e V1 ⟨rfl,hb⟩
    have HJ1:=hd_ (HJ0.out.below hb)
    have HC1:=hd_ (HC0.out.trans (hb.mono HC0.out.size))
    have Hl1:=hd_ (Hl0.out.trans (hb.mono Hl0.out.size))
    clear hb HJ0 HC0 Hl0 Ha1
    go_wp2_with fail
    refine⟨⟨.inr ⟨⟨V1,HJ1.out.c4⟩,rfl⟩,.inr ⟨⟨V1,HJ1.out.c5⟩,rfl⟩,trivial⟩,?_⟩
    refine walkR2_move ?_
    simp only[dsc_,dz_,tsc_,tz_]
    go_wp2_with fail
    refine cm_ (Ha2.out V1 HC1.out) ?_
    rintro e V2 ⟨rfl,hb⟩
    have HJ2:=hd_ (HJ1.out.below hb)
    have HC2:=hd_ (HC1.out.trans (hb.mono HC1.out.size))
    have Hl2:=hd_ (Hl1.out.trans (hb.mono Hl1.out.size))
    clear hb HJ1 HC1 Hl1 Ha2
    go_wp2_with fail
    refine⟨⟨.inr ⟨⟨V2,HJ2.out.c4⟩,rfl⟩,.inr ⟨⟨V2,HJ2.out.c5⟩,rfl⟩,trivial⟩,?_⟩
    have hc4:=HJ2.out.c4
    have hc5:=HJ2.out.c5
    have hf4:=HJ2.out.f4
    have hf5:=HJ2.out.f5
    refine walkR2_move ?_
    simp only[dsc_,dz_,tsc_,tz_]
    go_wp2_with fail
    have hc52:(V2.setCell ⟨w.heap.size+1+1,0,none⟩ (.string slo2)).cell? ⟨w.heap.size+1+1+1,0,none⟩=some (.string shi):=by
     rw[World.cell?_setCell_other _ _ _ _ (by simp)];exact HJ2.out.c5
    have hf52:(V2.setCell ⟨w.heap.size+1+1,0,none⟩ (.string slo2)).frozen? ⟨w.heap.size+1+1+1,0,none⟩=false:=by rw[World.frozen?_setCell];exact HJ2.out.f5
    refine⟨⟨.inl rfl,.inr ⟨⟨V2.setCell ⟨w.heap.size+1+1,0,none⟩ (.string slo2),hc52⟩,rfl⟩,trivial⟩,?_⟩
    clear hc4 hc5 hf4 hf5
    refine walkR2_move ?_
    simp only[dsc_,dz_,tsc_,tz_]
    go_wp2_with fail
    refine⟨⟨.inl rfl,.inl rfl,trivial⟩,?_⟩
    simp only[walkR2]
    exact⟨(keeps_of_below Hl2.out).trans ((KeepsOthers.setCell _ _ _).trans (KeepsOthers.setCell _ _ _)),ends_kt rfl HB.out HI.out.sz Hl2.out _ _,(HJ2.out.stored _ _).cast Hf1.out Hf2.out,near_below HC2.out _ _⟩
  ·have hH:LN.hiL (lf n) p=lf n p+1:=by unfold LN.hiL;rw[if_neg hp2]
   rw[hH] at Hm2 e1 e2 t2
   have hp2':(p==2)=false:=by rw[beq_eq_false_iff_ne];exact hp2
   clear hH
   rcases hw2 with⟨hs,hk⟩|⟨hs1,hs2,hk⟩
   ·rw[if_pos hk] at e1 e2
    rw[hs] at Hsg
    clear hs
    have Ha1:Hid (∀ W,Below w.heap.size w W→Gives Tryz.prog 20 #[.string (itx (LN.eLo (lf n) (pre.map Subtype.val))),.string (itx (((lf n p+1:Nat):Int)*k))] W (.string (itx ((LN.eLo (lf n) (pre.map Subtype.val))+((lf n p+1:Nat):Int)*k)))):=fun W hW=>addZ W _ _ F hF s1 t2 (HLL.out W hW)
    have Ha2:Hid (∀ W,Below w.heap.size w W→Gives Tryz.prog 20 #[.string (itx (LN.eHi (lf n) (pre.map Subtype.val))),.string (itx ((lf n p:Int)*k))] W (.string (itx ((LN.eHi (lf n) (pre.map Subtype.val))+(lf n p:Int)*k)))):=fun W hW=>addZ W _ _ F hF s2 t1 (HLL.out W hW)
    rw[← e1] at Ha1
    rw[← e2] at Ha2
    clear e1 e2 s1 s2 t1 t2 HLL hlen hpl hF
    obtain⟨slo2,hq1⟩:∃ s,itx (LN.eLo (lf n) ((pre++[(⟨(p,k),hmem⟩:{x // x∈tl})]).map Subtype.val))=s:=⟨_,rfl⟩
    obtain⟨shi2,hq2⟩:∃ s,itx (LN.eHi (lf n) ((pre++[(⟨(p,k),hmem⟩:{x // x∈tl})]).map Subtype.val))=s:=⟨_,rfl⟩
    rw[hq1] at Ha1
    rw[hq2] at Ha2
    have Hf1:=hd_ hq1
    have Hf2:=hd_ hq2
    clear hq1 hq2
    generalize itx (LN.eLo (lf n) (pre.map Subtype.val))=slo at *
    generalize itx (LN.eHi (lf n) (pre.map Subtype.val))=shi at *
    generalize itx k=sk at *
    generalize itx ((lf n p:Int)*k)=sa at *
    generalize itx (((lf n p+1:Nat):Int)*k)=sb at *
    generalize dec (lf n p+1)=sH at *
    generalize dec (lf n p)=sL at *
    gi_wp2_with fail
    refine⟨trivial,?_⟩
    refine(CallsIn.inRound l (callsIn_wide.2 (Hlog.out W0 HB0.out))).mono ?_
    rintro e W1 ⟨rfl,hb⟩
    have HI1:=hd_ (HI0.out.below hb)
    have HB1:=hd_ (HB0.out.trans (hb.mono HB0.out.size))
    have Hk1:=hd_ (Hk0.out.trans (hb.mono Hk0.out.size))
    clear hb hc3 hc4 hc5 hf4 hf5 Hlog HI0 HB0 Hk0
    have hc3:=HI1.out.c3
    have hc4:=HI1.out.c4
    have hc5:=HI1.out.c5
    have hf4:=HI1.out.f4
    have hf5:=HI1.out.f5
    gi_wp2_with fail
    refine⟨trivial,?_⟩
    refine(CallsIn.inRound l (callsIn_wide.2 (Had.out W1 HB1.out))).mono ?_
    rintro e W2 ⟨rfl,hb⟩
    have HI2:=hd_ (HI1.out.below hb)
    have HB2:=hd_ (HB1.out.trans (hb.mono HB1.out.size))
    have Hk2:=hd_ (Hk1.out.trans (hb.mono Hk1.out.size))
    clear hb hc3 hc4 hc5 hf4 hf5 Had HI1 HB1 Hk1
    have hc3:=HI2.out.c3
    have hc4:=HI2.out.c4
    have hc5:=HI2.out.c5
    have hf4:=HI2.out.f4
    have hf5:=HI2.out.f5
    gi_wp2_with fail
    refine⟨trivial,?_⟩
    refine(CallsIn.inRound l (callsIn_wide.2 (Hm1.out W2 HB2.out))).mono ?_
    rintro e W3 ⟨rfl,hb⟩
    have HI3:=hd_ (HI2.out.below hb)
    have HB3:=hd_ (HB2.out.trans (hb.mono HB2.out.size))
    have Hk3:=hd_ (Hk2.out.trans (hb.mono Hk2.out.size))
    clear hb hc3 hc4 hc5 hf4 hf5 Hm1 HI2 HB2 Hk2
    have hc3:=HI3.out.c3
    have hc4:=HI3.out.c4
    have hc5:=HI3.out.c5
    have hf4:=HI3.out.f4
    have hf5:=HI3.out.f5
    gi_wp2_with fail
    refine⟨trivial,?_⟩
    refine(CallsIn.inRound l (callsIn_wide.2 (Hm2.out W3 HB3.out))).mono ?_
    rintro e W4 ⟨rfl,hb⟩
    have HI4:=hd_ (HI3.out.below hb)
    have HB4:=hd_ (HB3.out.trans (hb.mono HB3.out.size))
    have Hk4:=hd_ (Hk3.out.trans (hb.mono Hk3.out.size))
    clear hb hc3 hc4 hc5 hf4 hf5 Hm2 HI3 HB3 Hk3
    have hc3:=HI4.out.c3
    have hc4:=HI4.out.c4
    have hc5:=HI4.out.c5
    have hf4:=HI4.out.f4
    have hf5:=HI4.out.f5
    gi_wp2_with fail
    refine⟨trivial,?_⟩
    refine(CallsIn.inRound l (callsIn_wide.2 (Hsg.out W4 HB4.out))).mono ?_
    rintro e W5 ⟨rfl,hb⟩
    have HI5:=hd_ (HI4.out.below hb)
    have HB5:=hd_ (HB4.out.trans (hb.mono HB4.out.size))
    have Hk5:=hd_ (Hk4.out.trans (hb.mono Hk4.out.size))
    clear hb hc3 hc4 hc5 hf4 hf5 Hsg HI4 HB4 Hk4
    have hc3:=HI5.out.c3
    have hc4:=HI5.out.c4
    have hc5:=HI5.out.c5
    have hf4:=HI5.out.f4
    have hf5:=HI5.out.f5
    gi_wp2_with fail
    have q0:=@CellW.h
    have q9:Nonempty (CellW ⟨w.heap.size+1+1,0,none⟩ (.string slo)):=⟨⟨W5,HI5.out.c4⟩⟩
    have q8:Nonempty (CellW ⟨w.heap.size+1+1+1,0,none⟩ (.string shi)):=⟨⟨W5,HI5.out.c5⟩⟩
    refine wpIn_region_readers2 [(8,0),(1,1),(9,3),(1,4),(0,2),(0,5),(0,6),(0,7)]
     [(6,fun w'=>∃ p:CellW ⟨w.heap.size+1+1,0,none⟩ (.string slo),w'=p.w),(7,fun w'=>∃ p:CellW ⟨w.heap.size+1+1+1,0,none⟩ (.string shi),w'=p.w)]
     (by kernel_rfl) (by kernel_rfl) ⟨.inr ⟨⟨{ W5 with drawn:=W5.drawn+1 },HI5.out.c4⟩,rfl⟩,.inr ⟨⟨{ W5 with drawn:=W5.drawn+1 },HI5.out.c5⟩,rfl⟩,trivial⟩ ?_
    refine walkR2_read (s:=6) _ (List.mem_cons_self ..) rfl ?_
    simp only[dz_,tsc_,tz_]
    go_big_quiet_step (fail)
    refine wpQuiet_nil ?_
    refine walkR2_any ?_
    simp only[dsc_,dz_,tsc_,tz_]
    go_big_quiet_step (fail)
    refine wpQuiet_nil ?_
    refine walkR2_read (s:=7) _ (List.mem_cons_of_mem _ (List.mem_cons_self ..)) rfl ?_
    simp only[dsc_,dz_,tsc_,tz_]
    go_big_quiet_step (fail)
    refine wpQuiet_nil ?_
    refine walkR2_any ?_
    simp only[dsc_,dz_,tsc_,tz_]
    go_big_quiet_step (fail)
    refine wpQuiet_nil ?_
    clear q0 q8 q9 hc3 hc4 hc5 hf4 hf5
    obtain⟨V0,hV0⟩:∃ V0:World,{ heap:=W5.heap,tape:=W5.tape,drawn:=W5.drawn+1,os:=W5.os,output:=W5.output }=V0:=⟨_,rfl⟩
    rw[hV0]
    have hdr:Below W5.heap.size W5 V0:=by rw[← hV0];exact⟨rfl,rfl,rfl,Nat.le_refl _,fun _ _=>rfl⟩
    have HJ0:=hd_ (HI5.out.below hdr)
    have HC0:=hd_ (HB5.out.trans (hdr.mono HB5.out.size))
    have Hl0:=hd_ (Hk5.out.trans (hdr.mono Hk5.out.size))
    clear hV0 hdr HI5 HB5 Hk5
    refine walkR2_move ?_
    simp only[dsc_,dz_,tsc_,tz_]
    go_wp2_with fail
    refine cm_ (Ha1.out V0 HC0.out) ?_
    rintro e V1 ⟨rfl,hb⟩
    have HJ1:=hd_ (HJ0.out.below hb)
    have HC1:=hd_ (HC0.out.trans (hb.mono HC0.out.size))
    have Hl1:=hd_ (Hl0.out.trans (hb.mono Hl0.out.size))
    clear hb HJ0 HC0 Hl0 Ha1
    go_wp2_with fail
    refine⟨⟨.inr ⟨⟨V1,HJ1.out.c4⟩,rfl⟩,.inr ⟨⟨V1,HJ1.out.c5⟩,rfl⟩,trivial⟩,?_⟩
    refine walkR2_move ?_
    simp only[dsc_,dz_,tsc_,tz_]
    go_wp2_with fail
    refine cm_ (Ha2.out V1 HC1.out) ?_
    rintro e V2 ⟨rfl,hb⟩
    have HJ2:=hd_ (HJ1.out.below hb)
    have HC2:=hd_ (HC1.out.trans (hb.mono HC1.out.size))
    have Hl2:=hd_ (Hl1.out.trans (hb.mono Hl1.out.size))
    clear hb HJ1 HC1 Hl1 Ha2
    go_wp2_with fail
    refine⟨⟨.inr ⟨⟨V2,HJ2.out.c4⟩,rfl⟩,.inr ⟨⟨V2,HJ2.out.c5⟩,rfl⟩,trivial⟩,?_⟩
    have hc4:=HJ2.out.c4
    have hc5:=HJ2.out.c5
    have hf4:=HJ2.out.f4
    have hf5:=HJ2.out.f5
    refine walkR2_move ?_
    simp only[dsc_,dz_,tsc_,tz_]
    go_wp2_with fail
    have hc52:(V2.setCell ⟨w.heap.size+1+1,0,none⟩ (.string slo2)).cell? ⟨w.heap.size+1+1+1,0,none⟩=some (.string shi):=by
     rw[World.cell?_setCell_other _ _ _ _ (by simp)];exact HJ2.out.c5
    have hf52:(V2.setCell ⟨w.heap.size+1+1,0,none⟩ (.string slo2)).frozen? ⟨w.heap.size+1+1+1,0,none⟩=false:=by rw[World.frozen?_setCell];exact HJ2.out.f5
    refine⟨⟨.inl rfl,.inr ⟨⟨V2.setCell ⟨w.heap.size+1+1,0,none⟩ (.string slo2),hc52⟩,rfl⟩,trivial⟩,?_⟩
    clear hc4 hc5 hf4 hf5
    refine walkR2_move ?_
    simp only[dsc_,dz_,tsc_,tz_]
    go_wp2_with fail
    refine⟨⟨.inl rfl,.inl rfl,trivial⟩,?_⟩
    simp only[walkR2]
    exact⟨(keeps_of_below Hl2.out).trans ((KeepsOthers.setCell _ _ _).trans (KeepsOthers.setCell _ _ _)),ends_kt rfl HB.out HI.out.sz Hl2.out _ _,(HJ2.out.stored _ _).cast Hf1.out Hf2.out,near_below HC2.out _ _⟩
   ·rw[if_neg hk] at e1 e2
    have hs':¬ k.sign<0:=by omega
    have Ha1:Hid (∀ W,Below w.heap.size w W→Gives Tryz.prog 20 #[.string (itx (LN.eLo (lf n) (pre.map Subtype.val))),.string (itx ((lf n p:Int)*k))] W (.string (itx ((LN.eLo (lf n) (pre.map Subtype.val))+(lf n p:Int)*k)))):=fun W hW=>addZ W _ _ F hF s1 t1 (HLL.out W hW)
    have Ha2:Hid (∀ W,Below w.heap.size w W→Gives Tryz.prog 20 #[.string (itx (LN.eHi (lf n) (pre.map Subtype.val))),.string (itx (((lf n p+1:Nat):Int)*k))] W (.string (itx ((LN.eHi (lf n) (pre.map Subtype.val))+((lf n p+1:Nat):Int)*k)))):=fun W hW=>addZ W _ _ F hF s2 t2 (HLL.out W hW)
    generalize k.sign=sg at *
    rw[← e1] at Ha1
    rw[← e2] at Ha2
    clear e1 e2 s1 s2 t1 t2 HLL hlen hpl hF
    obtain⟨slo2,hq1⟩:∃ s,itx (LN.eLo (lf n) ((pre++[(⟨(p,k),hmem⟩:{x // x∈tl})]).map Subtype.val))=s:=⟨_,rfl⟩
    obtain⟨shi2,hq2⟩:∃ s,itx (LN.eHi (lf n) ((pre++[(⟨(p,k),hmem⟩:{x // x∈tl})]).map Subtype.val))=s:=⟨_,rfl⟩
    rw[hq1] at Ha1
    rw[hq2] at Ha2
    have Hf1:=hd_ hq1
    have Hf2:=hd_ hq2
    clear hq1 hq2
    generalize itx (LN.eLo (lf n) (pre.map Subtype.val))=slo at *
    generalize itx (LN.eHi (lf n) (pre.map Subtype.val))=shi at *
    generalize itx k=sk at *
    generalize itx ((lf n p:Int)*k)=sa at *
    generalize itx (((lf n p+1:Nat):Int)*k)=sb at *
    generalize dec (lf n p+1)=sH at *
    generalize dec (lf n p)=sL at *
    gi_wp2_with fail
    refine⟨trivial,?_⟩
    refine(CallsIn.inRound l (callsIn_wide.2 (Hlog.out W0 HB0.out))).mono ?_
    rintro e W1 ⟨rfl,hb⟩
    have HI1:=hd_ (HI0.out.below hb)
    have HB1:=hd_ (HB0.out.trans (hb.mono HB0.out.size))
    have Hk1:=hd_ (Hk0.out.trans (hb.mono Hk0.out.size))
    clear hb hc3 hc4 hc5 hf4 hf5 Hlog HI0 HB0 Hk0
    have hc3:=HI1.out.c3
    have hc4:=HI1.out.c4
    have hc5:=HI1.out.c5
    have hf4:=HI1.out.f4
    have hf5:=HI1.out.f5
    gi_wp2_with fail
    refine⟨trivial,?_⟩
    refine(CallsIn.inRound l (callsIn_wide.2 (Had.out W1 HB1.out))).mono ?_
    rintro e W2 ⟨rfl,hb⟩
    have HI2:=hd_ (HI1.out.below hb)
    have HB2:=hd_ (HB1.out.trans (hb.mono HB1.out.size))
    have Hk2:=hd_ (Hk1.out.trans (hb.mono Hk1.out.size))
    clear hb hc3 hc4 hc5 hf4 hf5 Had HI1 HB1 Hk1
    have hc3:=HI2.out.c3
    have hc4:=HI2.out.c4
    have hc5:=HI2.out.c5
    have hf4:=HI2.out.f4
    have hf5:=HI2.out.f5
    gi_wp2_with fail
    refine⟨trivial,?_⟩
    refine(CallsIn.inRound l (callsIn_wide.2 (Hm1.out W2 HB2.out))).mono ?_
    rintro e W3 ⟨rfl,hb⟩
    have HI3:=hd_ (HI2.out.below hb)
    have HB3:=hd_ (HB2.out.trans (hb.mono HB2.out.size))
    have Hk3:=hd_ (Hk2.out.trans (hb.mono Hk2.out.size))
    clear hb hc3 hc4 hc5 hf4 hf5 Hm1 HI2 HB2 Hk2
    have hc3:=HI3.out.c3
    have hc4:=HI3.out.c4
    have hc5:=HI3.out.c5
    have hf4:=HI3.out.f4
    have hf5:=HI3.out.f5
    gi_wp2_with fail
    refine⟨trivial,?_⟩
    refine(CallsIn.inRound l (callsIn_wide.2 (Hm2.out W3 HB3.out))).mono ?_
    rintro e W4 ⟨rfl,hb⟩
    have HI4:=hd_ (HI3.out.below hb)
    have HB4:=hd_ (HB3.out.trans (hb.mono HB3.out.size))
    have Hk4:=hd_ (Hk3.out.trans (hb.mono Hk3.out.size))
    clear hb hc3 hc4 hc5 hf4 hf5 Hm2 HI3 HB3 Hk3
    have hc3:=HI4.out.c3
    have hc4:=HI4.out.c4
    have hc5:=HI4.out.c5
    have hf4:=HI4.out.f4
    have hf5:=HI4.out.f5
    gi_wp2_with fail
    refine⟨trivial,?_⟩
    refine(CallsIn.inRound l (callsIn_wide.2 (Hsg.out W4 HB4.out))).mono ?_
    rintro e W5 ⟨rfl,hb⟩
    have HI5:=hd_ (HI4.out.below hb)
    have HB5:=hd_ (HB4.out.trans (hb.mono HB4.out.size))
    have Hk5:=hd_ (Hk4.out.trans (hb.mono Hk4.out.size))
    clear hb hc3 hc4 hc5 hf4 hf5 Hsg HI4 HB4 Hk4
    have hc3:=HI5.out.c3
    have hc4:=HI5.out.c4
    have hc5:=HI5.out.c5
    have hf4:=HI5.out.f4
    have hf5:=HI5.out.f5
    gi_wp2_with fail
    have q0:=@CellW.h
    have q9:Nonempty (CellW ⟨w.heap.size+1+1,0,none⟩ (.string slo)):=⟨⟨W5,HI5.out.c4⟩⟩
    have q8:Nonempty (CellW ⟨w.heap.size+1+1+1,0,none⟩ (.string shi)):=⟨⟨W5,HI5.out.c5⟩⟩
    refine wpIn_region_readers2 [(8,0),(1,1),(9,3),(1,4),(0,2),(0,5),(0,6),(0,7)]
     [(6,fun w'=>∃ p:CellW ⟨w.heap.size+1+1,0,none⟩ (.string slo),w'=p.w),(7,fun w'=>∃ p:CellW ⟨w.heap.size+1+1+1,0,none⟩ (.string shi),w'=p.w)]
     (by kernel_rfl) (by kernel_rfl) ⟨.inr ⟨⟨{ W5 with drawn:=W5.drawn+1 },HI5.out.c4⟩,rfl⟩,.inr ⟨⟨{ W5 with drawn:=W5.drawn+1 },HI5.out.c5⟩,rfl⟩,trivial⟩ ?_
    refine walkR2_read (s:=6) _ (List.mem_cons_self ..) rfl ?_
    simp only[dz_,tsc_,tz_]
    go_big_quiet_step (fail)
    refine wpQuiet_nil ?_
    refine walkR2_any ?_
    simp only[dsc_,dz_,tsc_,tz_]
    go_big_quiet_step (fail)
    refine wpQuiet_nil ?_
    refine walkR2_read (s:=7) _ (List.mem_cons_of_mem _ (List.mem_cons_self ..)) rfl ?_
    simp only[dsc_,dz_,tsc_,tz_]
    go_big_quiet_step (fail)
    refine wpQuiet_nil ?_
    refine walkR2_any ?_
    simp only[dsc_,dz_,tsc_,tz_]
    go_big_quiet_step (fail)
    refine wpQuiet_nil ?_
    clear q0 q8 q9 hc3 hc4 hc5 hf4 hf5
    obtain⟨V0,hV0⟩:∃ V0:World,{ heap:=W5.heap,tape:=W5.tape,drawn:=W5.drawn+1,os:=W5.os,output:=W5.output }=V0:=⟨_,rfl⟩
    rw[hV0]
    have hdr:Below W5.heap.size W5 V0:=by rw[← hV0];exact⟨rfl,rfl,rfl,Nat.le_refl _,fun _ _=>rfl⟩
    have HJ0:=hd_ (HI5.out.below hdr)
    have HC0:=hd_ (HB5.out.trans (hdr.mono HB5.out.size))
    have Hl0:=hd_ (Hk5.out.trans (hdr.mono Hk5.out.size))
    clear hV0 hdr HI5 HB5 Hk5
    refine walkR2_move ?_
    simp only[dsc_,dz_,tsc_,tz_]
    go_wp2_with fail
    refine cm_ (Ha1.out V0 HC0.out) ?_
    rintro e V1 ⟨rfl,hb⟩
    have HJ1:=hd_ (HJ0.out.below hb)
    have HC1:=hd_ (HC0.out.trans (hb.mono HC0.out.size))
    have Hl1:=hd_ (Hl0.out.trans (hb.mono Hl0.out.size))
    clear hb HJ0 HC0 Hl0 Ha1
    go_wp2_with fail
    refine⟨⟨.inr ⟨⟨V1,HJ1.out.c4⟩,rfl⟩,.inr ⟨⟨V1,HJ1.out.c5⟩,rfl⟩,trivial⟩,?_⟩
    refine walkR2_move ?_
    simp only[dsc_,dz_,tsc_,tz_]
    go_wp2_with fail
    refine cm_ (Ha2.out V1 HC1.out) ?_
    rintro e V2 ⟨rfl,hb⟩
    have HJ2:=hd_ (HJ1.out.below hb)
    have HC2:=hd_ (HC1.out.trans (hb.mono HC1.out.size))
    have Hl2:=hd_ (Hl1.out.trans (hb.mono Hl1.out.size))
    clear hb HJ1 HC1 Hl1 Ha2
    go_wp2_with fail
    refine⟨⟨.inr ⟨⟨V2,HJ2.out.c4⟩,rfl⟩,.inr ⟨⟨V2,HJ2.out.c5⟩,rfl⟩,trivial⟩,?_⟩
    have hc4:=HJ2.out.c4
    have hc5:=HJ2.out.c5
    have hf4:=HJ2.out.f4
    have hf5:=HJ2.out.f5
    refine walkR2_move ?_
    simp only[dsc_,dz_,tsc_,tz_]
    go_wp2_with fail
    have hc52:(V2.setCell ⟨w.heap.size+1+1,0,none⟩ (.string slo2)).cell? ⟨w.heap.size+1+1+1,0,none⟩=some (.string shi):=by
     rw[World.cell?_setCell_other _ _ _ _ (by simp)];exact HJ2.out.c5
    have hf52:(V2.setCell ⟨w.heap.size+1+1,0,none⟩ (.string slo2)).frozen? ⟨w.heap.size+1+1+1,0,none⟩=false:=by rw[World.frozen?_setCell];exact HJ2.out.f5
    refine⟨⟨.inl rfl,.inr ⟨⟨V2.setCell ⟨w.heap.size+1+1,0,none⟩ (.string slo2),hc52⟩,rfl⟩,trivial⟩,?_⟩
    clear hc4 hc5 hf4 hf5
    refine walkR2_move ?_
    simp only[dsc_,dz_,tsc_,tz_]
    go_wp2_with fail
    refine⟨⟨.inl rfl,.inl rfl,trivial⟩,?_⟩
    simp only[walkR2]
    exact⟨(keeps_of_below Hl2.out).trans ((KeepsOthers.setCell _ _ _).trans (KeepsOthers.setCell _ _ _)),ends_kt rfl HB.out HI.out.sz Hl2.out _ _,(HJ2.out.stored _ _).cast Hf1.out Hf2.out,near_below HC2.out _ _⟩
 case done =>
  rintro D' ys W hD rfl ⟨hI,hB⟩ hK
  rw[List.attach_map_subtype_val] at hI
  have HI:=hd_ hI
  have HB:=hd_ hB
  have HK:=hd_ hK
  clear hI hB hK hr1 hr2 hI1 hB1 hB5
  have Hv:Hid (∀ s t,itx (LN.eLo (lf n) tl)=s→itx (LN.eHi (lf n) tl)=t→Ending.returned (.tuple #[.string s,.string t])=Ending.returned (.tuple #[.string (itx (LN.eLo (lf n) tl)),.string (itx (LN.eHi (lf n) tl))])):=by
   intro s t h1 h2
   rw[h1,h2]
  obtain⟨lo,hlo⟩:∃ s,itx (LN.eLo (lf n) tl)=s:=⟨_,rfl⟩
  obtain⟨hi,hhi⟩:∃ s,itx (LN.eHi (lf n) tl)=s:=⟨_,rfl⟩
  have Hr:=hd_ (Hv.out lo hi hlo hhi)
  rw[hlo,hhi] at HI
  clear Hv hlo hhi
  have hc4:=HI.out.c4
  have hc5:=HI.out.c5
  have hf4:=HI.out.f4
  have hf5:=HI.out.f5
  gi_wp2_with fail
  gi_region
  gi_wp2
  clear hc4 hc5 hf4 hf5
  have e4:((W.setCell { block:=w.heap.size+1+1,off:=0 } (Value.string lo)).setCell { block:=w.heap.size+1+1+1,off:=0 } (Value.string hi)).drew.cell? ⟨w.heap.size+1+1,0,none⟩=some (.string lo):=by
   show World.cell? ((W.setCell { block:=w.heap.size+1+1,off:=0 } (Value.string lo)).setCell { block:=w.heap.size+1+1+1,off:=0 } (Value.string hi)) _=_
   rw[World.cell?_setCell_other _ _ _ _ (by simp),World.cell?_setCell_same _ _ _ HI.out.c4]
  have e5:((W.setCell { block:=w.heap.size+1+1,off:=0 } (Value.string lo)).setCell { block:=w.heap.size+1+1+1,off:=0 } (Value.string hi)).drew.cell? ⟨w.heap.size+1+1+1,0,none⟩=some (.string hi):=by
   show World.cell? ((W.setCell { block:=w.heap.size+1+1,off:=0 } (Value.string lo)).setCell { block:=w.heap.size+1+1+1,off:=0 } (Value.string hi)) _=_
   rw[World.cell?_setCell_same _ _ _ (by rw[World.cell?_setCell_other _ _ _ _ (by simp)];exact HI.out.c5)]
  have hk9:=((KeepsOthers.setCell W ⟨w.heap.size+1+1,0,none⟩ (.string lo)).trans (KeepsOthers.setCell _ ⟨w.heap.size+1+1+1,0,none⟩ (.string hi))).trans (KeepsOthers.drew _)
  have hK9:=hk9.same D' _ HK.out rfl
  have hb9:=((HB.out.setCell (p:=⟨w.heap.size+1+1,0,none⟩) (by show _≤w.heap.size+1+1;omega) (.string lo)).setCell (p:=⟨w.heap.size+1+1+1,0,none⟩) (by show _≤w.heap.size+1+1+1;omega) (.string hi)).drew
  generalize ((W.setCell { block:=w.heap.size+1+1,off:=0 } (Value.string lo)).setCell { block:=w.heap.size+1+1+1,off:=0 } (Value.string hi)).drew=w9 at *
  have g4:=cell_kept e4 (grownBy_putObj' _ D' (.deferred none)) (fun r e=>by cases e;exact⟨_,hK9,rfl⟩)
  have g5:=cell_kept e5 (grownBy_putObj' _ D' (.deferred none)) (fun r e=>by cases e;exact⟨_,hK9,rfl⟩)
  refine⟨by simp,.inl ⟨_,_,rfl,run_takeDeferred hK9,?_⟩⟩
  refine⟨.tuple #[.string lo,.string hi],?_,Hr.out,hb9.trans (belowK_b (w:=w) nr_ w9 D' _ _ (by rw[hsz1] at hD;omega) hK9 rfl rfl)⟩
  simp[results,Tryz.results172,go_sem,g4,g5]
 case stop =>
  rintro D' c pre W hD hSp ⟨hf,_⟩ hK
  exact hf.elim
end Go.Proofs.YtnjedhgcfeoemaaGreatDoor

namespace Go.Proofs.YtnjedhgcfeoemaaGreatDoor
open Go.RowKit
theorem isLg_two(N:Nat):IsLg 2 N N:=⟨Nat.le_refl _,Nat.pow_lt_pow_right (by decide) (by omega)⟩
theorem digs_two(more n:Nat)(hm:1≤more){s:Nat×Nat×Nat}(h:digs 2 more n=some s):s.2.2=2^n :=
 isLg_one (digs_inv 2 more (by decide) hm n s h).lg (isLg_two _)
theorem lgA_lf{p:Int}(hp:∃ q:Nat,p=q∧(q=2∨q∈oddP))(h:(digs p.toNat 62 26).isSome=true):lgA p=(lf 26 p:Int)∧lgB p=(LN.hiL (lf 26) p:Int):=by
 obtain⟨q,rfl,hq⟩:=hp
 obtain⟨s,hs⟩:=Option.isSome_iff_exists.1 h
 rw[Int.toNat_natCast] at hs
 have e:lgA q=(lf 26 q:Int):=by
  unfold lgA
  rw[Int.toNat_natCast,hs]
  show ((s.2.2:Nat):Int)=((lgN q 26:Nat):Int)
  rcases hq with rfl|hq
  ·rw[digs_two 62 26 (by decide) hs]
   rw[show ((2:Nat):Int)=2 from rfl,lgN_two]
  ·rw[digs_lgN hq (by decide) (by decide) hs]
 refine⟨e,?_⟩
 unfold lgB LN.hiL
 rw[e]
 split
 ·rfl
 ·rfl
def flE (xl xh yl yh g d:Int):Option Int:=if yl≤0 then none else if LN.quoL xl yl yh g d=LN.quoH xh yl yh g d then some (LN.quoL xl yl yh g d) else none
def flS (xl xh yl yh g d:Int):Option Int:=if yh≤0 then flE (-xh) (-xl) (-yh) (-yl) g d else flE xl xh yl yh g d
def flAt (n:Nat) (tx ty:List (Int×Int)) (d g:Nat):Option Int:=flS (LN.eLo (lf n) tx) (LN.eHi (lf n) tx) (LN.eLo (lf n) ty) (LN.eHi (lf n) ty) g d
theorem eLo_le(f:Int→Nat):∀ l:List (Int×Int),LN.eLo f l≤LN.eHi f l
 | []=>Int.le_refl _
 | x::l=>by
  have ih:=eLo_le f l
  have e1:LN.eLo f (x::l)=(if x.2<0 then x.2*(LN.hiL f x.1:Int) else x.2*(f x.1:Int))+LN.eLo f l:=by simp[LN.eLo]
  have e2:LN.eHi f (x::l)=(if x.2<0 then x.2*(f x.1:Int) else x.2*(LN.hiL f x.1:Int))+LN.eHi f l:=by simp[LN.eHi]
  have hle:f x.1≤LN.hiL f x.1:=by unfold LN.hiL;split<;>omega
  rw[e1,e2]
  by_cases hk:x.2<0
  ·have h1:x.2*(LN.hiL f x.1:Int)≤x.2*(f x.1:Int):=Int.mul_le_mul_of_nonpos_left (by omega) (by omega)
   rw[if_pos hk,if_pos hk];omega
  ·have h1:x.2*(f x.1:Int)≤x.2*(LN.hiL f x.1:Int):=Int.mul_le_mul_of_nonneg_left (by omega) (by omega)
   rw[if_neg hk,if_neg hk];omega
theorem flE_some{xl xh yl yh g d q:Int}(h:flE xl xh yl yh g d=some q):0<yl∧LN.quoL xl yl yh g d=q∧LN.quoH xh yl yh g d=q:=by
 unfold flE at h
 split at h
 ·cases h
 ·rename_i h1
  split at h
  ·rename_i h2
   have h3:LN.quoL xl yl yh g d=q:=by simpa using h
   exact⟨by omega,h3,by rw[← h2];exact h3⟩
  ·cases h
theorem divZ(w:World)(a b:Int)(K:Nat)(hK:K<90000)(ha:a.natAbs<2^K)(hb:b.natAbs<2^K)(h0:0<b)(L:Laid w):Gives Tryz.prog 163 #[.string (itx a),.string (itx b)] w (.tuple #[.string (itx (a/b)),.string (itx (a%b)),.int .i64 0]):=by
 obtain⟨n,rfl⟩:=Int.eq_ofNat_of_zero_le (Int.le_of_lt h0)
 have hs:Num (a.natAbs+1):=num_two (K:=K+1) (by rw[Nat.pow_succ];omega) (by omega)
 have:=divmodz_any w a n (num_two ha (by omega)) (num_two hb (by omega)) (by omega) hs L
 rw[itx_nat]
 exact this
theorem same_itx(a b:Int):((itx a).toList==(itx b).toList)=decide (a=b):=by
 by_cases h:a=b
 ·subst h;simp
 ·rw[decide_eq_false h,beq_eq_false_iff_ne]
  intro e
  rw[toList_lb,toList_lb] at e
  exact h (itx_inj (by
   have h1:(itx a).data.toList=(itx b).data.toList:=e
   exact ByteArray.ext (Array.toList_inj.1 h1)))
theorem Ins.stop{c:Nat→Nat→Int}{n i j:Nat}{F:Nat→Nat}(h:Ins c n i j F)(hs:j=0∨0≤c (F j) (F (j-1))):Srt c n (i+1) F:=by
 refine⟨h.lt,h.inj,fun k h1 h2=>h.hi k (by omega) h2,fun k hk=>Nat.lt_succ_of_le (h.lo k (by omega)),fun k hk=>?_⟩
 have hji:=h.ji
 have hn:=h.n
 rcases Nat.lt_trichotomy (k+1) j with h1|h1|h1
 ·exact h.a1 k h1
 ·rcases hs with h0 | h0
  ·omega
  ·have e:j-1=k:=by omega
   rw[e] at h0
   rw[h1]
   refine⟨h0,fun _=>?_⟩
   have hx:=h.x
   have h2:=h.lo k (by omega)
   have h3:F k≠F j:=fun e=>by have:=h.inj k j (by omega) (by omega) e;omega
   omega
 ·rcases Nat.lt_or_ge j k with h2 | h2
  ·exact h.a2 k h2 (by omega)
  ·have e:k=j:=by omega
   subst e
   rw[h.x]
   exact h.a4 (by omega)
theorem dval_take_lt18{l:List UInt8}(h:Digs l)(t:Nat)(ht:t≤18):dval (l.take t)<1000000000000000000:=by
 have h1:=dval_lt (h.take t)
 have h2:10^(l.take t).length≤10^18:=Nat.pow_le_pow_right (by decide) (by simp;omega)
 exact Nat.lt_of_lt_of_le h1 h2
theorem elU64:ElemOf Tryz.prog 194 193 (.int .u64 0) 1 8:=⟨Tryz.underlying194,info_parts infoU,rfl,by decide⟩
structure TwoS (w:World) (ps:List Int) (a0 a1 a2:Option Addr) (l1 l2:Pairs):Prop where
 rp:Rd w a0 (ints ps)
 hi:I64s ps
 hl:ps.length≤1000
 r1:Rd w a1 (cellsS l1)
 r2:Rd w a2 (cellsS l2)
 n1:l1.length≤1000
 n2:l2.length≤1000
 s1:Ssz l1
 s2:Ssz l2
 L:Laid w
theorem TwoS.all{w W:World}{ps:List Int}{a0 a1 a2:Option Addr}{l1 l2:Pairs}(H:TwoS w ps a0 a1 a2 l1 l2)(hW:Below w.heap.size w W){g c0 c1 c2:Nat}(hg:W.heap[g]?=some (.cells #[.slice a1 l1.length c1,.slice a2 l2.length c2] 38 (0,0))):
  Gives Tryz.prog 107 #[.slice a0 ps.length c0,.slice (some ⟨g,0,none⟩) 2 2] W (.int .i64 (lcode ps [l1,l2])) :=
 checkAll_any W a0 _ c0 2 ps [l1,l2] (H.rp.below hW nr_) H.hi (Nat.le_trans H.hl (by decide)) (rdl_two hg (H.r1.below hW nr_) (H.r2.below hW nr_)) (by simp)
  (by intro l hl;simp only[List.mem_cons,List.not_mem_nil,or_false] at hl;rcases hl with rfl | rfl;exact⟨Nat.le_trans H.n1 (by decide),H.s1⟩;exact⟨Nat.le_trans H.n2 (by decide),H.s2⟩) (H.L.below hW)
def okE (s:ByteArray):Prop:=s.size≤5∨(31<s.size∧s.size≤40)
instance (s:ByteArray):Decidable (okE s):=inferInstanceAs (Decidable (_∨_))
theorem digits2_dec(w:World)(n:Nat):Gives Tryz.prog 116 #[.string (dec n)] w (.string (dec n)):=by
 unfold Gives
 have hix:∀ W,(Instr.index 25 (.string (dec n)) (.int .i64 0)).run Tryz.prog W = .ok (.int .u8 ((lb (dec n)).getD 0 0).toNat) W:=fun W=>idx0 W _ (dec_sizepos n)
 have hf:=dec_first n
 have hs:=dec_sizepos n
 have hs':(0:Int)<(dec n).size:=by omega
 generalize ((lb (dec n)).getD 0 0).toNat=c at *
 have hc:((c:Int)==45)=false:=by rw[beq_eq_false_iff_ne];omega
 clear hf
 generalize dec n=s at *
 go_enter Tryz.func116,Tryz.ntmps116
 go_wp2
 go_ret
 exact⟨rfl,Below.refl _ _⟩
theorem of2_any(w:World)(z:Int)(h0 : -9223372036854775808≤z)(h1:z≤9223372036854775807)(L:Laid w):
  Gives Tryz.prog 118 #[.int .i64 z] w (.string (itx z)):=by
 unfold Gives
 have HI:=hd_ (itoa_any w z h0 h1 L)
 generalize itx z=s at *
 clear h0 h1 L
 go_enter Tryz.func118,Tryz.ntmps118
 go_wp2_with fail
 refine cm_ HI.out ?_
 rintro e w1 ⟨rfl,hb⟩
 have B1:=hd_ hb
 clear hb HI
 go_wp2_with fail
 go_ret
 exact⟨rfl,B1.out⟩
theorem small2_dec(w:World)(n:Nat)(hn:(dec n).size≤18):
  Gives Tryz.prog 185 #[.string (dec n)] w (.tuple #[.int .i64 n,.bool true]):=by
 unfold Gives
 have hix:∀ W,(Instr.index 9 (.string (dec n)) (.int .i64 0)).run Tryz.prog W = .ok (.int .u8 ((lb (dec n)).getD 0 0).toNat) W:=fun W=>idx0 W _ (dec_sizepos n)
 have hf:=dec_first n
 have hs:=dec_sizepos n
 have hs':(0:Int)<(dec n).size:=by omega
 have hs2:((0:Int)==(dec n).size)=false:=by rw[beq_eq_false_iff_ne];omega
 have Hd:Hid (Digs (lb (dec n))):=by show Digs _;rw[lb_dec];exact dec_digs n
 have Hlb:=hd_ (lb_length (dec n))
 have Hval:Hid (dval (lb (dec n))=n):=by show _=_;rw[lb_dec];exact dval_dec n
 generalize ((lb (dec n)).getD 0 0).toNat=c at *
 have hc:((c:Int)==45)=false:=by rw[beq_eq_false_iff_ne];omega
 clear hf
 generalize dec n=s at *
 go_enter Tryz.func185,Tryz.ntmps185
 go_wp2_with fail
 go_loop [7,5] (fun n i=>∃ t:Nat,t≤s.size∧i = .int .i64 t∧n = .int .i64 (-((dval ((lb s).take t):Nat):Int))) (fun _ i=>s.size-(intOf i).toNat)
 case atStart=>exact⟨0,Nat.zero_le _,rfl,rfl⟩
 case round =>
  obtain⟨t,ht,rfl,rfl⟩:=hrel
  have hD:=dval_take_lt18 Hd.out t (by omega)
  by_cases hlt:t<s.size
  ·have hlt':(t:Int)<s.size:=by omega
   have hts:=dval_take_succ (lb s) t (by rw[Hlb.out];exact hlt)
   have hcd:=Hd.out ((lb s).getD t 0) (by rw[List.getD_eq_getElem?_getD,List.getElem?_eq_getElem (by rw[Hlb.out];exact hlt)];exact List.getElem_mem _)
   have hg:(lb s).getD t 0=s[t]'hlt:=by
    rw[List.getD_eq_getElem?_getD,List.getElem?_eq_getElem (by rw[Hlb.out];exact hlt)];rfl
   have hD1:dval ((lb s).take t)<100000000000000000:=by
    have h1:=dval_lt (Hd.out.take t)
    have h2:10^((lb s).take t).length≤10^17:=Nat.pow_le_pow_right (by decide) (by simp;omega)
    exact Nat.lt_of_lt_of_le h1 h2
   rw[hg] at hts hcd
   clear hg hD
   have Hts:=hd_ hts
   clear hts
   generalize dval ((lb s).take t)=D at *
   generalize hbb:(s[t]'hlt).toNat=b at *
   obtain⟨hc1,hc2⟩:=hcd
   have e1:IntKind.i64.wrap ((b:Int)-48)=(b:Int)-48:=iw_ _ (by omega)
   have e2:IntKind.i64.wrap (-9223372036854775808+((b:Int)-48)) = -9223372036854775808+((b:Int)-48):=iw_ _ (by omega)
   have e3:IntKind.i64.wrap (-(D:Int)*10) = -(D:Int)*10:=iw_ _ (by omega)
   have e4:IntKind.i64.wrap (-(D:Int)*10-((b:Int)-48)) = -(D:Int)*10-((b:Int)-48):=iw_ _ (by omega)
   have e5:IntKind.i64.wrap ((t:Int)+1)=((t+1:Nat):Int):=by rw[← Int.natCast_succ];exact iw_ _ (by omega)
   have q1:Int.tdiv (-9223372036854775808+((b:Int)-48)) 10 ≤ -100000000000000000:=by
    have:=Int.mul_tdiv_add_tmod (-9223372036854775808+((b:Int)-48)) 10
    have:=Int.tmod_lt_of_pos (-9223372036854775808+((b:Int)-48)) (show (0:Int)<10 by decide)
    have:=Int.lt_tmod_of_pos (-9223372036854775808+((b:Int)-48)) (show (0:Int)<10 by decide)
    omega
   have q2 : -1000000000000000000≤Int.tdiv (-9223372036854775808+((b:Int)-48)) 10:=by
    have:=Int.mul_tdiv_add_tmod (-9223372036854775808+((b:Int)-48)) 10
    have:=Int.tmod_lt_of_pos (-9223372036854775808+((b:Int)-48)) (show (0:Int)<10 by decide)
    have:=Int.lt_tmod_of_pos (-9223372036854775808+((b:Int)-48)) (show (0:Int)<10 by decide)
    omega
   obtain⟨Q,hQ⟩:∃ Q,Int.tdiv (-9223372036854775808+((b:Int)-48)) 10=Q:=⟨_,rfl⟩
   rw[hQ] at q1 q2
   have e6:IntKind.i64.wrap Q=Q:=iw_ _ (by omega)
   have n1:¬ ((b:Int)-48<0):=by omega
   have n2:¬ (9<(b:Int)-48):=by omega
   have n3:¬ (-(D:Int)<Q):=by omega
   go_wp2_with fail
   refine⟨⟨t+1,by omega,by go_num,by rw[Hts.out];congr 1;omega⟩,by simp[intOf];omega⟩
  ·have hlt':¬ (t:Int)<s.size:=by omega
   have hts:t=s.size:=by omega
   have Hf:Hid (dval ((lb s).take t)=n):=by
    show _=_
    rw[hts,← Hlb.out,List.take_length];exact Hval.out
   rw[Hf.out] at hD ⊢
   have n1:(-(n:Int) == -9223372036854775808)=false:=by rw[beq_eq_false_iff_ne];omega
   have e1:IntKind.i64.wrap (0 - -(n:Int))=(n:Int):=by rw[show 0 - -(n:Int)=n by omega];exact iw_ _ (by omega)
   have e2:IntKind.i64.wrap (n:Int)=(n:Int):=iw_ _ (by omega)
   go_wp2_with fail
   go_ret2
   exact⟨rfl,Below.refl _ _⟩
theorem quick2_dec(w:World)(n:Nat):
  Gives Tryz.prog 117 #[.string (dec n)] w (if (dec n).size≤18 then .tuple #[.int .i64 n,.bool true] else .tuple #[.int .i64 0,.bool false]):=by
 unfold Gives
 have HD:=hd_ (fun W=>digits2_dec W n)
 by_cases h:(dec n).size≤18
 ·rw[if_pos h]
  have HS:=hd_ (fun W=>small2_dec W n h)
  have h':¬ (18:Int)<(dec n).size:=by omega
  generalize dec n=s at *
  go_enter Tryz.func117,Tryz.ntmps117
  go_wp2_with fail
  refine cm_ (HD.out _) ?_
  rintro e w1 ⟨rfl,hb⟩
  have B1:=hd_ hb
  clear hb HD
  go_wp2_with fail
  refine cm_ (HS.out _) ?_
  rintro e w2 ⟨rfl,hb⟩
  have B2:=hd_ (B1.out.trans (hb.mono B1.out.size))
  clear hb HS B1
  go_wp2_with fail
  go_ret2
  exact⟨rfl,B2.out⟩
 ·rw[if_neg h]
  have h':(18:Int)<(dec n).size:=by omega
  generalize dec n=s at *
  go_enter Tryz.func117,Tryz.ntmps117
  go_wp2_with fail
  refine cm_ (HD.out _) ?_
  rintro e w1 ⟨rfl,hb⟩
  have B1:=hd_ hb
  clear hb HD
  go_wp2_with fail
  go_ret2
  exact⟨rfl,B1.out⟩
theorem sign2_dec(w:World)(n:Nat):Gives Tryz.prog 134 #[.string (dec n)] w (.int .i64 (if n=0 then 0 else 1)):=by
 unfold Gives
 by_cases h0:n=0
 ·subst h0
  rw[if_pos rfl,show dec 0=⟨#[48]⟩ from by rw[← zero_txt.1];exact(itx_nat 0).symm]
  go_enter Tryz.func134,Tryz.ntmps134
  go_wp2
  go_ret
  exact⟨rfl,Below.refl _ _⟩
 ·rw[if_neg h0]
  have hix:∀ W,(Instr.index 25 (.string (dec n)) (.int .i64 0)).run Tryz.prog W = .ok (.int .u8 ((lb (dec n)).getD 0 0).toNat) W:=fun W=>idx0 W _ (dec_sizepos n)
  have hf:=dec_first n
  have hq:=itx_isz (n:Int)
  rw[itx_nat,decide_eq_false (by omega)] at hq
  generalize ((lb (dec n)).getD 0 0).toNat=c at *
  have hc:((c:Int)==45)=false:=by rw[beq_eq_false_iff_ne];omega
  clear hf h0
  generalize dec n=s at *
  go_enter Tryz.func134,Tryz.ntmps134
  go_wp2
  go_ret
  exact⟨rfl,Below.refl _ _⟩
theorem side2_dec(w:World)(n:Nat):Gives Tryz.prog 120 #[.string (dec n)] w (.int .i64 1):=by
 unfold Gives
 obtain⟨z,hz,hz2⟩:∃ z:Int,(if n=0 then (0:Int) else 1)=z∧0≤z:=⟨_,rfl,by split<;>decide⟩
 have HS:=hd_ (fun W=>sign2_dec W n)
 rw[hz] at HS
 have hz3:¬ z<0:=by omega
 clear hz
 generalize dec n=s at *
 go_enter Tryz.func120,Tryz.ntmps120
 go_wp2_with fail
 refine cm_ (HS.out _) ?_
 rintro e w1 ⟨rfl,hb⟩
 have B1:=hd_ hb
 clear hb HS
 go_wp2_with fail
 go_ret
 exact⟨rfl,B1.out⟩
def nI (l:List Nat):List Int:=l.map fun x:Nat=>(x:Int)
theorem nI_length(l:List Nat):(nI l).length=l.length:=List.length_map ..
theorem nI_take(l:List Nat)(k:Nat):(nI l).take k=nI (l.take k):=List.map_take.symm
theorem nI_append(l m:List Nat):nI (l++m)=nI l++nI m:=List.map_append
theorem nI_set(l:List Nat)(k x:Nat):(nI l).set k (x:Int)=nI (l.set k x):=by
 unfold nI
 rw[List.map_set]
theorem nI_get(l:List Nat)(i:Nat)(hi:i<l.length)(h:i<(nI l).length):(nI l)[i]=((l.getD i 0:Nat):Int):=by
 simp only[nI,List.getElem_map]
 rw[List.getD_eq_getElem?_getD,List.getElem?_eq_getElem hi];rfl
theorem nI_cell{w:World}{a:Option Addr}{l:List Nat}(h:Rd w a (ints (nI l)))(k:Nat)(hk:k<l.length):∃ b off,a=some ⟨b,off,none⟩∧b<w.heap.size∧∀ i,i<l.length→w.cell? ⟨b,off+i,none⟩=some (.int .i64 (l.getD i 0:Nat)):=by
 obtain⟨b,off,rfl,hb,hc⟩:=h.open (by rw[ints_length,nI_length];omega)
 refine⟨b,off,rfl,hb,fun i hi=>hc i _ ?_⟩
 have h1:i<(nI l).length:=by rw[nI_length];exact hi
 rw[ints_get (nI l) i h1,nI_get l i hi h1]
theorem trim2_any(w:World)(a:Option Addr)(c:Nat)(l:List Nat)(hr:Rd w a (ints (nI l)))(hp:Pcs l)(hl:l.length≤1000000)(hc:l.length≤c):
  Gives Tryz.prog 186 #[.slice a l.length c] w (.slice a (limbs (val l)).length c):=by
 unfold Gives
 have Hr:=hd_ hr
 have Hp:=hd_ hp
 clear hr hp
 generalize hn:l.length=n at *
 have Hn:=hd_ hn
 clear hn
 go_enter Tryz.func186,Tryz.ntmps186
 go_wp2_with fail
 go_loop [3] (fun s=>∃ m:Nat,m≤n∧s = .int .i64 m∧Hid (val (l.take m)=val l)) (fun s=>(intOf s).toNat)
 case atStart=>exact⟨n,Nat.le_refl _,rfl,by show _=_;rw[← Hn.out,List.take_length]⟩
 case round =>
  obtain⟨m,hm,rfl,Hv⟩:=hrel
  by_cases h0:m=0
  ·subst h0
   have Hlen:Hid ((limbs (val l)).length=0):=by
    show _=_
    rw[← limbs_take l Hp.out 0 (Nat.zero_le _) Hv.out (.inl rfl)];simp
   go_wp2_with fail
   go_ret
   exact⟨by rw[Hlen.out];rfl,Below.refl _ _⟩
  ·obtain⟨k,rfl⟩:∃ k,m=k+1:=⟨m-1,by omega⟩
   obtain⟨b,off,rfl,hb,hcells⟩:=nI_cell Hr.out k (by rw[Hn.out];omega)
   have cx:=hcells k (by rw[Hn.out];omega)
   have ew:IntKind.i64.wrap (((k+1:Nat):Int)-1)=(k:Nat):=by rw[show ((k+1:Nat):Int)-1=k by omega];exact iw_ _ (by omega)
   have ew':IntKind.i64.wrap ((k:Int)+1-1)=(k:Nat):=by rw[show (k:Int)+1-1=k by omega];exact iw_ _ (by omega)
   have hpos:(0:Int)<(k:Int)+1:=by omega
   clear hcells
   by_cases hz:l.getD k 0=0
   ·have Hv2:Hid (val (l.take k)=val l):=by
     show _=_
     have:=val_take_zero l (k+1) (by omega) (by rw[Hn.out];omega) hz
     rw[Nat.add_sub_cancel] at this
     rw[this];exact Hv.out
    rw[hz] at cx
    clear hz Hv
    go_wp2_with fail
    refine⟨⟨k,by omega,rfl,Hv2⟩,by simp[intOf]⟩
   ·have Hlen:Hid ((limbs (val l)).length=k+1):=by
     show _=_
     rw[← limbs_take l Hp.out (k+1) (by rw[Hn.out];exact hm) Hv.out (.inr hz),List.length_take,Hn.out]
     omega
    have hq:(((l.getD k 0:Nat):Int)==0)=false:=by rw[beq_eq_false_iff_ne];omega
    clear Hv hz
    generalize l.getD k 0=x at *
    go_wp2_with fail
    go_ret
    exact⟨by rw[Hlen.out];rfl,Below.refl _ _⟩
theorem OwnI.cap2{w:World}{B c:Nat}{a:Option Addr}{l:List Int}(h:OwnI w B a c l):l.length≤c:=by
 rcases h.2 with⟨h1,h0⟩|⟨g,cap,cur,h1,h2,h3,h4,h5⟩
 ·rw[h0];exact Nat.zero_le _
 ·simp only[Value.slice.injEq] at h1
  obtain⟨-,-,rfl⟩:=h1
  exact h4
def GivesN (f:FuncId) (args:Array Value) (w:World) (n:Nat):Prop :=
 Calls Tryz.prog f args w fun e w'=>∃ a c,e = .returned (.slice a (limbs n).length c)∧Rd w' a (ints (nI (limbs n)))∧(limbs n).length≤c∧Below w.heap.size w w'
structure SpAt (d j:Nat) (a:Option Addr) (c:Nat) (w wr:World):Prop where
 own:OwnI wr w.heap.size a c (nI (digs9 d j))
 bel:Below w.heap.size w wr
theorem split2_any(s:ByteArray)(w:World)(hd:Digs (lb s))(hl:s.size≤9000000):
  GivesN 122 #[.string s] w (dval (lb s)):=by
 unfold GivesN
 have Hd:=hd_ hd
 clear hd
 have Hlb:=hd_ (lb_length s)
 obtain⟨S,hS⟩:∃ S,S=s.size:=⟨_,rfl⟩
 have HS:=hd_ hS
 rw[← hS] at hl
 clear hS
 go_enter Tryz.func122,Tryz.ntmps122
 go_wp2_with fail
 go_loopw [0,3] (fun x o wr=>∃ (j e:Nat) (X:ByteArray) (a:Option Addr) (c:Nat),9*j<S+9∧e=S-9*j∧X.size=e∧x = .string X∧o = .slice a j c∧Hid (lb X=(lb s).take e)∧Hid (SpAt (dval (lb s)) j a c w wr)) (fun x _ _=>match x with | .string X=>X.size | _=>0)
 case atStart =>
  refine⟨0,S,s,none,0,by omega,by omega,HS.out.symm,rfl,rfl,?_,⟨OwnI.nil w w.heap.size,Below.refl _ _⟩⟩
  show _=_
  rw[HS.out,← Hlb.out,List.take_length]
 case round =>
  obtain⟨j,e,X,a,c,hj,he,hX,rfl,rfl,HX,HC⟩:=hrel
  by_cases hpos:0<e
  ·obtain⟨lo,hlo⟩:∃ lo,lo=e-9:=⟨_,rfl⟩
   obtain⟨K,hK⟩:∃ K,K=min 9 e:=⟨_,rfl⟩
   have hek:e=lo+K:=by omega
   have hK0:0<K:=by omega
   have hK9:K≤9:=by omega
   have Hdv:Hid (dval (((lb s).drop lo).take K)=dval (lb s)/1000000000^j%1000000000):=by
    show _=_
    have h:=chunk_val (lb s) Hd.out j (by rw[Hlb.out,← HS.out];omega)
    rw[Hlb.out,← HS.out,← he,← hlo,← hK] at h
    exact h
   have hXl:(lb X).length=e:=by rw[lb_length,hX]
   have Hch:Hid (∀ t,t<K→∃ h:lo+t<X.size,(((lb s).drop lo).take K).getD t 0=X[lo+t]'h):=fun t ht=>by
    have h0:lo+t<X.size:=by omega
    refine⟨h0,?_⟩
    have e1:X[lo+t]'h0=(lb X).getD (lo+t) 0:=by
     rw[List.getD_eq_getElem?_getD,List.getElem?_eq_getElem (by rw[hXl];omega)];rfl
    rw[e1,HX.out]
    simp only[List.getD_eq_getElem?_getD,List.getElem?_take,List.getElem?_drop]
    rw[if_pos ht,if_pos (by omega)]
   have Hdc:Hid (Digs (((lb s).drop lo).take K)):=(Hd.out.drop _).take _
   have Hlc:Hid ((((lb s).drop lo).take K).length=K):=by
    show _=_
    simp only[List.length_take,List.length_drop,Hlb.out,← HS.out];omega
   have Hnx:Hid ((X.extract 0 lo).size=lo∧lb (X.extract 0 lo)=(lb s).take lo∧lo=S-9*(j+1)):=by
    refine⟨by rw[ByteArray.size_extract];omega,?_,by omega⟩
    rw[lb_extract,HX.out,List.drop_zero,List.take_take]
    congr 1;omega
   have hj2:9*(j+1)<S+9:=by omega
   have hez:(0:Int)<e:=by omega
   clear hXl HX
   generalize ((lb s).drop lo).take K=ch at *
   have Hek:=hd_ hek
   have heS:e≤9000000:=by omega
   have Hlo:Hid (lo=e-9):=hlo
   clear he hlo hK hek
   have HXs:=hd_ hX
   -- the digits of one piece
   have Hin:Hid (∀ t,t≤K→(t<K↔((lo:Int)+t<e))):=fun t ht=>by have:=Hek.out;constructor<;>intro h<;>omega
   by_cases h9:(9:Int)<e
   ·have hw:IntKind.i64.wrap ((e:Int)-9)=(lo:Nat):=by
     have:=Hlo.out
     rw[show (e:Int)-9=(lo:Nat) by omega];exact iw_ _ (by omega)
    go_wp2_with fail
    go_loopw [5,6] (fun n i w2=>∃ t:Nat,t≤K∧i = .int .i64 ((lo:Int)+t)∧n = .int .i64 (dval (ch.take t):Nat)∧Hid (w2=wr)) (fun _ i _=>e-(intOf i).toNat)
    case atStart=>exact⟨0,Nat.zero_le _,by simp,rfl,rfl⟩
    case round =>
     obtain⟨t,ht,rfl,rfl,Hww⟩:=hrel
     have hww:=Hww.out
     subst hww
     clear Hww
     have hD:=dval_take_lt Hdc.out t (by omega)
     by_cases hlt:t<K
     ·obtain⟨hlo2,hcx⟩:=Hch.out t hlt
      have hts:=dval_take_succ ch t (by rw[Hlc.out];exact hlt)
      have hcd:=Hdc.out (ch.getD t 0) (by rw[List.getD_eq_getElem?_getD,List.getElem?_eq_getElem (by rw[Hlc.out];exact hlt)];exact List.getElem_mem _)
      have Hts:=hd_ hts
      clear hts
      generalize dval (ch.take t)=D at *
      rw[hcx] at hcd Hts
      clear hcx
      generalize hb:(X[lo+t]'hlo2).toNat=b at *
      obtain⟨hc1,hc2⟩:=hcd
      have hlt':(lo:Int)+t<e:=(Hin.out t ht).1 hlt
      have e1:IntKind.u8.wrap ((b:Int)-48)=(b:Int)-48:=IntKind.wrap_u8 _ ▸ by omega
      have e2:IntKind.i64.wrap (10*(D:Int))=10*(D:Int):=iw_ _ (by omega)
      have e3:IntKind.i64.wrap (10*(D:Int)+((b:Int)-48))=10*(D:Int)+((b:Int)-48):=iw_ _ (by omega)
      have e4:IntKind.i64.wrap ((lo:Int)+t+1)=(lo:Int)+t+1:=iw_ _ (by omega)
      go_wp2_with fail
      refine⟨⟨t+1,by omega,by go_num,by rw[Hts.out];congr 1;omega,trivial⟩,by simp[intOf];omega⟩
     ·obtain rfl:t=K:=by omega
      have hDt:dval (ch.take t)=dval (lb s)/1000000000^j%1000000000:=by
       rw[← Hlc.out,List.take_length];exact Hdv.out
      have HDt:=hd_ hDt
      clear hDt
      generalize dval (ch.take t)=D at *
      have hlt':¬ (lo:Int)+t<e:=fun h=>hlt ((Hin.out t ht).2 h)
      have hrow:wr.ownsRow w.heap.size 3 1 (.slice a j c) j (ints (nI (digs9 (dval (lb s)) j))):=by have:=HC.out.own;unfold OwnI at this;rw[nI_length,digs9_length] at this;exact this
      have Hrow:=hd_ hrow
      clear hrow
      have hloe:((lo:Nat):Int)≤e:=by have:=Hek.out;omega
      have hlo0:(0:Int)≤lo:=by omega
      have hloS:lo≤e:=by have:=Hek.out;omega
      go_wp2_with (at_builtin;refine wpList_append_new rfl (.tmp 31) (.tmp 33) 35 rfl elInt _ 1 [.int .i64 D] rfl rfl Hrow.out HC.out.bel.size rfl ?c1 (by omega) (by omega) ?_)
      case c1=>first | rfl | (intro u hu;obtain rfl:=List.mem_singleton.1 hu;rfl)
      intro v' w3 hown3 hg3 _
      obtain⟨a3,c3,rfl⟩:=own_form hown3
      have HC3:Hid (SpAt (dval (lb s)) (j+1) a3 c3 w w3):=by
       refine⟨?_,(HC.out.bel.alloc HC.out.bel.size _).grown hg3 (by have:=HC.out.bel.size;simp;omega) (fun k hk=>(Hrow.out.lt k hk).1)⟩
       unfold OwnI
       rw[nI_length,digs9_length,digs9_succ,nI_append,ints_append]
       have:=hown3
       rw[HDt.out] at this
       exact this
      clear hown3 hg3 HC
      go_wp2_with fail
      obtain⟨m1,m2,m3⟩:=Hnx.out
      refine⟨⟨j+1,lo,X.extract 0 lo,a3,c3,hj2,m3,m1,rfl,rfl,m2,HC3⟩,?_⟩
      show (X.extract 0 lo).size<X.size
      have:=Hek.out
      omega
   ·have hz0:lo=0:=by have:=Hlo.out;omega
    subst hz0
    replace Hch:Hid (∀ t,t<K→∃ h:t<X.size,ch.getD t 0=X[t]'h):=fun t ht=>by
     obtain⟨h,e1⟩:=Hch.out t ht
     simp only[Nat.zero_add] at h e1
     exact⟨h,e1⟩
    replace Hin:Hid (∀ t:Nat,t≤K→(t<K↔((t:Int)<e))):=fun t ht=>by
     have:=Hin.out t ht
     rw[show ((0:Nat):Int)+(t:Int)=t by omega] at this
     exact this
    go_wp2_with fail
    go_loopw [5,6] (fun n i w2=>∃ t:Nat,t≤K∧i = .int .i64 (t:Int)∧n = .int .i64 (dval (ch.take t):Nat)∧Hid (w2=wr)) (fun _ i _=>e-(intOf i).toNat)
    case atStart=>exact⟨0,Nat.zero_le _,by simp,rfl,rfl⟩
    case round =>
     obtain⟨t,ht,rfl,rfl,Hww⟩:=hrel
     have hww:=Hww.out
     subst hww
     clear Hww
     have hD:=dval_take_lt Hdc.out t (by omega)
     by_cases hlt:t<K
     ·obtain⟨hlo2,hcx⟩:=Hch.out t hlt
      have hts:=dval_take_succ ch t (by rw[Hlc.out];exact hlt)
      have hcd:=Hdc.out (ch.getD t 0) (by rw[List.getD_eq_getElem?_getD,List.getElem?_eq_getElem (by rw[Hlc.out];exact hlt)];exact List.getElem_mem _)
      have Hts:=hd_ hts
      clear hts
      generalize dval (ch.take t)=D at *
      rw[hcx] at hcd Hts
      clear hcx
      generalize hb:(X[t]'hlo2).toNat=b at *
      obtain⟨hc1,hc2⟩:=hcd
      have hlt':(t:Int)<e:=(Hin.out t ht).1 hlt
      have e1:IntKind.u8.wrap ((b:Int)-48)=(b:Int)-48:=IntKind.wrap_u8 _ ▸ by omega
      have e2:IntKind.i64.wrap (10*(D:Int))=10*(D:Int):=iw_ _ (by omega)
      have e3:IntKind.i64.wrap (10*(D:Int)+((b:Int)-48))=10*(D:Int)+((b:Int)-48):=iw_ _ (by omega)
      have e4:IntKind.i64.wrap ((t:Int)+1)=(t:Int)+1:=iw_ _ (by omega)
      go_wp2_with fail
      refine⟨⟨t+1,by omega,by go_num,by rw[Hts.out];congr 1;omega,trivial⟩,by simp[intOf];omega⟩
     ·obtain rfl:t=K:=by omega
      have hDt:dval (ch.take t)=dval (lb s)/1000000000^j%1000000000:=by
       rw[← Hlc.out,List.take_length];exact Hdv.out
      have HDt:=hd_ hDt
      clear hDt
      generalize dval (ch.take t)=D at *
      have hlt':¬ (t:Int)<e:=fun h=>hlt ((Hin.out t ht).2 h)
      have hrow:wr.ownsRow w.heap.size 3 1 (.slice a j c) j (ints (nI (digs9 (dval (lb s)) j))):=by have:=HC.out.own;unfold OwnI at this;rw[nI_length,digs9_length] at this;exact this
      have Hrow:=hd_ hrow
      clear hrow
      go_wp2_with (at_builtin;refine wpList_append_new rfl (.tmp 31) (.tmp 33) 35 rfl elInt _ 1 [.int .i64 D] rfl rfl Hrow.out HC.out.bel.size rfl ?c1 (by omega) (by omega) ?_)
      case c1=>first | rfl | (intro u hu;obtain rfl:=List.mem_singleton.1 hu;rfl)
      intro v' w3 hown3 hg3 _
      obtain⟨a3,c3,rfl⟩:=own_form hown3
      have HC3:Hid (SpAt (dval (lb s)) (j+1) a3 c3 w w3):=by
       refine⟨?_,(HC.out.bel.alloc HC.out.bel.size _).grown hg3 (by have:=HC.out.bel.size;simp;omega) (fun k hk=>(Hrow.out.lt k hk).1)⟩
       unfold OwnI
       rw[nI_length,digs9_length,digs9_succ,nI_append,ints_append]
       have:=hown3
       rw[HDt.out] at this
       exact this
      clear hown3 hg3 HC
      go_wp2_with fail
      obtain⟨m1,m2,m3⟩:=Hnx.out
      refine⟨⟨j+1,0,ByteArray.empty,a3,c3,hj2,m3,rfl,rfl,rfl,(show lb ByteArray.empty=List.take 0 (lb s) from by rw[List.take_zero];rfl),HC3⟩,?_⟩
      show (ByteArray.empty).size<X.size
      have:(ByteArray.empty).size=0:=rfl
      omega
  ·have hz:¬ (0:Int)<e:=by omega
   have hv:val (digs9 (dval (lb s)) j)=dval (lb s):=by
    rw[digs9_val,Nat.mod_eq_of_lt]
    have h1:=dval_lt Hd.out
    rw[Hlb.out] at h1
    have h2:10^s.size≤10^(9*j):=Nat.pow_le_pow_right (by decide) (by have:=HS.out;omega)
    rw[show (1000000000:Nat)^j=10^(9*j) by rw[Nat.pow_mul]]
    omega
   have hjl:(digs9 (dval (lb s)) j).length=j:=digs9_length _ _
   have hcap:=HC.out.own.cap2
   rw[nI_length,hjl] at hcap
   have HT:=hd_ (trim2_any wr a c (digs9 (dval (lb s)) j) HC.out.own.rd (digs9_pcs _ _) (by rw[hjl];omega) (by rw[hjl];exact hcap))
   rw[hv,hjl] at HT
   have HR:Hid (Rd wr a (ints (nI (limbs (dval (lb s)))))):=by
    show Rd _ _ _
    have h1:=limbs_prefix (digs9 (dval (lb s)) j) (digs9_pcs _ _)
    rw[hv] at h1
    have h2:=HC.out.own.rd
    rw[← h1,← nI_take,show ∀ (L:List Int) (k:Nat),ints (L.take k)=(ints L).take k from fun L k=>List.map_take]
    exact rd_take h2 _
   have Hle:Hid ((limbs (dval (lb s))).length≤c):=by
    show _≤_
    have h1:=limbs_len_le (digs9 (dval (lb s)) j) (digs9_pcs _ _)
    rw[hv,hjl] at h1;omega
   have HB:=hd_ HC.out.bel
   clear hv hjl hcap he HX HC
   go_wp2_with fail
   refine cm_ HT.out ?_
   rintro e_ w1 ⟨rfl,hb⟩
   have B1:=hd_ (HB.out.trans (hb.mono HB.out.size))
   have R1:=hd_ (HR.out.below hb nr_)
   clear hb HT
   go_wp2_with fail
   go_ret
   exact⟨a,c,rfl,R1.out,Hle.out,B1.out⟩
theorem dec_join{y u:Nat}{x:List UInt8}(hy:0<y)(hd:Digs x)(hl:x.length=9)(hv:dval x=u):Lib.decDigits (u+1000000000*y)=Lib.decDigits y++x:=by
 have h1:=dec_canon y
 have hc:Canon (Lib.decDigits y++x):=by
  refine⟨fun c hc=>?_,fun e=>h1.2.1 (List.append_eq_nil_iff.1 e).1,.inr ?_⟩
  ·rcases List.mem_append.1 hc with h | h
   ·exact h1.1 c h
   ·exact hd c h
  ·rcases h1.2.2 with h2 | h2
   ·have h3:Lib.decDigits y=[UInt8.ofNat (48+y)]:=by
     refine dec_small ?_
     have:=(dec_length y 1 (by decide)).1 (by omega)
     simpa using this
    have h4:y<10:=by
     have:=(dec_length y 1 (by decide)).1 (by omega)
     simpa using this
    rw[h3]
    intro h5
    simp only[List.singleton_append,List.head?_cons,Option.some.injEq] at h5
    have h6:=congrArg UInt8.toNat h5
    simp only[UInt8.toNat_ofNat'] at h6
    have h7:(48:UInt8).toNat=48:=rfl
    omega
   ·cases e:Lib.decDigits y with
    | nil=>exact absurd e h1.2.1
    | cons c t=>rw[e] at h2;exact h2
 rw[canon_dec hc,dval_append,dval_dec,hl,hv]
 congr 1
 omega
theorem val_pos{L:List Nat}(h:L=[]∨L.getD (L.length-1) 0≠0):∀ d k,L.length=k+d+1→0<val (L.drop k)
 | 0,k,hk=>by
  have h1:=val_drop L k (by omega)
  rcases h with h|h
  ·rw[h] at hk;simp at hk
  ·rw[show L.length-1=k by omega] at h
   omega
 | d+1,k,hk=>by
  have h1:=val_drop L k (by omega)
  have h2:=val_pos h d (k+1) (by omega)
  omega
theorem dec_add_txt{y u:Nat}{X:ByteArray}(hy:0<y)(hd:Digs (lb X))(hl:X.size=9)(hv:dval (lb X)=u):dec y++X=dec (u+1000000000*y):=by
 have h:=dec_join hy hd (by rw[lb_length];exact hl) hv
 have e:lb (dec y++X)=lb (dec (u+1000000000*y)):=by
  rw[lb_dec,h]
  unfold lb
  rw[ByteArray.data_append,Array.toList_append]
  rw[show (dec y).data.toList=Lib.decDigits y from lb_dec y]
 rw[← bs_lb (dec y++X),e,bs_lb]
theorem dec_val_size{L:List Nat}(hp:Pcs L)(k:Nat):(dec (val (L.drop k))).size≤9*L.length+1:=by
 rw[dec_size]
 refine(dec_length _ _ (by omega)).2 ?_
 have h1:=val_lt (l:=L.drop k) (fun x hx=>hp x (List.mem_of_mem_drop hx))
 refine Nat.lt_of_lt_of_le h1 ?_
 rw[show (1000000000:Nat)^(L.drop k).length=10^(9*(L.drop k).length) by rw[Nat.pow_mul]]
 exact Nat.pow_le_pow_right (by decide) (by rw[List.length_drop];omega)
theorem join2_any(w:World)(a:Option Addr)(c:Nat)(l:List Nat)(hr:Rd w a (ints (nI l)))(hp:Pcs l)(hl:l.length≤1000000)(hz:l=[]∨l.getD (l.length-1) 0≠0)(L:Laid w):
  Gives Tryz.prog 187 #[.slice a l.length c] w (.string (dec (val l))):=by
 unfold Gives
 by_cases h0:l.length=0
 ·obtain rfl:l=[]:=List.length_eq_zero_iff.1 h0
  rw[show dec (val [])=⟨#[48]⟩ by rw[← zero_txt.1];exact(itx_nat 0).symm]
  rw[List.length_nil]
  clear hr
  go_enter Tryz.func187,Tryz.ntmps187
  go_wp2_with fail
  go_ret
  exact⟨rfl,Below.refl _ _⟩
 ·obtain⟨n,hn⟩:∃ n,l.length=n+1:=⟨l.length-1,by omega⟩
  obtain⟨b,off,rfl,hb,hcells⟩:=nI_cell hr 0 (by omega)
  have Hc:=hd_ (fun W (hW:Below w.heap.size w W) i (hi:i<n+1)=>show W.cell? ⟨b,off+i,none⟩=some (.int .i64 (l.getD i 0:Nat)) from by
   rw[hW.cell (p:=⟨b,off+i,none⟩) hb];exact hcells i (by omega))
  have HI:=hd_ (fun W (hW:Below w.heap.size w W) i=>show Gives Tryz.prog 144 #[.int .i64 (l.getD i 0:Nat)] W (.string (dec (l.getD i 0))) from by
   have h9:=hp.getD i
   have:=itoa_any W ((l.getD i 0:Nat):Int) (by omega) (by omega) (L.below hW)
   rw[itx_nat] at this;exact this)
  have Hv0:Hid (val (l.drop n)=l.getD n 0):=by
   show _=_
   rw[val_drop l n (by omega),List.drop_eq_nil_of_le (by omega)]
   show _+1000000000*0=_
   omega
  have Hvs:=hd_ (fun k (hk:k<n+1)=>val_drop l k (by omega))
  have Hvp:=hd_ (fun k (hk:k<n+1)=>val_pos hz (n-k) k (by omega))
  have Hsz:=hd_ (fun k=>dec_val_size hp k)
  have Hp9:=hd_ (fun i=>hp.getD i)
  have Hd0:Hid (l.drop 0=l):=List.drop_zero
  rw[hn] at Hsz hl ⊢
  have hn1:(((n+1:Nat):Int)==0)=false:=by rw[beq_eq_false_iff_ne];omega
  have hn1':(((n:Int)+1)==0)=false:=by rw[beq_eq_false_iff_ne];omega
  have ew:IntKind.i64.wrap ((n:Int)+1-1)=(n:Nat):=by rw[show (n:Int)+1-1=n by omega];exact iw_ _ (by omega)
  have ew2:IntKind.i64.wrap ((n:Int)+1-2)=(n:Int)-1:=by rw[show (n:Int)+1-2=(n:Int)-1 by omega];exact iw_ _ (by omega)
  have cx:=Hc.out w (Below.refl _ _) n (by omega)
  have HIn:=hd_ (fun W hW=>HI.out W hW n)
  clear hr hp hz L h0 hcells hn
  obtain⟨u0,hu0⟩:∃ u0,l.getD n 0=u0:=⟨_,rfl⟩
  rw[hu0] at cx HIn Hv0
  clear hu0
  go_enter Tryz.func187,Tryz.ntmps187
  go_wp2_with fail
  refine cm_ (HIn.out _ (Below.refl _ _)) ?_
  rintro e_ w1 ⟨rfl,hb1⟩
  have B1:=hd_ hb1
  clear hb1 cx HIn
  go_wp2_with fail
  have hst:dec u0=dec (val (l.drop n)):=by rw[Hv0.out]
  rw[hst]
  clear hst Hv0
  go_loopw [3,4] (fun s i wr=>∃ k:Nat,k≤n∧s = .string (dec (val (l.drop k)))∧i = .int .i64 ((k:Int)-1)∧Hid (Below w.heap.size w wr)) (fun _ i _=>(intOf i+1).toNat)
  case atStart=>exact⟨n,Nat.le_refl _,rfl,rfl,B1⟩
  case round =>
   obtain⟨k,hk,rfl,rfl,B⟩:=hrel
   by_cases hk0:k=0
   ·subst hk0
    have hneg:¬ (0:Int)≤((0:Nat):Int)-1:=by omega
    have hneg2:¬ (0:Int) ≤ -1:=by omega
    rw[Hd0.out]
    go_wp2_with fail
    go_ret
    exact⟨rfl,B.out⟩
   ·obtain⟨q,rfl⟩:∃ q,k=q+1:=⟨k-1,by omega⟩
    have ei:((q+1:Nat):Int)-1=(q:Int):=by omega
    rw[ei]
    have cq:=Hc.out wr B.out q (by omega)
    have ew3:IntKind.i64.wrap ((q:Int)-1)=(q:Int)-1:=iw_ _ (by omega)
    have hvq:=Hvs.out q (by omega)
    have Hvq:=hd_ hvq
    have Hyp:=hd_ (Hvp.out (q+1) (by omega))
    have hsy:=Hsz.out (q+1)
    have hu9:=Hp9.out q
    have hIq:=hd_ (fun W hW=>HI.out W hW q)
    clear hvq ei
    generalize l.getD q 0=u at *
    obtain⟨y,hy⟩:∃ y,val (l.drop (q+1))=y:=⟨_,rfl⟩
    rw[hy] at Hyp hsy Hvq ⊢
    have hu2:(dec u).size≤9:=by
     rw[dec_size];exact(dec_length u 9 (by decide)).2 hu9
    have Hud:Hid (Digs (lb (dec u))):=by show Digs _;rw[lb_dec];exact dec_digs u
    have Huv:Hid (dval (lb (dec u))=u):=by show _=_;rw[lb_dec];exact dval_dec u
    clear hy
    go_wp2_with fail
    refine cm_ (hIq.out _ B.out) ?_
    rintro e_ w2 ⟨rfl,hb2⟩
    have B2:=hd_ (B.out.trans (hb2.mono B.out.size))
    clear hb2 B cq hIq
    go_wp2_with fail
    go_loopw [5] (fun x w'=>∃ X:ByteArray,x = .string X∧X.size≤9∧Hid (Digs (lb X))∧Hid (dval (lb X)=u)∧Hid (w'=w2)) (fun x _=>match x with | .string X=>9-X.size | _=>0)
    case atStart=>exact⟨dec u,rfl,hu2,Hud,Huv,rfl⟩
    case round =>
     obtain⟨X,rfl,hX,Hxd,Hxv,Hww⟩:=hrel
     have hww:=Hww.out
     subst hww
     clear Hww
     by_cases h9:X.size<9
     ·have h9':(X.size:Int)<9:=by omega
      have hX2:lb (⟨#[48]⟩++X)=48::lb X:=by
       unfold lb
       rw[ByteArray.data_append,Array.toList_append];rfl
      have hXs:(⟨#[48]⟩++X:ByteArray).size=X.size+1:=by rw[← lb_length,hX2,List.length_cons,lb_length]
      have HX2:=hd_ hX2
      have HXs:=hd_ hXs
      clear hX2 hXs
      go_wp2_with fail
      refine⟨⟨⟨#[48]⟩++X,rfl,by rw[HXs.out];omega,?_,?_,trivial⟩,?_⟩
      ·show Digs _
       rw[HX2.out]
       intro c hc
       rcases List.mem_cons.1 hc with rfl|h
       ·exact⟨by decide,by decide⟩
       ·exact Hxd.out c h
      ·show _=_
       rw[HX2.out,dval_cons,Hxv.out]
       show (48-48)*_+u=u
       omega
      ·show 9-(⟨#[48]⟩++X:ByteArray).size<9-X.size
       rw[HXs.out];omega
     ·have h9':¬ (X.size:Int)<9:=by omega
      have HT:Hid (dec y++X=dec (val (l.drop q))):=by
       show _=_
       rw[Hvq.out]
       exact dec_add_txt Hyp.out Hxd.out (by omega) Hxv.out
      go_wp2_with fail
      refine⟨⟨q,by omega,by rw[HT.out],rfl,B2⟩,by simp[intOf]⟩
theorem limbs_top2(n:Nat):limbs n=[]∨(limbs n).getD ((limbs n).length-1) 0≠0:=by
 induction n using Nat.strongRecOn with
 | ind n ih =>
  by_cases h:n=0
  ·left;subst h;exact limbs_zero
  ·right
   have e:limbs n=n%1000000000::limbs (n/1000000000):=by rw[limbs,dif_neg h]
   have h1:=ih (n/1000000000) (Nat.div_lt_self (by omega) (by decide))
   rw[e]
   rcases h1 with h2|h2
   ·rw[h2]
    have h3:=val_limbs (n/1000000000)
    rw[h2] at h3
    have h4:n/1000000000=0:=h3.symm
    show n%1000000000≠0
    omega
   ·cases e2:limbs (n/1000000000) with
    | nil=>rw[e2] at h2;exact absurd rfl h2
    | cons x t=>rw[e2] at h2;exact h2
theorem signed2_any(w:World)(a:Option Addr)(c:Nat)(l:List Nat)(hr:Rd w a (ints (nI l)))(hp:Pcs l)(hl:l.length≤1000000)(hc:l.length≤c)(L:Laid w):
  Gives Tryz.prog 119 #[.bool false,.slice a l.length c] w (.string (dec (val l))):=by
 unfold Gives
 have HT:=hd_ (trim2_any w a c l hr hp hl hc)
 have HJ:=hd_ (fun W (hW:Below w.heap.size w W)=>show Gives Tryz.prog 187 #[.slice a (limbs (val l)).length c] W (.string (dec (val l))) from by
  have h1:=limbs_prefix l hp
  have h2:Rd w a (ints (nI (limbs (val l)))):=by
   rw[← h1,← nI_take,show ∀ (L:List Int) (k:Nat),ints (L.take k)=(ints L).take k from fun L k=>List.map_take]
   exact rd_take hr _
  have h3:=limbs_len_le l hp
  have h4:=join2_any W a c (limbs (val l)) (h2.below hW nr_) (limbs_pcs _) (by omega) (limbs_top2 _) (L.below hW)
  rw[val_limbs] at h4
  exact h4)
 clear hr hp hl hc L
 generalize (limbs (val l)).length=m at *
 generalize l.length=n at *
 generalize dec (val l)=s at *
 go_enter Tryz.func119,Tryz.ntmps119
 go_wp2_with fail
 refine cm_ HT.out ?_
 rintro e_ w1 ⟨rfl,hb⟩
 have B1:=hd_ hb
 clear hb HT
 go_wp2_with fail
 refine cm_ (HJ.out _ B1.out) ?_
 rintro e_ w2 ⟨rfl,hb⟩
 have B2:=hd_ (B1.out.trans (hb.mono B1.out.size))
 clear hb HJ B1
 go_wp2_with fail
 go_ret
 exact⟨rfl,B2.out⟩
def OwnN (w:World) (B:Nat) (a:Option Addr) (c:Nat) (l:List Nat):Prop:=OwnI w B a c (nI l)
theorem OwnN.open{w:World}{B c:Nat}{a:Option Addr}{l:List Nat}(h:OwnN w B a c l)(hn:0<l.length):
  ∃ g,a=some ⟨g,0,none⟩∧B≤g∧g<w.heap.size∧l.length≤c∧(∀ j,j<l.length→w.cell? ⟨g,j,none⟩=some (.int .i64 (l.getD j 0:Nat)))∧(∀ j,w.frozen? ⟨g,j,none⟩=false):=by
 obtain⟨g,cap,hv,h1,h2,h3,h4,h5⟩:=own_open h (by rw[nI_length];exact hn)
 simp only[Value.slice.injEq] at hv
 obtain⟨rfl,-,rfl⟩:=hv
 rw[nI_length] at h3 h4
 refine⟨g,rfl,h1,h2,h3,fun j hj=>?_,h5⟩
 have h6:j<(nI l).length:=by rw[nI_length];exact hj
 rw[h4 j (by omega),ints_get (nI l) j h6,nI_get l j hj h6]
theorem OwnN.store{w:World}{B c g:Nat}{l:List Nat}(h:OwnN w B (some ⟨g,0,none⟩) c l)(j x:Nat):
  OwnN (w.setCell ⟨g,j,none⟩ (.int .i64 (x:Nat))) B (some ⟨g,0,none⟩) c (l.set j x):=by
 have:=(World.ownsRow.stored h j (.int .i64 (x:Nat))).1
 unfold OwnN OwnI
 rw[← nI_set,List.length_set,show ints ((nI l).set j (x:Int))=(ints (nI l)).set j (.int .i64 x) by simp[ints,List.map_set]]
 exact this
theorem OwnN.below{w w':World}{B c:Nat}{a:Option Addr}{l:List Nat}(h:OwnN w B a c l){D:Nat}(hb:Below D w w')(hD:w.heap.size≤D):OwnN w' B a c l:=OwnI.below h hb hD
theorem OwnN.rd{w:World}{B c:Nat}{a:Option Addr}{l:List Nat}(h:OwnN w B a c l):Rd w a (ints (nI l)):=OwnI.rd h
theorem own_madeN(w:World)(l:List Nat)(hl:l.length≤100000000):OwnN (w.alloc (.cells (ints (nI l)).toArray 3)) w.heap.size (some ⟨w.heap.size,0,none⟩) l.length l :=
 ⟨by simp[ints_length],.inr ⟨w.heap.size,(nI l).length,(ints (nI l)).toArray,by rw[nI_length],Nat.le_refl _,heap_alloc_new _ _,Nat.le_refl _,by rw[nI_length];unfold maxLen;omega,by simp[ints_length],by rw[Nat.mul_one];exact List.take_of_length_le (by simp[ints_length])⟩⟩
theorem made_zerosN(n:Nat):(madeCells #[.int .i64 0] n)=(ints (nI (List.replicate n 0))).toArray:=by
 apply Array.ext'
 rw[toList_madeCells_one]
 simp[ints,nI]
theorem made_N(n:Nat)(w:World)(hn:n≤100000000):
  (Instr.makeSlice 35 (.int .i64 (n:Int)) (.int .i64 (n:Int))).run Tryz.prog w = .ok (.slice (some ⟨w.heap.size,0,none⟩) n n) (w.alloc (.cells (ints (nI (List.replicate n 0))).toArray 3)):=by
 have:=run_make_row' (P:=Tryz.prog) 35 3 (.int .i64 0) 8 Tryz.underlying35 infoP rfl .i64 .i64 n (by omega) (by omega) w
 rw[made_zerosN] at this
 exact this
structure TuO (p q:List Nat) (B k:Nat) (L:List Nat) (w wr:World):Prop where
 len:L.length=p.length+q.length+1
 pcs:Pcs L
 v:val L=val (p.take k)*val q
 z:∀ j,k+q.length≤j→L.getD j 0=0
 own:OwnN wr B (some ⟨B,0,none⟩) (p.length+q.length+1) L
 bel:Below B w wr
structure TuI (p q L:List Nat) (B i m cc:Nat) (M:List Nat) (w wr:World):Prop where
 len:M.length=p.length+q.length+1
 pcs:Pcs M
 v:val M+1000000000^(i+m)*cc=val L+1000000000^i*(p.getD i 0*val (q.take m))
 z:∀ j,i+q.length≤j→M.getD j 0=0
 own:OwnN wr B (some ⟨B,0,none⟩) (p.length+q.length+1) M
 bel:Below B w wr
theorem times2_any(w:World)(a1 a2:Option Addr)(c1 c2:Nat)(p q:List Nat)(h1:Rd w a1 (ints (nI p)))(h2:Rd w a2 (ints (nI q)))(p1:Pcs p)(p2:Pcs q)(l1:p.length≤400000)(l2:q.length≤400000):
  GivesN 121 #[.slice a1 p.length c1,.slice a2 q.length c2] w (val p*val q):=by
 unfold GivesN
 have H1:=hd_ h1
 have H2:=hd_ h2
 have P1:=hd_ p1
 have P2:=hd_ p2
 clear h1 h2 p1 p2
 obtain⟨n,hn⟩:∃ n,p.length=n:=⟨_,rfl⟩
 obtain⟨m,hm⟩:∃ m,q.length=m:=⟨_,rfl⟩
 rw[hn] at l1 ⊢
 rw[hm] at l2 ⊢
 have Hn:=hd_ hn
 have Hm:=hd_ hm
 clear hn hm
 have hmk:=made_N (n+m+1) w (by omega)
 have Hown:=hd_ (own_madeN w (List.replicate (n+m+1) 0) (by simp;omega))
 have Hb:=hd_ ((Below.refl w.heap.size w).alloc nr_ (.cells (ints (nI (List.replicate (n+m+1) 0))).toArray 3))
 push_cast at hmk
 have e1:IntKind.i64.wrap ((n:Int)+m)=(n:Int)+m:=iw_ _ (by omega)
 have e2:IntKind.i64.wrap ((n:Int)+m+1)=(n:Int)+m+1:=iw_ _ (by omega)
 generalize w.alloc (.cells (ints (nI (List.replicate (n+m+1) 0))).toArray 3)=w5 at *
 go_enter Tryz.func121,Tryz.ntmps121
 go_wp2_with fail
 go_loopw [6] (fun i wr=>∃ (k:Nat) (L:List Nat),k≤n∧i = .int .i64 k∧Hid (TuO p q w.heap.size k L w wr)) (fun i _=>n-(intOf i).toNat)
 case atStart =>
  refine⟨0,List.replicate (n+m+1) 0,Nat.zero_le _,rfl,?_⟩
  refine⟨by simp[Hn.out,Hm.out],Pcs.zeros _,by simp[val_zeros,val],fun j _=>?_,?_,Hb.out⟩
  ·rw[List.getD_eq_getElem?_getD,List.getElem?_replicate];split<;>rfl
  ·have:=Hown.out
   rw[List.length_replicate] at this
   rw[Hn.out,Hm.out];exact this
 case round =>
  obtain⟨k,L,hk,rfl,HT⟩:=hrel
  clear Hown Hb hmk
  by_cases hlt:k<n
  ·obtain⟨b1,o1,rfl,hb1,hc1⟩:=nI_cell H1.out k (by rw[Hn.out];exact hlt)
   have hlt':(k:Int)<n:=by omega
   go_wp2_with fail
   go_loopw [7,8] (fun c j wr=>∃ (t cc:Nat) (M:List Nat),cc<1000000000∧j = .int .i64 t∧c = .int .i64 cc∧((t≤m∧Hid (TuI p q L w.heap.size k t cc M w wr))∨(t=m+1∧cc=0∧Hid (TuO p q w.heap.size (k+1) M w wr)))) (fun _ j _=>m+1-(intOf j).toNat)
   case atStart =>
    refine⟨0,0,L,by omega,rfl,rfl,.inl ⟨Nat.zero_le _,?_⟩⟩
    exact⟨HT.out.len,HT.out.pcs,by simp[val],fun j hj=>HT.out.z j hj,HT.out.own,HT.out.bel⟩
   case round =>
    obtain⟨t,cc,M,hcc,rfl,rfl,hor⟩:=hrel
    rcases hor with⟨ht,HI⟩|⟨rfl,rfl,HO⟩
    ·obtain⟨g,hg,hg1,hg2,hg3,hg4,hg5⟩:=HI.out.own.open (by rw[HI.out.len];omega)
     obtain rfl:w.heap.size=g:=by simpa using hg
     clear hg
     by_cases hlt2:t<m
     ·have cx:=hc1 k (by rw[Hn.out];exact hlt)
      rw[← HI.out.bel.cell (p:=⟨b1,o1+k,none⟩) hb1] at cx
      have hx:=P1.out.getD k
      obtain⟨x,hxx⟩:∃ x,p.getD k 0=x:=⟨_,rfl⟩
      rw[hxx] at cx hx
      have Hxx:=hd_ hxx
      clear hxx
      obtain⟨b2,o2,rfl,hb2,hc2⟩:=nI_cell H2.out t (by rw[Hm.out];exact hlt2)
      have cy:=hc2 t (by rw[Hm.out];exact hlt2)
      rw[← HI.out.bel.cell (p:=⟨b2,o2+t,none⟩) hb2] at cy
      have hy:=P2.out.getD t
      have ce:=hg4 (k+t) (by rw[HI.out.len,Hn.out,Hm.out];omega)
      have he:=HI.out.pcs.getD (k+t)
      have fe:=hg5 (k+t)
      have hxy:=mul_lt hx hy
      have hstep:=times_step M q k t x cc (val L) (by rw[Hm.out];exact hlt2) (by rw[HI.out.len,Hn.out,Hm.out];omega) (by have:=HI.out.v;rw[Hxx.out] at this;exact this)
      have HI2:Hid (∀ nq,TuI p q L w.heap.size k (t+1) ((cc+(M.getD (k+t) 0+x*q.getD t 0))/1000000000) (M.set (k+t) ((cc+(M.getD (k+t) 0+x*q.getD t 0))%1000000000)) w ((wr.drewN nq).setCell ⟨w.heap.size,k+t,none⟩ (.int .i64 ((cc+(M.getD (k+t) 0+x*q.getD t 0))%1000000000:Nat)))) :=
       fun nq=>⟨by rw[List.length_set];exact HI.out.len,HI.out.pcs.set _ _ (Nat.mod_lt _ (by decide)),by rw[Hxx.out];exact hstep,fun j hj=>by rw[limb_set_ne _ _ _ _ (by have:=Hm.out;omega)];exact HI.out.z j hj,(HI.out.own.below (below_dn (Below.refl _ _) nq) nr_).store (k+t) _,(below_dn HI.out.bel nq).setCell (p:=⟨w.heap.size,k+t,none⟩) nr_ _⟩
      clear hstep hc2 hg4 hg5
      generalize M.getD (k+t) 0=e at *
      generalize q.getD t 0=y at *
      have hxyc:(x:Int)*(y:Int)=((x*y:Nat):Int):=by rw[Int.natCast_mul]
      generalize x*y=xy at *
      have hm1:IntKind.i64.wrap (xy:Int)=(xy:Int):=iw_ _ (by omega)
      have hm2:IntKind.i64.wrap ((e:Int)+(cc:Int))=(e:Int)+(cc:Int):=iw_ _ (by omega)
      have hm3:IntKind.i64.wrap ((e:Int)+(cc:Int)+(xy:Int))=(e:Int)+(cc:Int)+(xy:Int):=iw_ _ (by omega)
      have hk1:IntKind.i64.wrap ((k:Int)+(t:Int))=((k+t:Nat):Int):=by rw[← Int.natCast_add];exact iw_ _ (by have:=Hn.out;omega)
      have hk2:IntKind.i64.wrap ((t:Int)+1)=((t+1:Nat):Int):=by rw[← Int.natCast_succ];exact iw_ _ (by omega)
      have hd1:Int.tmod ((e:Int)+(cc:Int)+(xy:Int)) 1000000000=(((cc+(e+xy))%1000000000:Nat):Int):=by rw[Int.tmod_eq_emod_of_nonneg (by omega)];omega
      have hd1':((e:Int)+(cc:Int)+(xy:Int))%1000000000=(((cc+(e+xy))%1000000000:Nat):Int):=by omega
      have hd2:Int.tdiv ((e:Int)+(cc:Int)+(xy:Int)) 1000000000=(((cc+(e+xy))/1000000000:Nat):Int):=by rw[Int.tdiv_eq_ediv_of_nonneg (by omega)];omega
      have hd2':((e:Int)+(cc:Int)+(xy:Int))/1000000000=(((cc+(e+xy))/1000000000:Nat):Int):=by omega
      have hd3:(cc+(e+xy))/1000000000<1000000000:=by omega
      have hd4:(cc+(e+xy))%1000000000<1000000000:=Nat.mod_lt _ (by decide)
      generalize (cc+(e+xy))/1000000000=cd at *
      generalize (cc+(e+xy))%1000000000=d at *
      have hm4:IntKind.i64.wrap (cd:Int)=(cd:Int):=iw_ _ (by omega)
      have hm5:IntKind.i64.wrap (d:Int)=(d:Int):=iw_ _ (by omega)
      have hlt2':(t:Int)<m:=by omega
      clear HT HI
      go_wp2_with fail
      go_quiet (fail)
      go_wp2_with fail
      refine⟨⟨t+1,cd,_,hd3,by go_num,rfl,.inl ⟨by omega,HI2.out _⟩⟩,by simp[intOf];omega⟩
     ·obtain rfl:t=m:=by omega
      have fe:=hg5 (k+t)
      have ce:=hg4 (k+t) (by rw[HI.out.len,Hn.out,Hm.out];omega)
      have hz0:M.getD (k+t) 0=0:=HI.out.z _ (by rw[Hm.out];exact Nat.le_refl _)
      rw[hz0] at ce
      have hrow:=times_row L M p q k cc (by rw[Hn.out];exact hlt) (by rw[HI.out.len,Hn.out,Hm.out];omega) (by rw[Hm.out];exact hz0) HT.out.v (by rw[Hm.out];exact HI.out.v)
      rw[Hm.out] at hrow
      have hlt2':¬ (t:Int)<t:=by omega
      by_cases hc0:cc=0
      ·subst hc0
       have hset:M.set (k+t) 0=M:=by
        refine List.ext_getElem (by simp) fun i h1 h2=>?_
        by_cases hi:k+t=i
        ·subst hi
         rw[List.getElem_set_self]
         rw[List.getD_eq_getElem?_getD,List.getElem?_eq_getElem h2] at hz0
         exact hz0.symm
        ·rw[List.getElem_set_ne hi]
       rw[hset] at hrow
       have HO:Hid (TuO p q w.heap.size (k+1) M w wr):=⟨HI.out.len,HI.out.pcs,hrow,fun j hj=>HI.out.z j (by omega),HI.out.own,HI.out.bel⟩
       have hn0:¬ (0:Int)<0:=by omega
       clear hrow hg4 hg5 hlt2 HT hz0 hset HI
       go_wp2_with fail
       refine⟨⟨k+1,M,by omega,by go_num,HO⟩,by simp[intOf];omega⟩
      ·have hcp:(0:Int)<cc:=by omega
       have hk1:IntKind.i64.wrap ((k:Int)+(t:Int))=((k+t:Nat):Int):=by rw[← Int.natCast_add];exact iw_ _ (by have:=Hn.out;omega)
       have hk2:IntKind.i64.wrap ((t:Int)+1)=((t+1:Nat):Int):=by rw[← Int.natCast_succ];exact iw_ _ (by omega)
       have hm2:IntKind.i64.wrap (cc:Int)=(cc:Int):=iw_ _ (by omega)
       have hd1:Int.tmod (cc:Int) 1000000000=(cc:Int):=by rw[Int.tmod_eq_emod_of_nonneg (by omega)];omega
       have hd1':(cc:Int)%1000000000=(cc:Int):=by omega
       have hd2:Int.tdiv (cc:Int) 1000000000=0:=by rw[Int.tdiv_eq_ediv_of_nonneg (by omega)];omega
       have hd2':(cc:Int)/1000000000=0:=by omega
       have HO:Hid (TuO p q w.heap.size (k+1) (M.set (k+t) cc) w (wr.setCell ⟨w.heap.size,k+t,none⟩ (.int .i64 (cc:Nat)))) :=
        ⟨by rw[List.length_set];exact HI.out.len,HI.out.pcs.set _ _ hcc,hrow,fun j hj=>by rw[limb_set_ne _ _ _ _ (by have:=Hm.out;omega)];exact HI.out.z j (by omega),HI.out.own.store (k+t) cc,HI.out.bel.setCell (p:=⟨w.heap.size,k+t,none⟩) nr_ _⟩
       clear hrow hg4 hg5 hlt2 HT hz0 HI
       go_wp2_with fail
       refine⟨⟨t+1,0,_,by omega,by go_num,rfl,.inr ⟨rfl,rfl,HO⟩⟩,by simp[intOf]⟩
    ·have hlt2:¬ ((m:Int)+1<m):=by omega
     clear HT
     go_wp2_with fail
     refine⟨⟨k+1,M,by omega,by go_num,HO⟩,by simp[intOf];omega⟩
  ·obtain rfl:k=n:=by omega
   have hlt':¬ (k:Int)<k:=by omega
   have hv:val L=val p*val q:=by
    have:=HT.out.v
    rw[← Hn.out,List.take_length] at this
    exact this
   have hlen:L.length=k+m+1:=by rw[HT.out.len,Hn.out,Hm.out]
   have htr:=trim2_any wr (some ⟨w.heap.size,0,none⟩) (k+m+1) L HT.out.own.rd HT.out.pcs (by omega) (by omega)
   rw[hlen,hv] at htr
   have Htr:=hd_ htr
   have h3:=limbs_len_le L HT.out.pcs
   have h4:=limbs_prefix L HT.out.pcs
   rw[hv,hlen] at h3
   rw[hv] at h4
   have HR:Hid (Rd wr (some ⟨w.heap.size,0,none⟩) (ints (nI (limbs (val p*val q))))):=by
    show Rd _ _ _
    rw[← h4,← nI_take,show ∀ (L:List Int) (k:Nat),ints (L.take k)=(ints L).take k from fun L k=>List.map_take]
    exact rd_take HT.out.own.rd _
   have HB:=hd_ HT.out.bel
   have H3:=hd_ h3
   clear htr hv hlen h3 h4 HT
   push_cast at Htr
   go_wp2_with fail
   refine cm_ Htr.out ?_
   rintro e_ w6 ⟨rfl,hb6⟩
   have B6:=hd_ (HB.out.trans (hb6.mono HB.out.size))
   have R6:=hd_ (HR.out.below hb6 nr_)
   clear hb6 Htr
   go_wp2_with fail
   go_ret
   exact⟨some ⟨w.heap.size,0,none⟩,k+m+1,rfl,R6.out,H3.out,B6.out⟩
theorem split2_dec(w:World)(n:Nat)(hn:Num n):GivesN 122 #[.string (dec n)] w n:=by
 have h1:(dec n).size≤1000000:=hn
 have:=split2_any (dec n) w (by rw[lb_dec];exact dec_digs n) (by omega)
 rw[show dval (lb (dec n))=n from by rw[lb_dec];exact dval_dec n] at this
 exact this
theorem limbs_num(n:Nat)(hn:Num n):(limbs n).length≤400000:=by
 have h:(dec n).size≤1000000:=hn
 obtain⟨k,hk⟩:∃ k,k=400000:=⟨_,rfl⟩
 rw[← hk,limbs_length]
 have h1:=(size_lt n (9*k) (by omega)).1 (by omega)
 rwa [Nat.pow_mul] at h1
theorem mul2_dec(w:World)(x y:Nat)(hx:Num x)(hy:Num y)(L:Laid w):
  Gives Tryz.prog 44 #[.string (dec x),.string (dec y)] w (.string (dec (x*y))):=by
 unfold Gives
 have hx1:(dec x).size≤1000000:=hx
 have hy1:(dec y).size≤1000000:=hy
 have D1:=hd_ fun w:World=>digits2_dec w x
 have D2:=hd_ fun w:World=>digits2_dec w y
 by_cases hs:(dec x).size+(dec y).size≤18
 ·have Q1:=hd_ fun w:World=>quick2_dec w x
  have Q2:=hd_ fun w:World=>quick2_dec w y
  rw[if_pos (by omega)] at Q1 Q2
  have d1:=(dec_length x (dec x).size (by rw[dec_size];exact dec_pos x)).1 (by rw[dec_size];exact Nat.le_refl _)
  have d2:=(dec_length y (dec y).size (by rw[dec_size];exact dec_pos y)).1 (by rw[dec_size];exact Nat.le_refl _)
  have d3:x*y<10^((dec x).size+(dec y).size):=by rw[Nat.pow_add];exact Nat.mul_lt_mul_of_lt_of_lt d1 d2
  have d4:10^((dec x).size+(dec y).size)≤10^18:=Nat.pow_le_pow_right (by decide) hs
  have d5:x*y<1000000000000000000:=by omega
  have hw1:IntKind.i64.wrap ((x:Int)*(y:Int))=((x*y:Nat):Int):=by rw[← Int.natCast_mul];exact iw_ _ (by omega)
  have HOf:=hd_ fun (W:World) (hW:Below w.heap.size w W)=>of2_any W ((x*y:Nat):Int) (by omega) (by omega) (L.below hW)
  rw[itx_nat] at HOf
  have hs':((dec x).size:Int)+(dec y).size≤18:=by omega
  clear d1 d2 d3 d4 d5 hx hy hx1 hy1 L
  generalize dec (x*y)=r at *
  generalize x*y=u at *
  generalize dec x=s1 at *
  generalize dec y=s2 at *
  go_enter Tryz.func44,Tryz.ntmps44
  go_wp2_with fail
  refine cm_ (D1.out _) ?_
  rintro e w1 ⟨rfl,hb1⟩
  have Hb1:=hd_ hb1
  clear hb1
  go_wp2_with fail
  refine cm_ (D2.out _) ?_
  rintro e w2 ⟨rfl,hb2⟩
  have Hb2:=hd_ (Hb1.out.trans (hb2.mono Hb1.out.size))
  clear hb2 Hb1
  go_wp2_with fail
  refine Calls.mono (Q1.out _) ?_
  rintro e w3 ⟨rfl,hb3⟩
  have Hb3:=hd_ (Hb2.out.trans (hb3.mono Hb2.out.size))
  clear hb3 Hb2
  go_wp2_with fail
  refine Calls.mono (Q2.out _) ?_
  rintro e w4 ⟨rfl,hb4⟩
  have Hb4:=hd_ (Hb3.out.trans (hb4.mono Hb3.out.size))
  clear hb4 Hb3
  go_wp2_with fail
  refine cm_ (HOf.out _ Hb4.out) ?_
  rintro e w5 ⟨rfl,hb5⟩
  have Hb5:=hd_ (Hb4.out.trans (hb5.mono Hb4.out.size))
  clear hb5 Hb4
  go_wp2_with fail
  go_ret
  exact⟨rfl,Hb5.out⟩
 ·have hs':¬ ((dec x).size:Int)+(dec y).size≤18:=by omega
  have S1:=hd_ fun w:World=>side2_dec w x
  have S2:=hd_ fun w:World=>side2_dec w y
  have SP1:=hd_ fun w:World=>split2_dec w x hx
  have SP2:=hd_ fun w:World=>split2_dec w y hy
  unfold GivesN at SP1 SP2
  have HT:=hd_ fun (W:World) (a1 a2:Option Addr) (c1 c2:Nat) (h1:Rd W a1 (ints (nI (limbs x)))) (h2:Rd W a2 (ints (nI (limbs y))))=>times2_any W a1 a2 c1 c2 (limbs x) (limbs y) h1 h2 (limbs_pcs _) (limbs_pcs _) (limbs_num x hx) (limbs_num y hy)
  rw[val_limbs,val_limbs] at HT
  unfold GivesN at HT
  have hnl:(limbs (x*y)).length≤1000000:=by
   have h1:=limbs_mul_le x y
   have h2:=limbs_num x hx
   have h3:=limbs_num y hy
   omega
  have HG:=hd_ fun (W:World) (a:Option Addr) (c:Nat) (h:Rd W a (ints (nI (limbs (x*y))))) (hc:(limbs (x*y)).length≤c) (LW:Laid W)=>signed2_any W a c (limbs (x*y)) h (limbs_pcs _) hnl hc LW
  rw[val_limbs] at HG
  have HL:=hd_ L
  clear hx hy L hnl
  generalize dec (x*y)=r at *
  generalize dec x=s1 at *
  generalize dec y=s2 at *
  obtain⟨lp,hlp⟩:∃ lp,(limbs x).length=lp:=⟨_,rfl⟩
  obtain⟨lq,hlq⟩:∃ lq,(limbs y).length=lq:=⟨_,rfl⟩
  obtain⟨lr,hlr⟩:∃ lr,(limbs (x*y)).length=lr:=⟨_,rfl⟩
  rw[hlp] at SP1 HT
  rw[hlq] at SP2 HT
  rw[hlr] at HT HG
  clear hlp hlq hlr
  go_enter Tryz.func44,Tryz.ntmps44
  go_wp2_with fail
  refine cm_ (D1.out _) ?_
  rintro e w1 ⟨rfl,hb1⟩
  have Hb1:=hd_ hb1
  clear hb1
  go_wp2_with fail
  refine cm_ (D2.out _) ?_
  rintro e w2 ⟨rfl,hb2⟩
  have Hb2:=hd_ (Hb1.out.trans (hb2.mono Hb1.out.size))
  clear hb2 Hb1
  go_wp2_with fail
  refine cm_ (S1.out _) ?_
  rintro e w3 ⟨rfl,hb3⟩
  have Hb3:=hd_ (Hb2.out.trans (hb3.mono Hb2.out.size))
  clear hb3 Hb2
  go_wp2_with fail
  refine cm_ (S2.out _) ?_
  rintro e w4 ⟨rfl,hb4⟩
  have Hb4:=hd_ (Hb3.out.trans (hb4.mono Hb3.out.size))
  clear hb4 Hb3
  go_wp2_with fail
  refine cm_ (D1.out _) ?_
  rintro e w5 ⟨rfl,hb5⟩
  have Hb5:=hd_ (Hb4.out.trans (hb5.mono Hb4.out.size))
  clear hb5 Hb4
  go_wp2_with fail
  refine cm_ (SP1.out _) ?_
  rintro e w6 ⟨a1,c1,rfl,r1,hc1,hb6⟩
  have Hb6:=hd_ (Hb5.out.trans (hb6.mono Hb5.out.size))
  have R1:=hd_ r1
  clear hb6 Hb5 r1 hc1
  go_wp2_with fail
  refine cm_ (D2.out _) ?_
  rintro e w7 ⟨rfl,hb7⟩
  have Hb7:=hd_ (Hb6.out.trans (hb7.mono Hb6.out.size))
  replace R1:=hd_ (R1.out.below hb7 nr_)
  clear hb7 Hb6
  go_wp2_with fail
  refine cm_ (SP2.out _) ?_
  rintro e w8 ⟨a2,c2,rfl,r2,hc2,hb8⟩
  have Hb8:=hd_ (Hb7.out.trans (hb8.mono Hb7.out.size))
  replace R1:=hd_ (R1.out.below hb8 nr_)
  have R2:=hd_ r2
  clear hb8 Hb7 r2 hc2
  go_wp2_with fail
  refine cm_ (HT.out _ a1 a2 c1 c2 R1.out R2.out) ?_
  rintro e w9 ⟨a3,c3,rfl,r3,hc3,hb9⟩
  have Hb9:=hd_ (Hb8.out.trans (hb9.mono Hb8.out.size))
  have R3:=hd_ r3
  have HC3:=hd_ hc3
  clear hb9 Hb8 r3 hc3 R1 R2 HT
  go_wp2_with fail
  refine cm_ (HG.out _ a3 c3 R3.out HC3.out (HL.out.below Hb9.out)) ?_
  rintro e w10 ⟨rfl,hb10⟩
  have Hb10:=hd_ (Hb9.out.trans (hb10.mono Hb9.out.size))
  clear hb10 Hb9
  go_wp2_with fail
  go_ret
  exact⟨rfl,Hb10.out⟩
theorem power2_dec(w:World)(b n:Nat)(hb:1≤b)(hN:Num (b^(2*n+2)))(hn:n≤1000000)(L:Laid w):
  Gives Tryz.prog 45 #[.string (dec b),.int .i64 n] w (.string (dec (b^n))):=by
 unfold Gives
 have HN:Hid (∀ k,k≤2*n+2→Num (b^k)):=fun k hk=>Nat.le_trans (dec_mono (Nat.pow_le_pow_right hb hk)) hN
 have HM:=hd_ fun (W:World) (x y:Nat) (hx:x≤2*n+2) (hy:y≤2*n+2) (hW:Below w.heap.size w W)=>mul2_dec W (b^x) (b^y) (HN.out x hx) (HN.out y hy) (L.below hW)
 have H1:Hid (dec (b^0)=⟨#[49]⟩):=by show _=_;rw[Nat.pow_zero,dec_one]
 have Hb1:Hid (dec b=dec (b^1)):=by show _=_;rw[Nat.pow_one]
 clear hN L
 go_enter Tryz.func45,Tryz.ntmps45
 go_wp2_with fail
 go_loopw [0,1,5] (fun A m o wr=>∃ (k x y:Nat),A = .string (dec (b^y))∧m = .int .i64 k∧o = .string (dec (b^x))∧k≤n∧Hid (x+y*k=n)∧Hid (y≤2*n+2)∧Hid (Below w.heap.size w wr)) (fun _ m _ _=>(intOf m).toNat)
 case atStart =>
  refine⟨n,0,1,by rw[Hb1.out],rfl,by rw[H1.out],Nat.le_refl _,?_,?_,Below.refl _ _⟩
  ·show _=_;omega
  ·show _≤_;omega
 case round =>
  obtain⟨k,x,y,rfl,rfl,rfl,hk,Hxy,Hy,HB⟩:=hrel
  by_cases hk0:k=0
  ·subst hk0
   have hk1:¬ (0:Int)<((0:Nat):Int):=by omega
   have Hx2:Hid (x=n):=by show _=_;have:=Hxy.out;omega
   go_wp2_with fail
   go_ret
   exact⟨by rw[Hx2.out];rfl,HB.out⟩
  ·have hk1:(0:Int)<k:=by omega
   have Hx:Hid (x≤2*n+2):=by show _≤_;have:=Hxy.out;omega
   have Hyn:Hid (y≤n):=by
    show _≤_
    have:=Hxy.out
    have h2:y*1≤y*k:=Nat.mul_le_mul_left _ (by omega)
    omega
   have hdiv:Int.tdiv (k:Int) 2=((k/2:Nat):Int):=by rw[Int.tdiv_eq_ediv_of_nonneg (by omega)];omega
   have hdiv':(k:Int)/2=((k/2:Nat):Int):=by omega
   have hwd:IntKind.i64.wrap ((k/2:Nat):Int)=((k/2:Nat):Int):=iw_ _ (by omega)
   have Hsq:Hid (Gives Tryz.prog 44 #[.string (dec (b^y)),.string (dec (b^y))] wr (.string (dec (b^(y+y))))):=by
    have:=HM.out wr y y Hy.out Hy.out HB.out
    rw[← Nat.pow_add] at this
    exact this
   have Hev:Hid (x+(y+y)*(k/2)=n∨k%2=1):=by
    by_cases h:k%2=1
    ·exact .inr h
    ·refine .inl ?_
     have h1:=Hxy.out
     obtain⟨u,rfl⟩:∃ u,k=2*u:=⟨k/2,by omega⟩
     rw[show (2*u)/2=u by omega,Nat.add_mul]
     rw[Nat.mul_left_comm] at h1
     omega
   have Hod:Hid (k%2=1→x+y+(y+y)*(k/2)=n):=fun h=>by
    have h1:=Hxy.out
    obtain⟨u,rfl⟩:∃ u,k=2*u+1:=⟨k/2,by omega⟩
    rw[show (2*u+1)/2=u by omega,Nat.add_mul]
    rw[Nat.mul_add,Nat.mul_left_comm] at h1
    omega
   have Hlt:Hid (k/2<k∧k/2≤n):=⟨by omega,by omega⟩
   have Hh0:Hid (0<k/2→2*y≤n):=fun h=>by
    have:=Hxy.out
    have h2:y*2≤y*k:=Nat.mul_le_mul_left _ (by omega)
    omega
   have Hz:Hid (¬ 0<k/2→k=1):=fun h=>by omega
   by_cases hodd:k%2=1
   ·have hmod:Int.tmod (k:Int) 2=1:=by rw[Int.tmod_eq_emod_of_nonneg (by omega)];omega
    have hmod':(k:Int)%2=1:=by omega
    have Hmx:Hid (Gives Tryz.prog 44 #[.string (dec (b^x)),.string (dec (b^y))] wr (.string (dec (b^(x+y))))):=by
     have:=HM.out wr x y Hx.out Hy.out HB.out
     rw[← Nat.pow_add] at this
     exact this
    have Hsq2:Hid (∀ W,Below w.heap.size w W→Gives Tryz.prog 44 #[.string (dec (b^y)),.string (dec (b^y))] W (.string (dec (b^(y+y))))):=fun W hW=>by
     have:=HM.out W y y Hy.out Hy.out hW
     rw[← Nat.pow_add] at this
     exact this
    replace Hod:=hd_ (Hod.out hodd)
    clear hodd Hsq Hev
    generalize hh:k/2=h at *
    clear hh
    have HB0:=HB
    go_wp2_with fail
    refine cm_ Hmx.out ?_
    rintro e w5 ⟨rfl,hb5⟩
    have B5:=hd_ (HB.out.trans (hb5.mono HB.out.size))
    clear hb5 HB HB0 Hmx
    by_cases hh0:0<h
    ·have hh1:(0:Int)<h:=by omega
     have Hyy:Hid (y+y≤2*n+2):=by show _≤_;have:=Hyn.out;omega
     go_wp2_with fail
     refine cm_ (Hsq2.out _ B5.out) ?_
     rintro e w6 ⟨rfl,hb6⟩
     have B6:=hd_ (B5.out.trans (hb6.mono B5.out.size))
     clear hb6 B5 Hsq2
     go_wp2_with fail
     refine⟨⟨h,x+y,y+y,rfl,rfl,rfl,Hlt.out.2,Hod,Hyy,B6⟩,?_⟩
     have:=Hlt.out.1
     simp[intOf];omega
    ·have hh1:¬ (0:Int)<h:=by omega
     have Hxy2:Hid (x+y+y*h=n):=by
      show _=_
      have h1:=Hod.out
      obtain rfl:h=0:=by omega
      rw[Nat.mul_zero] at h1 ⊢
      exact h1
     go_wp2_with fail
     refine⟨⟨h,x+y,y,rfl,rfl,rfl,Hlt.out.2,Hxy2,Hy,B5⟩,?_⟩
     have:=Hlt.out.1
     simp[intOf];omega
   ·have hmod:Int.tmod (k:Int) 2=0:=by rw[Int.tmod_eq_emod_of_nonneg (by omega)];omega
    have hmod':(k:Int)%2=0:=by omega
    have Hxy2:Hid (x+(y+y)*(k/2)=n):=by
     rcases Hev.out with h|h
     ·exact h
     ·exact absurd h hodd
    have hh0:0<k/2:=by omega
    have hh1:(0:Int)<((k/2:Nat):Int):=by omega
    have Hyy:Hid (y+y≤2*n+2):=by show _≤_;have:=Hyn.out;omega
    clear hodd Hev Hod
    generalize hh:k/2=h at *
    clear hh
    go_wp2_with fail
    refine cm_ Hsq.out ?_
    rintro e w6 ⟨rfl,hb6⟩
    have B6:=hd_ (HB.out.trans (hb6.mono HB.out.size))
    clear hb6 HB Hsq
    go_wp2_with fail
    refine⟨⟨h,x,y+y,rfl,rfl,rfl,Hlt.out.2,Hxy2,Hyy,B6⟩,?_⟩
    have:=Hlt.out.1
    simp[intOf];omega
end Go.Proofs.YtnjedhgcfeoemaaGreatDoor
