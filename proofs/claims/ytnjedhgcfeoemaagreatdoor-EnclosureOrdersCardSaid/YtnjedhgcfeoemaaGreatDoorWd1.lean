/- Lemmas for the laws of this seat, part 1. -/
import Derived.WalkKit
import Derived.WalkSpells
import Derived.WalkLawsBesides
import Derived.Deep.QuietTactic
import Derived.BigQuiet
import Derived.Lib.Hide
import Derived.Lib.QuietBelow
import Derived.Shelf.Strings.Builder1
import Derived.Shelf.Strings.Builder2
import Derived.Shelf.Small.Bits
import Derived.Shelf.Strings.BuilderF
import Derived.Shelf.Strings.BuilderK
import Derived.Shelf.Strings.Builder2Cap
import Derived.Shelf.Strconv.Atoi
import Derived.Shelf.Strconv.Itoa0
import Derived.Shelf.Strconv.Itoa1
import Derived.Shelf.LaysM
import Derived.Shelf.Strconv.Itoa2
import Derived.Shelf.Strconv.Itoa3
import Derived.Shelf.Strconv.AtoiErrFast
import Derived.Shelf.Strconv.ParseIntEmpty
import Derived.Shelf.Strconv.AtoiFail
import Derived.Shelf.Strconv.Clone
import Derived.Shelf.Strconv.SyntaxError
import Derived.Shelf.LaysC
import Derived.Shelf.Strconv.ToError
import Derived.Shelf.Strconv.Lower
import Derived.Shelf.Strconv.ParseUint10
import Derived.Shelf.Strconv.ParseUint10Empty
import Derived.Shelf.Strconv.ParseUint10Any
import Derived.Shelf.Strconv.ParseInt10
import Derived.Shelf.Strconv.AtoiLong
import Derived.Shelf.Strconv.AtoiInnerAll
import Derived.Shelf.Strconv.RangeError
import Derived.Shelf.Strconv.ToErrorRange
import Derived.Shelf.Strconv.AtoiAll
import Derived.Shelf.Strconv.ParseUintEmpty
import Derived.Shelf.Strconv.ParseUint10b64
import Derived.Shelf.Strconv.ParseUint10b32
import Derived.Shelf.Strconv.ParseUint10b16
import Derived.Shelf.Strconv.ParseUint10b8
import Derived.Shelf.Strconv.ParseUint10At
import Derived.Shelf.Strconv.ParseInt10At64
import Derived.Shelf.Strconv.ParseInt10At32
import Derived.Shelf.Strconv.ParseInt10At16
import Derived.Shelf.Strconv.ParseInt10At8
import Derived.Shelf.Strconv.ParseInt10All
import Derived.Shelf.Strconv.ParseIntPublic10
import Derived.Ground.MpProg
import Derived.Shelf.Pu.ParseUintPublic10
import Derived.Shelf.Strings.Prefix
import Derived.Shelf.Bits.Mul64
import Derived.Shelf.Strings.Repeat
import Derived.Shelf.Strings.BuilderCap
import Derived.Ground.Names2Prog
import Derived.Shelf.Slices.Clone
import Derived.Test.YtnjedhgcfeoemaaGreatDoorProg
import Derived.Maps.AppendAt
import Derived.RangeFuncNested
import Derived.RangeFuncBound
import Derived.RangeFuncCalls
import Derived.RangeFuncLeaves
import Derived.Shelf.Abstract
import Derived.Shelf.RegionOpen
import Derived.OwnWalkIn
import Derived.TacticsInMore
import Derived.LoopNIn
import Derived.LoopIn
import Derived.Laws.BitsLemmas
import Derived.Laws.Bits64
import Derived.OrdersIn
import Derived.RegionIn
import Derived.BigRegionIn
import Derived.WalkMore
import Derived.Scope
import Derived.Great.BuildSlice
import Derived.Lib.SmallJoins
import Derived.Test.YtnjedhgcfeoemaaGreatDoorWb4
set_option maxRecDepth 100000
set_option maxHeartbeats 16000000
namespace Go.Proofs.YtnjedhgcfeoemaaGreatDoor
open Go.RowKit
theorem ints_append (l m:List Int):ints (l ++ m)=ints l ++ ints m:=by simp [ints]
end Go.Proofs.YtnjedhgcfeoemaaGreatDoor

/-
 DERIVED: THE SHELF's CONTRACTS AT THIS DUMP,IN PLAIN WORDS (tools/lay-plain.mjs out of 'TryzShelf.lean',which tools/lay-shelf.mjs wrote): THE SAME DECLARATIONS UNDER THE SAME NAMES: 'import','namespace','open','def','theorem' AND NOTHING ELSE: no command of the shelf's: FOR A HAND-IN. Each laying: the table of numbers ('.._ren') and one theorem,a field a fact of the dump's own or the kernel's comparison; each contract: ONE APPLICATION.
-/
namespace Go.Proofs
open Go.Shelf
def Tryz.laysC174_ren:Go.Shelf.Ren:=⟨fun | 174=>256 | 247=>227 | 245=>199 | 287=>245 | 279=>228 | 280=>229 | 281=>230 | 282=>231 | 321=>258 | 322=>259 | 316=>249 | 171=>144 | 205=>250 | 243=>200 | 246=>232 | 283=>251 | 284=>252 | 285=>253 | 286=>254 | 129=>191 | 317=>260 | 318=>261 | 319=>262 | 320=>263 | 337=>265 | 338=>266 | n=>n,fun | 9=>9 | 3=>3 | 2=>2 | 75=>200 | 85=>279 | 4=>4 | 167=>278 | 5=>5 | 53=>193 | 175=>267 | 46=>190 | 168=>281 | 37=>62 | 0=>0 | 210=>303 | 21=>21 | 127=>259 | 145=>314 | 143=>312 | 171=>305 | 173=>307 | 212=>317 | 51=>247 | 20=>20 | 213=>318 | 232=>319 | 233=>320 | 80=>219 | n=>n,fun | 15=>0 | 16=>1 | 17=>3 | 18=>4 | 19=>5 | n=>n⟩
theorem Tryz.laysC174:Go.Proofs.LaysC.n174 Tryz.prog Tryz.laysC174_ren:={
 mixed:=by kernel_rfl
 f129:=Tryz.func191.trans (congrArg some (by kernel_rfl))
 f171:=Tryz.func144.trans (congrArg some (by kernel_rfl))
 f174:=Tryz.func256.trans (congrArg some (by kernel_rfl))
 f205:=Tryz.func250.trans (congrArg some (by kernel_rfl))
 f243:=Tryz.func200.trans (congrArg some (by kernel_rfl))
 f245:=Tryz.func199.trans (congrArg some (by kernel_rfl))
 f246:=Tryz.func232.trans (congrArg some (by kernel_rfl))
 f247:=Tryz.func227.trans (congrArg some (by kernel_rfl))
 f279:=Tryz.func228.trans (congrArg some (by kernel_rfl))
 f280:=Tryz.func229.trans (congrArg some (by kernel_rfl))
 f281:=Tryz.func230.trans (congrArg some (by kernel_rfl))
 f282:=Tryz.func231.trans (congrArg some (by kernel_rfl))
 f283:=Tryz.func251.trans (congrArg some (by kernel_rfl))
 f284:=Tryz.func252.trans (congrArg some (by kernel_rfl))
 f285:=Tryz.func253.trans (congrArg some (by kernel_rfl))
 f286:=Tryz.func254.trans (congrArg some (by kernel_rfl))
 f287:=Tryz.func245.trans (congrArg some (by kernel_rfl))
 f316:=Tryz.func249.trans (congrArg some (by kernel_rfl))
 f317:=Tryz.func260.trans (congrArg some (by kernel_rfl))
 f318:=Tryz.func261.trans (congrArg some (by kernel_rfl))
 f319:=Tryz.func262.trans (congrArg some (by kernel_rfl))
 f320:=Tryz.func263.trans (congrArg some (by kernel_rfl))
 f321:=Tryz.func258.trans (congrArg some (by kernel_rfl))
 f322:=Tryz.func259.trans (congrArg some (by kernel_rfl))
 f337:=Tryz.func265.trans (congrArg some (by kernel_rfl))
 f338:=Tryz.func266.trans (congrArg some (by kernel_rfl))
 t0:=Tryz.underlying0
 a0:=Tryz.isAgg0
 z0:=Tryz.sizeOf0
 v0:=Tryz.zeroValue0
 t2:=Tryz.underlying2
 a2:=Tryz.isAgg2
 z2:=Tryz.sizeOf2
 v2:=Tryz.zeroValue2
 t3:=Tryz.underlying3
 a3:=Tryz.isAgg3
 z3:=Tryz.sizeOf3
 v3:=Tryz.zeroValue3
 t4:=Tryz.underlying4
 a4:=Tryz.isAgg4
 z4:=Tryz.sizeOf4
 v4:=Tryz.zeroValue4
 t5:=Tryz.underlying5
 a5:=Tryz.isAgg5
 z5:=Tryz.sizeOf5
 v5:=Tryz.zeroValue5
 t9:=Tryz.underlying9
 a9:=Tryz.isAgg9
 z9:=Tryz.sizeOf9
 v9:=Tryz.zeroValue9
 t20:=Tryz.underlying20
 a20:=Tryz.isAgg20
 z20:=Tryz.sizeOf20
 v20:=Tryz.zeroValue20
 t21:=Tryz.underlying21
 a21:=Tryz.isAgg21
 z21:=Tryz.sizeOf21
 v21:=Tryz.zeroValue21
 t37:=Tryz.underlying62
 a37:=Tryz.isAgg62
 z37:=Tryz.sizeOf62
 v37:=Tryz.zeroValue62
 t46:=Tryz.underlying190
 a46:=Tryz.isAgg190
 z46:=Tryz.sizeOf190
 v46:=Tryz.zeroValue190
 t51:=Tryz.underlying247
 a51:=Tryz.isAgg247
 z51:=Tryz.sizeOf247
 v51:=Tryz.zeroValue247
 t53:=Tryz.underlying193
 a53:=Tryz.isAgg193
 z53:=Tryz.sizeOf193
 v53:=Tryz.zeroValue193
 t75:=Tryz.underlying200
 a75:=Tryz.isAgg200
 z75:=Tryz.sizeOf200
 v75:=Tryz.zeroValue200
 t85:=Tryz.underlying279
 a85:=Tryz.isAgg279
 z85:=Tryz.sizeOf279
 v85:=Tryz.zeroValue279
 t127:=Tryz.underlying259
 a127:=Tryz.isAgg259
 z127:=Tryz.sizeOf259
 v127:=Tryz.zeroValue259
 t143:=Tryz.underlying312
 a143:=Tryz.isAgg312
 z143:=Tryz.sizeOf312
 v143:=Tryz.zeroValue312
 t145:=Tryz.underlying314
 a145:=Tryz.isAgg314
 z145:=Tryz.sizeOf314
 v145:=Tryz.zeroValue314
 t167:=Tryz.underlying278
 a167:=Tryz.isAgg278
 z167:=Tryz.sizeOf278
 v167:=Tryz.zeroValue278
 t168:=Tryz.underlying281
 a168:=Tryz.isAgg281
 z168:=Tryz.sizeOf281
 v168:=Tryz.zeroValue281
 t171:=Tryz.underlying305
 a171:=Tryz.isAgg305
 z171:=Tryz.sizeOf305
 v171:=Tryz.zeroValue305
 t173:=Tryz.underlying307
 a173:=Tryz.isAgg307
 z173:=Tryz.sizeOf307
 v173:=Tryz.zeroValue307
 t175:=Tryz.underlying267
 a175:=Tryz.isAgg267
 z175:=Tryz.sizeOf267
 v175:=Tryz.zeroValue267
 t210:=Tryz.underlying303
 a210:=Tryz.isAgg303
 z210:=Tryz.sizeOf303
 v210:=Tryz.zeroValue303
 t212:=Tryz.underlying317
 a212:=Tryz.isAgg317
 z212:=Tryz.sizeOf317
 v212:=Tryz.zeroValue317
 t213:=Tryz.underlying318
 a213:=Tryz.isAgg318
 z213:=Tryz.sizeOf318
 t232:=Tryz.underlying319
 a232:=Tryz.isAgg319
 z232:=Tryz.sizeOf319
 v232:=Tryz.zeroValue319
 t233:=Tryz.underlying320
 a233:=Tryz.isAgg320
 z233:=Tryz.sizeOf320
 v233:=Tryz.zeroValue320
 g15:=by kernel_rfl
 g16:=by kernel_rfl
 g17:=by kernel_rfl
 g18:=by kernel_rfl
 g19:=by kernel_rfl
 t80:=Tryz.underlying219
 a80:=Tryz.isAgg219
 z80:=Tryz.sizeOf219
 v80:=Tryz.zeroValue219
 i0:=by kernel_rfl
 i2:=by kernel_rfl
 i3:=by kernel_rfl
 i4:=by kernel_rfl
 i5:=by kernel_rfl
 i9:=by kernel_rfl
 i20:=by kernel_rfl
 i21:=by kernel_rfl
 i37:=by kernel_rfl
 i46:=by kernel_rfl
 i51:=by kernel_rfl
 i53:=by kernel_rfl
 i75:=by kernel_rfl
 i80:=by kernel_rfl
 i85:=by kernel_rfl
 i127:=by kernel_rfl
 i143:=by kernel_rfl
 i145:=by kernel_rfl
 i167:=by kernel_rfl
 i168:=by kernel_rfl
 i171:=by kernel_rfl
 i173:=by kernel_rfl
 i175:=by kernel_rfl
 i210:=by kernel_rfl
 i212:=by kernel_rfl
 i232:=by kernel_rfl
 i233:=by kernel_rfl
 m15:=by kernel_rfl
 m16:=by kernel_rfl
 m17:=by kernel_rfl
 m18:=by kernel_rfl
 m19:=by kernel_rfl
 c0:=by kernel_rfl
 c2:=by kernel_rfl
 c3:=by kernel_rfl
 c4:=by kernel_rfl
 c5:=by kernel_rfl
 c9:=by kernel_rfl
 c20:=by kernel_rfl
 c21:=by kernel_rfl
 c37:=by kernel_rfl
 c46:=by kernel_rfl
 c51:=by kernel_rfl
 c53:=by kernel_rfl
 c75:=by kernel_rfl
 c80:=by kernel_rfl
 c85:=by kernel_rfl
 c127:=by kernel_rfl
 c143:=by kernel_rfl
 c145:=by kernel_rfl
 c167:=by kernel_rfl
 c168:=by kernel_rfl
 c171:=by kernel_rfl
 c173:=by kernel_rfl
 c175:=by kernel_rfl
 c210:=by kernel_rfl
 c212:=by kernel_rfl
 c213:=by kernel_rfl
 c232:=by kernel_rfl
 c233:=by kernel_rfl }
open Go.RowKit in
theorem Tryz.strconv_ParseInt_10_at64_ok (s:ByteArray) (hmax:s.size≤9223372036854775806) (v:Int) (h:Lib.parseIntB 64 s.data.toList = .ok v) (w:World) :
  Calls Tryz.prog 256 #[.string s,.int .i64 10,.int .i64 64] w fun e w'=>e = .returned (.tuple #[.int .i64 v,.nilIface])∧(w'=w∨∃ t,w'=Lib.bytesWorld w 5 t):=Any.strconv_ParseInt_10_at64_ok Tryz.laysC174 s hmax v h w
open Go.RowKit in
theorem Tryz.strconv_ParseInt_10_at64_range (s:ByteArray) (hlim:s.size≤281474976710656) (h:Lib.parseIntB 64 s.data.toList = .range) (ev:Value) (w:World) (hv:w.cell? ⟨1,0,none⟩=some ev) (hev:ev = .nilIface∨∃ te pe,ev = .iface te pe) :
  Calls Tryz.prog 256 #[.string s,.int .i64 10,.int .i64 64] w fun e w'=>∃ N,e = .returned (.tuple #[.int .i64 (Lib.intSat 64 s.data.toList),.iface 281 (.pointer (some ⟨N,0,none⟩))])∧w.heap.size≤N∧w'.heap[N]?=some (.cells #[.string ⟨#[80,97,114,115,101,73,110,116]⟩,.string s,ev] 303 (0,0))∧Below w.heap.size w w':=Any.strconv_ParseInt_10_at64_range Tryz.laysC174 s hlim h ev w hv hev
end Go.Proofs

namespace Go.Proofs.YtnjedhgcfeoemaaGreatDoor
open Go.RowKit
theorem lcm_quot (a b:Nat) (ha:a≠0):a / Nat.gcd a b * b=Nat.lcm a b:=by
 have hg:0 < Nat.gcd a b:=Nat.gcd_pos_of_pos_left _ (by omega)
 obtain ⟨k,hk⟩:=Nat.gcd_dvd_left a b
 unfold Nat.lcm
 generalize Nat.gcd a b=g at *
 subst hk
 rw [Nat.mul_div_cancel_left _ hg,Nat.mul_assoc,Nat.mul_div_cancel_left _ hg]
theorem lcm_any (w:World) (a b:Nat) (ha:Num a) (hb:Num b) (L:Laid w) :
  Gives Tryz.prog 209 #[.string (dec a),.string (dec b)] w (.string (dec (Nat.lcm a b))):=by
 unfold Gives
 have hz1:=is_zero a
 have hz2:=is_zero b
 by_cases h1:a=0
 ·rw [decide_eq_true h1] at hz1
  have Hv:Hid (dec (Nat.lcm a b)=⟨#[48]⟩):=by
   show _=_
   rw [h1,Nat.lcm_zero_left]; exact dec_zero
  clear h1 hz2
  go_enter Tryz.func209,Tryz.ntmps209
  go_wp2
  go_ret
  exact ⟨by rw [Hv.out]; rfl,Below.refl _ _⟩
 ·rw [decide_eq_false h1] at hz1
  by_cases h2:b=0
  ·rw [decide_eq_true h2] at hz2
   have Hv:Hid (dec (Nat.lcm a b)=⟨#[48]⟩):=by
    show _=_
    rw [h2,Nat.lcm_zero_right]; exact dec_zero
   clear h1 h2
   go_enter Tryz.func209,Tryz.ntmps209
   go_wp2
   go_ret
   exact ⟨by rw [Hv.out]; rfl,Below.refl _ _⟩
  ·rw [decide_eq_false h2] at hz2
   have HL:=hd_ L
   have Hgc:=hd_ (gcd_any w a b ha hb L)
   have hgp:0 < Nat.gcd a b:=Nat.gcd_pos_of_pos_left _ (by omega)
   have hgl:Num (Nat.gcd a b):=ha.le (Nat.gcd_le_left _ (by omega))
   have Hdm:Hid (∀ w',Below w.heap.size w w'→Gives Tryz.prog 208 #[.string (dec a),.string (dec (Nat.gcd a b))] w' (.tuple #[.string (dec (a / Nat.gcd a b)),.string (dec (a % Nat.gcd a b)),.int .i64 0])):=fun w' hb'=>by
    have:=divmod_any w' a (Nat.gcd a b) ha hgl (HL.out.below hb')
    rw [if_neg (by omega)] at this
    exact this
   have Hml:Hid (∀ w',Below w.heap.size w w'→Gives Tryz.prog 184 #[.string (dec (a / Nat.gcd a b)),.string (dec b)] w' (.string (dec (Nat.lcm a b)))):=fun w' hb'=>by
    have:=mul_any w' (a / Nat.gcd a b) b (ha.le (Nat.div_le_self _ _)) hb (HL.out.below hb')
    rw [lcm_quot a b h1] at this
    exact this
   clear h1 h2 L
   go_enter Tryz.func209,Tryz.ntmps209
   go_wp2_with fail
   refine cm_ Hgc.out ?_
   rintro e w1 ⟨rfl,hb1⟩
   have Hb1:=hd_ hb1
   clear hb1 Hgc
   go_wp2_with fail
   refine cm_ (Hdm.out w1 Hb1.out) ?_
   rintro e w2 ⟨rfl,hb2⟩
   have Hb2:=hd_ (Hb1.out.trans (hb2.mono Hb1.out.size))
   clear hb2 Hb1 Hdm
   go_wp2_with fail
   refine cm_ (Hml.out w2 Hb2.out) ?_
   rintro e w3 ⟨rfl,hb3⟩
   have Hb3:=hd_ (Hb2.out.trans (hb3.mono Hb2.out.size))
   clear hb3 Hb2 Hml
   go_wp2
   go_ret
   exact ⟨rfl,Hb3.out⟩
end Go.Proofs.YtnjedhgcfeoemaaGreatDoor

namespace Go.Proofs.YtnjedhgcfeoemaaGreatDoor
open Go.RowKit
theorem parseInt_itx (z:Int):Lib.parseIntB 64 (itx z).data.toList=if -9223372036854775808≤z∧z≤9223372036854775807 then .ok z else .range:=by
 have hpow:(2:Nat) ^ (64 - 1)=9223372036854775808:=by decide
 by_cases hz:z < 0
 ·obtain ⟨n,rfl⟩:∃ n:Nat,z = -(n:Int):=⟨z.natAbs,by omega⟩
  have hn:1≤n:=by omega
  have e:(itx (-(n:Int))).data.toList=45 :: Lib.decDigits n:=lb_itx_neg n hn
  rw [e]
  have hp:=parse_mag n
  have h45:(45:UInt8).toNat=45:=rfl
  by_cases hb:n < 18446744073709551616
  ·rw [if_pos hb] at hp
   simp only [Lib.parseIntB,Lib.parseUintB_64,h45,or_true,if_true,hp,not_true_eq_false,false_and,if_false,true_and,hpow]
   by_cases h3:9223372036854775808 < n
   ·rw [if_pos h3,if_neg (by omega)]
   ·rw [if_neg h3,if_pos (by omega)]
  ·rw [if_neg hb] at hp
   simp only [Lib.parseIntB,Lib.parseUintB_64,h45,or_true,if_true,hp]
   rw [if_neg (by omega)]
 ·obtain ⟨n,rfl⟩:∃ n:Nat,z=(n:Int):=⟨z.natAbs,by omega⟩
  have e:(itx (n:Int)).data.toList=Lib.decDigits n:=by rw [itx_nat]; exact lb_dec n
  rw [e]
  have hp:=parse_mag n
  obtain ⟨c,r,hc,h1,h2⟩:=dec_cons n
  rw [hc] at hp ⊢
  have q1:¬ c.toNat=43:=by omega
  have q2:¬ c.toNat=45:=by omega
  by_cases hb:n < 18446744073709551616
  ·rw [if_pos hb] at hp
   simp only [Lib.parseIntB,Lib.parseUintB_64,q1,q2,or_self,if_false,hp,not_false_eq_true,true_and,false_and,hpow]
   by_cases h3:9223372036854775808≤n
   ·rw [if_pos h3,if_neg (by omega)]
   ·rw [if_neg h3,if_pos (by omega)]
  ·rw [if_neg hb] at hp
   simp only [Lib.parseIntB,Lib.parseUintB_64,q1,q2,or_self,if_false,hp]
   rw [if_neg (by omega)]
theorem smallz_any (w:World) (z:Int) (hz:ZNum z) (L:Laid w) :
  Gives Tryz.prog 239 #[.string (itx z)] w (if -9223372036854775808≤z∧z≤9223372036854775807 then .tuple #[.int .i64 z,.bool true] else .tuple #[.int .i64 0,.bool false]):=by
 unfold Gives
 have hz1:(dec z.natAbs).size≤1000000:=hz
 have hz2:=itx_size_le z
 have hp:=parseInt_itx z
 by_cases h : -9223372036854775808≤z∧z≤9223372036854775807
 ·rw [if_pos h] at hp ⊢
  have Hc:=hd_ (Tryz.strconv_ParseInt_10_at64_ok (itx z) (by omega) z hp w)
  have Hbb:=hd_ (fun t=>below_bytes w 5 t)
  clear hz1 hz2 hp
  generalize itx z=s at *
  have hwr:IntKind.i64.wrap z=z:=iw_ _ h
  go_enter Tryz.func239,Tryz.ntmps239
  go_wp2_with fail
  refine cm_ Hc.out ?_
  rintro e w1 ⟨rfl,hw⟩
  have Hb:Hid (Below w.heap.size w w1):=by
   show Below _ _ _
   rcases hw with rfl | ⟨t,rfl⟩
   ·exact Below.refl _ _
   ·exact Hbb.out t
  clear hw
  go_wp2
  go_ret2
  exact ⟨rfl,Hb.out⟩
 ·rw [if_neg h] at hp ⊢
  obtain ⟨ev,hv,hev⟩:=L.range
  have Hc:=hd_ (Tryz.strconv_ParseInt_10_at64_range (itx z) (by omega) hp ev w hv hev)
  clear hp hv hev hz1 hz2
  generalize Lib.intSat 64 (itx z).data.toList=sat at *
  generalize itx z=s at *
  go_enter Tryz.func239,Tryz.ntmps239
  go_wp2_with fail
  refine cm_ Hc.out ?_
  rintro e w1 ⟨N,rfl,-,-,hb⟩
  have Hb:=hd_ hb
  clear hb
  go_wp2
  go_ret2
  exact ⟨rfl,Hb.out⟩
end Go.Proofs.YtnjedhgcfeoemaaGreatDoor

namespace Go.Proofs.YtnjedhgcfeoemaaGreatDoor
open Go.RowKit
theorem lcmz_any (w:World) (a b:Int) (ha:ZNum a) (hb:ZNum b) (L:Laid w) :
  Gives Tryz.prog 170 #[.string (itx a),.string (itx b)] w (.string (dec (Int.lcm a b))):=by
 unfold Gives
 have Ha:=hd_ (fun W=>abs_any W a)
 have Hb':=hd_ (fun W=>abs_any W b)
 have Hlc:Hid (∀ W,Below w.heap.size w W→Gives Tryz.prog 209 #[.string (dec a.natAbs),.string (dec b.natAbs)] W (.string (dec (Int.lcm a b)))):=fun W hW=>lcm_any W a.natAbs b.natAbs ha hb (L.below hW)
 clear L
 generalize itx a=s at *
 generalize itx b=t at *
 generalize dec (Int.lcm a b)=d at *
 generalize dec a.natAbs=sm at *
 generalize dec b.natAbs=tm at *
 go_enter Tryz.func170,Tryz.ntmps170
 go_wp2_with fail
 refine cm_ (Ha.out w) ?_
 rintro e w1 ⟨rfl,hb1⟩
 have Hb1:=hd_ hb1
 clear hb1 Ha
 go_wp2_with fail
 refine cm_ (Hb'.out w1) ?_
 rintro e w2 ⟨rfl,hb2⟩
 have Hb2:=hd_ (Hb1.out.trans (hb2.mono Hb1.out.size))
 clear hb2 Hb1 Hb'
 go_wp2_with fail
 refine cm_ (Hlc.out w2 Hb2.out) ?_
 rintro e w3 ⟨rfl,hb3⟩
 have Hb3:=hd_ (Hb2.out.trans (hb3.mono Hb2.out.size))
 clear hb3 Hb2 Hlc
 go_wp2
 go_ret
 exact ⟨rfl,Hb3.out⟩
end Go.Proofs.YtnjedhgcfeoemaaGreatDoor

namespace Go.Proofs.YtnjedhgcfeoemaaGreatDoor
open Go.RowKit
theorem cellsS_append (l m:List (ByteArray×ByteArray)):cellsS (l ++ m)=cellsS l ++ cellsS m:=by simp [cellsS]
theorem elQ:ElemOf Tryz.prog 38 42 (.agg #[.string ⟨#[]⟩,.string ⟨#[]⟩]) 2 32:=⟨Tryz.underlying38,info_parts infoQ,rfl,by decide⟩
end Go.Proofs.YtnjedhgcfeoemaaGreatDoor

namespace Go.Proofs.YtnjedhgcfeoemaaGreatDoor
open Go.RowKit
theorem tden_succ (l:List Rat) (k:Nat) (h:k < l.length):tden (l.take (k + 1))=Nat.lcm (tden (l.take k)) l[k].den:=by
 unfold tden
 rw [List.take_add_one,List.getElem?_eq_getElem h,List.foldl_append]; rfl
theorem tden_pos (l:List Rat):∀ k,k≤l.length→0 < tden (l.take k)
 | 0,_=>Nat.one_pos
 | k + 1,h=>by
  rw [tden_succ l k (by omega)]
  exact Nat.lcm_pos (tden_pos l k (by omega)) l[k].den_pos
theorem tden_lt (l:List Rat) (D:Nat) (hs:∀ q∈l,Sm D q):∀ k,k≤l.length→tden (l.take k) < 10 ^ (1 + k * D)
 | 0,_=>by show 1 < 10 ^ (1 + 0 * D); rw [Nat.zero_mul]; decide
 | k + 1,h=>by
  rw [tden_succ l k (by omega)]
  have h1:=tden_lt l D hs k (by omega)
  have h2:=(hs _ (List.getElem_mem (show k < l.length by omega))).2
  have h3:=pow_ten_mul h1 h2
  have h4:Nat.lcm (tden (l.take k)) l[k].den≤tden (l.take k) * l[k].den:=Nat.le_of_dvd (Nat.mul_pos (tden_pos l k (by omega)) l[k].den_pos) (Nat.lcm_dvd_mul _ _)
  rw [show 1 + (k + 1) * D=1 + k * D + D by rw [Nat.add_mul]; omega]
  omega
theorem tlist_succ (D:Nat) (ps:List Int) (l:List Rat) (k:Nat) (h1:k < ps.length) (h2:k < l.length) :
  tlist D (ps.take (k + 1)) (l.take (k + 1))=tlist D (ps.take k) (l.take k) ++ (if l[k].num=0 then [] else [(ps[k],l[k].num * ((D / l[k].den:Nat):Int))]):=by
 unfold tlist
 have e:∀ n,(ps.take n).zip (l.take n)=(ps.zip l).take n:=fun n=>(List.take_zipWith ..).symm
 rw [e,e,List.take_add_one,List.getElem?_eq_getElem (by rw [List.length_zip]; omega),List.filterMap_append]
 congr 1
 rw [List.getElem_zip]
 by_cases h:l[k].num=0
 ·rw [if_pos h]
  show List.filterMap _ [(ps[k],l[k])]=[]
  rw [List.filterMap_cons]
  rw [if_pos h]; rfl
 ·rw [if_neg h]
  show List.filterMap _ [(ps[k],l[k])]=_
  rw [List.filterMap_cons]
  rw [if_neg h]; rfl
theorem tlist_length (D:Nat) (ps:List Int) (l:List Rat):(tlist D ps l).length≤l.length:=by
 unfold tlist
 refine Nat.le_trans (List.length_filterMap_le _ _) ?_
 rw [List.length_zip]; omega
theorem strs_append (l m:List ByteArray):strs (l ++ m)=strs l ++ strs m:=by simp [strs]
def termsV (v1 v2:Value) (d:Nat):Value := .agg #[v1,v2,.string (dec d)]
theorem infoP:(Tryz.prog.info? 3).map (fun i=>(i.zero,i.size,i.bytes))=some (some (.int .i64 0),1,8):=by kernel_rfl
def TermsOut (w:World) (tl:List (Int×Int)) (D:Nat) (e:Ending) (w':World):Prop :=
 ∃ b1 d1 b2 d2,e = .returned (termsV (.slice b1 tl.length d1) (.slice b2 tl.length d2) D)∧Rd w' b1 (ints (tl.map Prod.fst))∧Rd w' b2 (strs (tl.map fun x=>itx x.2))∧Below w.heap.size w w'
theorem obj_set {w:World} {g:Nat} {cs:Array Value} {t:TypeId} (h:w.heap[g]?=some (.cells cs t (0,0))) (j:Nat) (x:Value) :
  (w.setCell ⟨g,j,none⟩ x).heap[g]?=some (.cells (cs.setIfInBounds j x) t (0,0)):=by
 simp [World.setCell,Array.getElem?_modify,h]
theorem obj_other {w:World} {g k:Nat} (h:g≠k) (j:Nat) (x:Value):(w.setCell ⟨g,j,none⟩ x).heap[k]?=w.heap[k]?:=by
 simp [World.setCell,Array.getElem?_modify,h]
section
variable {b5 g9:Nat} {v1 v2 v3 x0 x1:Value} {p:Addr} {vp:Value}
end
section
variable {w:World} {s1 s2:Value} {D:Nat} {V1:Value} {n1:Nat} {L1:List Value} {V2:Value} {n2:Nat} {L2:List Value} {wr:World}
theorem TT.grow1 {w':World} (h:TT w s1 s2 D V1 n1 L1 V2 n2 L2 wr) {V':Value} {n':Nat} {L':List Value} (own:w'.ownsRow (w.heap.size + 2) 3 1 V' n' L') (hg:wr.grownBy w' V1.ownBlock)
  (hat:V'.ownBlock=V1.ownBlock∨V'.ownBlock=some wr.heap.size):TT w s1 s2 D V' n' L' V2 n2 L2 w':=by
 have hlow:∀ k,k < w.heap.size + 2→w'.heap[k]?=wr.heap[k]?:=fun k hk=>hg.block k (by have:=h.siz; omega) (fun e=>by have:=(World.ownsRow.lt h.o1 k e.symm).1; omega)
 refine ⟨(hlow _ (by omega)).trans h.h4,(hlow _ (by omega)).trans h.h5,own,?_,?_,?_,Nat.le_trans h.siz hg.size⟩
 ·refine World.ownsRow.kept h.o2 hg ?_
  cases hv:V1.ownBlock with
  | none=>cases hv2:V2.ownBlock <;> simp
  | some k=>exact .inr (h.ap k hv)
 ·intro k hk
  rcases hat with e | e
  ·exact h.ap k (by rw [← e]; exact hk)
  ·intro h2
   have h3:=(World.ownsRow.lt h.o2 k h2).2
   rw [e] at hk
   injection hk with hk
   omega
 ·exact h.bel.grown hg (by have:=h.siz; omega) (fun k hk=>by have:=(World.ownsRow.lt h.o1 k hk).1; omega)
theorem TT.grow2 {w':World} (h:TT w s1 s2 D V1 n1 L1 V2 n2 L2 wr) {V':Value} {n':Nat} {L':List Value} (own:w'.ownsRow (w.heap.size + 2) 25 1 V' n' L') (hg:wr.grownBy w' V2.ownBlock)
  (hat:V'.ownBlock=V2.ownBlock∨V'.ownBlock=some wr.heap.size):TT w s1 s2 D V1 n1 L1 V' n' L' w':=by
 have hlow:∀ k,k < w.heap.size + 2→w'.heap[k]?=wr.heap[k]?:=fun k hk=>hg.block k (by have:=h.siz; omega) (fun e=>by have:=(World.ownsRow.lt h.o2 k e.symm).1; omega)
 refine ⟨(hlow _ (by omega)).trans h.h4,(hlow _ (by omega)).trans h.h5,?_,own,?_,?_,Nat.le_trans h.siz hg.size⟩
 ·refine World.ownsRow.kept h.o1 hg ?_
  cases hv:V2.ownBlock with
  | none=>cases hv2:V1.ownBlock <;> simp
  | some k=>exact .inr (fun h1=>h.ap k h1 hv)
 ·intro k hk
  rcases hat with e | e
  ·rw [e]; exact h.ap k hk
  ·rw [e]
   intro h2
   have h3:=(World.ownsRow.lt h.o1 k hk).2
   injection h2 with h2
   omega
 ·exact h.bel.grown hg (by have:=h.siz; omega) (fun k hk=>by have:=(World.ownsRow.lt h.o2 k hk).1; omega)
theorem TT.store1 (h:TT w s1 s2 D V1 n1 L1 V2 n2 L2 wr) (x:Value):TT w x s2 D V1 n1 L1 V2 n2 L2 (wr.setCell ⟨w.heap.size + 1,0,none⟩ x):=by
 refine ⟨(obj_other (by omega) _ _).trans h.h4,(obj_set h.h5 0 x).trans rfl,?_,?_,h.ap,h.bel.setCell (p:=⟨w.heap.size + 1,0,none⟩) (by simp) _,by simpa using h.siz⟩
 ·exact ownsRow_setCell_below h.o1 (by show w.heap.size + 1 < w.heap.size + 2; omega) _
 ·exact ownsRow_setCell_below h.o2 (by show w.heap.size + 1 < w.heap.size + 2; omega) _
theorem TT.store2 (h:TT w s1 s2 D V1 n1 L1 V2 n2 L2 wr) (x:Value):TT w s1 x D V1 n1 L1 V2 n2 L2 (wr.setCell ⟨w.heap.size + 1,1,none⟩ x):=by
 refine ⟨(obj_other (by omega) _ _).trans h.h4,(obj_set h.h5 1 x).trans rfl,?_,?_,h.ap,h.bel.setCell (p:=⟨w.heap.size + 1,1,none⟩) (by simp) _,by simpa using h.siz⟩
 ·exact ownsRow_setCell_below h.o1 (by show w.heap.size + 1 < w.heap.size + 2; omega) _
 ·exact ownsRow_setCell_below h.o2 (by show w.heap.size + 1 < w.heap.size + 2; omega) _
end
abbrev TS (w:World) (tl:List (Int×Int)) (D:Nat) (b1:Option Addr) (d1:Nat) (b2:Option Addr) (d2:Nat) (wr:World):Prop :=
 TT w (.slice b1 tl.length d1) (.slice b2 tl.length d2) D (.slice b1 tl.length d1) tl.length (ints (tl.map Prod.fst)) (.slice b2 tl.length d2) tl.length (strs (tl.map fun x=>itx x.2)) wr
theorem termsOf_any (w:World) (a1 a2:Option Addr) (c1 c2:Nat) (ps:List Int) (l:List Rat) (D:Nat) (hp:Rd w a1 (ints ps)) (hr:Rd w a2 (cellsQ l)) (hpl:ps.length=l.length)
  (hs:∀ q∈l,Sm D q) (hl:l.length≤1000) (hD:3 + (l.length + 2) * D≤900000) (L:Laid w) :
  Calls Tryz.prog 100 #[.slice a1 ps.length c1,.slice a2 l.length c2] w (TermsOut w (tlist (tden l) ps l) (tden l)):=by
 have HL:=hd_ L
 have Hs:=hd_ hs
 have Hr:=hd_ hr
 have Hp:=hd_ hp
 have HD:=hd_ hD
 have Hpl:=hd_ hpl
 rw [hpl]
 clear hs hr hp L hD hpl
 generalize hn:l.length=n at *
 have Hn:=hd_ hn
 clear hn
 go_enter Tryz.func100,Tryz.ntmps100
 go_wp2_with fail
 go_loopw [16] (fun i wr=>∃ k:Nat,k≤n∧i = .int .i64 k∧Hid (wr.heap[w.heap.size]?=some (termsO (.slice none 0 0) (.slice none 0 0) ⟨#[]⟩))∧Hid (wr.heap[w.heap.size + 1]?=some (termsO (.slice none 0 0) (.slice none 0 0) (dec (tden (l.take k)))))∧Hid (Below w.heap.size w wr)) (fun i _=>n - (intOf i).toNat)
 case atStart =>
  refine ⟨0,Nat.zero_le _,rfl,?_,?_,?_⟩
  ·show _=_
   rw [Go.heap_alloc_old _ _ (by simp)]
   exact Go.heap_alloc_new _ _
  ·show _=_
   have:=Go.heap_alloc_new (w.alloc (Obj.cells #[Value.slice none 0 0,Value.slice none 0 0,Value.string { data := #[] }] 163)) (Obj.cells #[Value.slice none 0 0,Value.slice none 0 0,Value.string { data := #[49] }] 163)
   rw [World.size_alloc] at this
   rw [this,show tden (l.take 0)=1 from rfl,dec_one]; rfl
  ·exact ((Below.refl w.heap.size w).alloc nr_ _).alloc (by simp) _
 case round =>
  obtain ⟨k,hk,rfl,H4,H5,Hb⟩:=hrel
  by_cases hlt:k < n
  ·have hlt':(k:Int) < n:=by omega
   have hkl:k < l.length:=by rw [Hn.out]; exact hlt
   obtain ⟨b,off,rfl,hb,hcells⟩:=Hr.out.open (by rw [cellsQ_length]; omega)
   obtain ⟨c0,c1⟩:=cellsS_rd hcells k (by rw [List.length_map]; exact hkl)
   rw [← Hb.out.cell (p:=⟨b,off + k * 2,none⟩) hb,qs_getD _ k hkl] at c0
   rw [← Hb.out.cell (p:=⟨b,off + k * 2 + 1,none⟩) hb,qs_getD _ k hkl] at c1
   have Hsucc:Hid (tden (l.take (k + 1))=Nat.lcm (tden (l.take k)) l[k].den):=tden_succ l k hkl
   have hsm:=Hs.out _ (List.getElem_mem hkl)
   have htl:=tden_lt l D Hs.out k (by omega)
   have hkD:k * D≤(n + 2) * D:=Nat.mul_le_mul_right _ (by omega)
   have hDD:=HD.out
   have hDpos:=hsm.pos
   have hD1:1 * D≤(n + 2) * D:=Nat.mul_le_mul_right _ (by omega)
   have Hlc:Hid (∀ W,Below w.heap.size w W→Gives Tryz.prog 170 #[.string (dec (tden (l.take k))),.string (dec l[k].den)] W (.string (dec (Nat.lcm (tden (l.take k)) l[k].den)))):=fun W hW=>by
    have:=lcmz_any W (tden (l.take k):Int) (l[k].den:Int) (num_pow htl (by omega) (by omega)) (num_pow hsm.2 hDpos (by omega)) (HL.out.below hW)
    rw [itx_nat,itx_nat,Int.lcm_natCast_natCast] at this
    exact this
   clear hcells hsm htl hkD hDD hDpos hD1
   generalize l[k]=q at *
   generalize tden (l.take k)=d at *
   generalize Nat.lcm d q.den=d2 at *
   simp only [qs] at c0 c1
   have Hb0:=hd_ (Hb.out.alloc Hb.out.size (.cells #[.string (itx q.num),.string (dec q.den)] 42))
   have Hwr:=hd_ ((Below.refl wr.heap.size wr).alloc nr_ (.cells #[.string (itx q.num),.string (dec q.den)] 42))
   have Hnew:Hid ((wr.alloc (.cells #[.string (itx q.num),.string (dec q.den)] 42)).heap[wr.heap.size]?=some (.cells #[.string (itx q.num),.string (dec q.den)] 42 (0,0))):=heap_alloc_new wr _
   have H5a:=hd_ ((Hwr.out.block _ (Array.getElem?_eq_some_iff.1 H5.out).1).trans H5.out)
   have H4a:=hd_ ((Hwr.out.block _ (Array.getElem?_eq_some_iff.1 H4.out).1).trans H4.out)
   obtain ⟨k0,k1,-,-⟩:=two_cells Hnew.out
   obtain ⟨m0,m1,m2,m3⟩:=obj_cells3 H5a.out
   clear m3
   go_wp2_with fail
   generalize wr.alloc (.cells #[.string (itx q.num),.string (dec q.den)] 42)=W0 at *
   clear c0 c1 k0 k1 m0 m1 m2 Hnew H4 H5 Hwr
   refine cm_ (Hlc.out _ Hb0.out) ?_
   rintro e w1 ⟨rfl,hb1⟩
   have H5b:=hd_ ((hb1.block _ (Array.getElem?_eq_some_iff.1 H5a.out).1).trans H5a.out)
   have H4b:=hd_ ((hb1.block _ (Array.getElem?_eq_some_iff.1 H4a.out).1).trans H4a.out)
   have Hb1:=hd_ (Hb0.out.trans (hb1.mono Hb0.out.size))
   clear hb1 Hlc Hb0 H5a H4a
   obtain ⟨m0,m1,m2,m3⟩:=obj_cells3 H5b.out
   have f2:=m3 2
   clear m3
   go_wp2
   go_roundw
   case rel =>
    refine ⟨k + 1,by omega,by go_num,?_,?_,?_⟩
    ·show _=_
     rw [obj_other (by omega)]; exact H4b.out
    ·show _=_
     rw [obj_set H5b.out,Hsucc.out]; rfl
    ·exact Hb1.out.setCell (p:=⟨w.heap.size + 1,2,none⟩) (by simp) _
   case measure=>simp [intOf]; omega
  ·have hlt':¬ (k:Int) < n:=by omega
   have hkn:k=n:=by omega
   subst hkn
   rw [show l.take k=l by rw [← Hn.out,List.take_length]] at H5
   have Hts0:Hid (TS w (tlist (tden l) (ps.take 0) (l.take 0)) (tden l) none 0 none 0 wr) :=
    ⟨H4.out,H5.out,World.ownsRow_nil ..,World.ownsRow_nil ..,fun k hk=>by simp [Value.ownBlock] at hk,Hb.out,(Array.getElem?_eq_some_iff.1 H5.out).1⟩
   have Htl:=hd_ (fun j hj=>tden_lt l D Hs.out j hj)
   clear H4 H5 Hb
   go_wp2_with fail
   have hDp:=tden_pos l l.length nr_
   rw [List.take_length] at hDp
   have Hdp:=hd_ hDp
   have Hdl:Hid (tden l < 10 ^ (1 + k * D)):=by
    show _ < _
    have:=Htl.out l.length nr_
    rw [List.take_length,Hn.out] at this
    exact this
   clear hDp Htl
   have Hw0:=hd_ Hts0.out.bel
   go_loopw [29] (fun i wr=>∃ (j:Nat) (b1:Option Addr) (d1:Nat) (b2:Option Addr) (d2:Nat),j≤k∧i = .int .i64 j∧Hid (TS w (tlist (tden l) (ps.take j) (l.take j)) (tden l) b1 d1 b2 d2 wr)) (fun i _=>k - (intOf i).toNat)
   case atStart=>exact ⟨0,none,0,none,0,Nat.zero_le _,rfl,Hts0⟩
   case round =>
    obtain ⟨j,b1,d1,b2,d2,hj,rfl,Hts⟩:=hrel
    by_cases hlt2:j < k
    ·have hlt2':(j:Int) < k:=by omega
     have hjl:j < l.length:=by rw [Hn.out]; exact hlt2
     have hjp:j < ps.length:=by rw [Hpl.out]; exact hlt2
     obtain ⟨b,off,rfl,hb,hcells⟩:=Hr.out.open (by rw [cellsQ_length]; omega)
     obtain ⟨c0,c1⟩:=cellsS_rd hcells j (by rw [List.length_map]; exact hjl)
     rw [← Hts.out.bel.cell (p:=⟨b,off + j * 2,none⟩) hb,qs_getD _ j hjl] at c0
     rw [← Hts.out.bel.cell (p:=⟨b,off + j * 2 + 1,none⟩) hb,qs_getD _ j hjl] at c1
     have Hsucc:=hd_ (tlist_succ (tden l) ps l j hjp hjl)
     have hsm:=Hs.out _ (List.getElem_mem hjl)
     have hq:=itx_isz l[j].num
     obtain ⟨bp,op,rfl,hbp,hcp⟩:=Hp.out.open (by rw [ints_length]; omega)
     have Hcp:Hid (w.cell? ⟨bp,op + j,none⟩=some (.int .i64 ps[j])):=hcp j _ (ints_get ps j hjp)
     clear hcells hcp
     generalize l[j]=q at *
     simp only [qs] at c0 c1
     have Hwr:=hd_ ((Below.refl wr.heap.size wr).alloc nr_ (.cells #[.string (itx q.num),.string (dec q.den)] 42))
     have Hnew:Hid ((wr.alloc (.cells #[.string (itx q.num),.string (dec q.den)] 42)).heap[wr.heap.size]?=some (.cells #[.string (itx q.num),.string (dec q.den)] 42 (0,0))):=heap_alloc_new wr _
     have Hts1:=hd_ (Hts.out.next Hwr.out)
     have Hlo1:=hd_ (fun k hk=>(World.ownsRow.lt Hts.out.o1 k hk).2)
     have Hlo2:=hd_ (fun k hk=>(World.ownsRow.lt Hts.out.o2 k hk).2)
     have Hmx:=hd_ (tlist_length (tden l) (ps.take j) (l.take j))
     obtain ⟨k0,k1,-,-⟩:=two_cells Hnew.out
     by_cases hz:q.num=0
     ·rw [if_pos hz,List.append_nil] at Hsucc
      rw [decide_eq_true hz] at hq
      clear hz Hnew Hwr Hts hsm
      go_wp2
      go_roundw
      case rel=>exact ⟨j + 1,b1,d1,b2,d2,by omega,by go_num,by rw [Hsucc.out]; exact Hts1⟩
      case measure=>simp [intOf]; omega
     ·rw [if_neg hz] at Hsucc
      rw [decide_eq_false hz] at hq
      clear hz
      obtain ⟨m0,m1,m2,m3⟩:=obj_cells3 Hts1.out.h5
      clear m3
      have hDD:=HD.out
      have hDpos:=hsm.pos
      have hkD:(k + 2) * D=k * D + 2 * D:=by rw [Nat.add_mul]
      have h10:10 ^ (1 + k * D) < 10 ^ (1 + k * D + 1):=Nat.pow_lt_pow_right (by decide) (by omega)
      have hdl:=Hdl.out
      have Hdm:Hid (∀ W,Below w.heap.size w W→Gives Tryz.prog 163 #[.string (dec (tden l)),.string (dec q.den)] W (.tuple #[.string (dec (tden l / q.den)),.string (itx ((tden l:Int) % (q.den:Int))),.int .i64 0])):=fun W hW=>by
       have:=divmodz_any W (tden l:Int) q.den (num_pow hdl (by omega) (by omega)) (num_pow hsm.2 hDpos (by omega)) q.den_pos (num_pow (D:=1 + k * D + 1) (show (tden l + 1) < 10 ^ (1 + k * D + 1) by omega) (by omega) (by omega)) (HL.out.below hW)
       rw [itx_nat,← Int.natCast_ediv,itx_nat] at this
       exact this
      have hdv:tden l / q.den≤tden l:=Nat.div_le_self _ _
      have hpr:(q.num * ((tden l / q.den:Nat):Int)).natAbs < 10 ^ (D + (1 + k * D)):=by
       rw [Int.natAbs_mul]; exact pow_ten_mul hsm.1 (Nat.lt_of_le_of_lt hdv hdl)
      have Hmu:Hid (∀ W,Below w.heap.size w W→Gives Tryz.prog 115 #[.string (itx q.num),.string (dec (tden l / q.den))] W (.string (itx (q.num * ((tden l / q.den:Nat):Int))))):=fun W hW=>by
       have:=mulz_any W q.num ((tden l / q.den:Nat):Int) (num_pow hsm.1 hDpos (by omega)) (num_pow (Nat.lt_of_le_of_lt hdv hdl) (by omega) (by omega)) (num_pow hpr (by omega) (by omega)) (HL.out.below hW)
       rw [itx_nat] at this
       exact this
      clear hDD hDpos hkD h10 hdl hdv hpr hsm
      generalize hfq:q.num * ((tden l / q.den:Nat):Int)=fq at *
      have Hfq:=hd_ hfq
      clear hfq
      generalize dec (tden l / q.den)=sq at *
      go_wp2_with fail
      generalize wr.alloc (.cells #[.string (itx q.num),.string (dec q.den)] 42)=W0 at *
      clear c0 c1 k0 k1 m0 m1 m2
      refine cm_ (Hdm.out _ Hts1.out.bel) ?_
      rintro e w1 ⟨rfl,hb1⟩
      have Hnew1:=hd_ (stored_cell Hnew.out hb1)
      have Hts2:=hd_ (Hts1.out.next hb1)
      clear hb1 Hdm Hts1 Hnew Hwr Hts
      obtain ⟨k0,k1,-,-⟩:=two_cells Hnew1.out
      obtain ⟨m0,m1,m2,m3⟩:=obj_cells3 Hts2.out.h5
      have f0:=m3 0
      have f1:=m3 1
      clear m3
      go_wp2_with fail
      have Hcq:Hid (w1.cell? ⟨bp,op + j,none⟩=some (.int .i64 ps[j])):=(Hts2.out.bel.cell (p:=⟨bp,op + j,none⟩) hbp).trans Hcp.out
      generalize ps[j]=pj at *
      refine RP.wp_region_readers 17 [(1,0),(1,1),(1,2),(1,3),(1,4),(1,5),(1,8),(1,9),(1,10),(1,11),(2,12),(0,6),(0,7),(2,16),(0,13),(0,14),(0,15),(0,17),(2,18),(0,19)]
       (fun w'=>∃ p:TW (w.heap.size + 1) wr.heap.size (.slice b1 (tlist (tden l) (ps.take j) (l.take j)).length d1) (.slice b2 (tlist (tden l) (ps.take j) (l.take j)).length d2) (.string (dec (tden l))) (.string (itx q.num)) (.string (dec q.den)) ⟨bp,op + j,none⟩ (.int .i64 pj),w'=p.w)
       (by kernel_rfl) (by kernel_rfl) ?_ ?_
      ·exact ⟨⟨{ w1 with drawn:=w1.drawn + 1 },Hts2.out.h5,Hnew1.out,Hcq.out⟩,rfl⟩
      have q0:=@TW.q0
      have q1:=@TW.q1
      have q2:=@TW.q2
      have q3:=@TW.hp
      have hne:Nonempty (TW (w.heap.size + 1) wr.heap.size (.slice b1 (tlist (tden l) (ps.take j) (l.take j)).length d1) (.slice b2 (tlist (tden l) (ps.take j) (l.take j)).length d2) (.string (dec (tden l))) (.string (itx q.num)) (.string (dec q.den)) ⟨bp,op + j,none⟩ (.int .i64 pj)):=⟨⟨w1,Hts2.out.h5,Hnew1.out,Hcq.out⟩⟩
      iterate 10 (refine RP.walkR_read ?_; simp only [dsc_,dz_,tsc_,tz_]; go_big_quiet_step (fail); refine wpQuiet_nil ?_)
      refine RP.walkR_any ?_
      simp only [dsc_,dz_,tsc_,tz_]
      go_big_quiet_step (fail)
      refine wpQuiet_nil ?_
      clear q0 q1 q2 q3 hne
      refine RP.walkR_move ?_
      simp only [dsc_,dz_,tsc_,tz_]
      go_wp2_with fail
      have Hts3:=hd_ (Hts2.out.next (w':=(w1.alloc (Obj.cells #[Value.int IntKind.i64 pj] 3)).drew) ((Below.refl w1.heap.size w1).alloc nr_ _).drew)
      have Hb13:=hd_ ((((Below.refl w1.heap.size w1).alloc nr_ (Obj.cells #[Value.int IntKind.i64 pj] 3)).drew))
      have Hnew3:=hd_ (stored_cell Hnew1.out Hb13.out)
      have Hone:Hid (∀ jj u,[Value.int IntKind.i64 pj][jj]?=some u→((w1.alloc (Obj.cells #[Value.int IntKind.i64 pj] 3)).drew).cell? ((⟨w1.heap.size,0,none⟩:Addr).add jj)=some u):=fun jj u hj=>cell_one_new w1 _ _ jj u hj
      have hgl:wr.heap.size < w1.heap.size:=(Array.getElem?_eq_some_iff.1 Hnew1.out).1
      have Hsz13:Hid (w1.heap.size < ((w1.alloc (Obj.cells #[Value.int IntKind.i64 pj] 3)).drew).heap.size):=by show _ < _; show w1.heap.size < (w1.alloc _).heap.size; simp
      have Hcq3:Hid (((w1.alloc (Obj.cells #[Value.int IntKind.i64 pj] 3)).drew).cell? ⟨bp,op + j,none⟩=some (.int .i64 pj)):=(Hb13.out.cell (p:=⟨bp,op + j,none⟩) (block_lt_of_cell Hcq.out)).trans Hcq.out
      generalize (w1.alloc (Obj.cells #[Value.int IntKind.i64 pj] 3)).drew=w3 at *
      refine ⟨⟨⟨w3,Hts3.out.h5,Hnew3.out,Hcq3.out⟩,rfl⟩,?_⟩
      refine RP.walkR_move ?_
      simp only [dsc_,dz_,tsc_,tz_]
      obtain ⟨iP,hi,hz0,hz1,hz2⟩:=info_parts infoP
      refine wpList_append_own_at w3 rfl (.tmp 47) (.tmp 52) 36 rfl (w.heap.size + 2) 3 iP (.int .i64 0) 1 8 Tryz.underlying36 hi hz0 hz1 hz2 rfl (by decide) _ _ _ rfl Hts3.out.o1 ⟨w1.heap.size,0,none⟩ 1 1 [.int .i64 pj] rfl rfl Hone.out (by simp [Value.oneCell']) (by have:=Hmx.out; rw [List.length_take] at this; unfold maxLen; omega) (by have:=Hmx.out; rw [List.length_take] at this; omega) Hts3.out.siz ?_
      intro v' w4 own4 hg4 hnil4 hat4
      have Hts4:=hd_ (Hts3.out.grow1 own4 hg4 hat4)
      obtain ⟨e1,f1c,rfl⟩:=own_form own4
      have Hnew4:Hid (w4.heap[wr.heap.size]?=some (.cells #[.string (itx q.num),.string (dec q.den)] 42 (0,0))):=by
       show _=_
       rw [hg4.block _ (Array.getElem?_eq_some_iff.1 Hnew3.out).1 (fun e=>by have:=Hlo1.out _ e.symm; omega)]
       exact Hnew3.out
      have Hcq4:Hid (w4.cell? ⟨bp,op + j,none⟩=some (.int .i64 pj)):=(Hts4.out.bel.cell (p:=⟨bp,op + j,none⟩) hbp).trans Hcp.out
      clear own4 hg4 hnil4 hat4
      go_wp2_with fail
      refine ⟨⟨⟨w4,Hts4.out.h5,Hnew4.out,Hcq4.out⟩,rfl⟩,?_⟩
      refine RP.walkR_any ?_
      simp only [dsc_,dz_,tsc_,tz_]
      go_big_quiet_step (fail)
      refine wpQuiet_nil ?_
      -- the factor
      refine RP.walkR_move ?_
      simp only [dsc_,dz_,tsc_,tz_]
      go_wp2_with fail
      refine cm_ (Hmu.out _ Hts4.out.bel) ?_
      rintro e w5 ⟨rfl,hb5⟩
      have Hts5:=hd_ (Hts4.out.next hb5)
      have Hnew5:=hd_ (stored_cell Hnew4.out hb5)
      have Hcq5:Hid (w5.cell? ⟨bp,op + j,none⟩=some (.int .i64 pj)):=(Hts5.out.bel.cell (p:=⟨bp,op + j,none⟩) hbp).trans Hcp.out
      clear hb5 Hmu
      go_wp2_with fail
      refine ⟨⟨⟨w5,Hts5.out.h5,Hnew5.out,Hcq5.out⟩,rfl⟩,?_⟩
      refine RP.walkR_move ?_
      simp only [dsc_,dz_,tsc_,tz_]
      go_wp2_with fail
      have Hb56:=hd_ ((Below.refl w5.heap.size w5).alloc nr_ (Obj.cells #[Value.string (itx fq)] 25))
      have Hts6:=hd_ (Hts5.out.next Hb56.out)
      have Hnew6:=hd_ (stored_cell Hnew5.out Hb56.out)
      have Hone6:Hid (∀ jj u,[Value.string (itx fq)][jj]?=some u→(w5.alloc (Obj.cells #[Value.string (itx fq)] 25)).cell? ((⟨w5.heap.size,0,none⟩:Addr).add jj)=some u):=fun jj u hj=>cell_one_new w5 _ _ jj u hj
      have Hcq6:Hid ((w5.alloc (Obj.cells #[Value.string (itx fq)] 25)).cell? ⟨bp,op + j,none⟩=some (.int .i64 pj)):=(Hts6.out.bel.cell (p:=⟨bp,op + j,none⟩) hbp).trans Hcp.out
      generalize w5.alloc (Obj.cells #[Value.string (itx fq)] 25)=w6 at *
      refine ⟨⟨⟨w6,Hts6.out.h5,Hnew6.out,Hcq6.out⟩,rfl⟩,?_⟩
      refine RP.walkR_move ?_
      simp only [dsc_,dz_,tsc_,tz_]
      obtain ⟨iZ,hiZ,hzZ0,hzZ1,hzZ2⟩:=info_parts infoZ
      refine wpList_append_own_at w6 rfl (.tmp 55) (.tmp 60) 132 rfl (w.heap.size + 2) 25 iZ (.string ⟨#[]⟩) 1 16 Tryz.underlying132 hiZ hzZ0 hzZ1 hzZ2 rfl (by decide) _ _ _ rfl Hts6.out.o2 ⟨w5.heap.size,0,none⟩ 1 1 [.string (itx fq)] rfl rfl Hone6.out (by simp [Value.oneCell']) (by have:=Hmx.out; rw [List.length_take] at this; unfold maxLen; omega) (by have:=Hmx.out; rw [List.length_take] at this; omega) Hts6.out.siz ?_
      intro v' w7 own7 hg7 hnil7 hat7
      have Hts7:=hd_ (Hts6.out.grow2 own7 hg7 hat7)
      obtain ⟨e2,f2c,rfl⟩:=own_form own7
      have Hnew7:Hid (w7.heap[wr.heap.size]?=some (.cells #[.string (itx q.num),.string (dec q.den)] 42 (0,0))):=by
       show _=_
       rw [hg7.block _ (Array.getElem?_eq_some_iff.1 Hnew6.out).1 (fun e=>by have:=Hlo2.out _ e.symm; omega)]
       exact Hnew6.out
      have Hcq7:Hid (w7.cell? ⟨bp,op + j,none⟩=some (.int .i64 pj)):=(Hts7.out.bel.cell (p:=⟨bp,op + j,none⟩) hbp).trans Hcp.out
      clear own7 hg7 hnil7 hat7
      go_wp2_with fail
      refine ⟨⟨⟨w7,Hts7.out.h5,Hnew7.out,Hcq7.out⟩,rfl⟩,?_⟩
      -- the stores
      obtain ⟨m0,m1,m2,m3⟩:=obj_cells3 Hts7.out.h5
      have f0:=m3 0
      have f1:=m3 1
      clear m3
      refine RP.walkR_move ?_
      simp only [dsc_,dz_,tsc_,tz_]
      go_wp2_with fail
      have Hts8:=hd_ (Hts7.out.store1 (Value.slice e1 ((tlist (tden l) (List.take j ps) (List.take j l)).length + 1) f1c))
      clear m0 m1 m2 f0 f1
      generalize w7.setCell { block:=w.heap.size + 1,off:=0 } (Value.slice e1 ((tlist (tden l) (List.take j ps) (List.take j l)).length + 1) f1c)=w8 at *
      refine RP.walkR_any ?_
      simp only [dsc_,dz_,tsc_,tz_]
      go_big_quiet_step (fail)
      refine wpQuiet_nil ?_
      obtain ⟨m0,m1,m2,m3⟩:=obj_cells3 Hts8.out.h5
      have f0:=m3 0
      have f1:=m3 1
      clear m3
      refine RP.walkR_move ?_
      simp only [dsc_,dz_,tsc_,tz_]
      go_wp2_with fail
      have Hts9:=hd_ (Hts8.out.store2 (Value.slice e2 ((tlist (tden l) (List.take j ps) (List.take j l)).length + 1) f2c))
      clear m0 m1 m2 f0 f1
      generalize w8.setCell { block:=w.heap.size + 1,off:=1 } (Value.slice e2 ((tlist (tden l) (List.take j ps) (List.take j l)).length + 1) f2c)=w9 at *
      simp only [RP.walkR]
      go_wp2
      go_roundw
      case rel =>
       refine ⟨j + 1,e1,f1c,e2,f2c,by omega,by go_num,?_⟩
       show TS _ _ _ _ _ _ _ _
       rw [Hsucc.out]
       unfold TS
       simp only [List.map_append,List.length_append,List.length_cons,List.length_nil,ints_append,strs_append,List.map_cons,List.map_nil]
       exact Hts9.out
      case measure=>simp [intOf]; omega
    ·have hlt2':¬ (j:Int) < k:=by omega
     have hjk:j=k:=by omega
     subst hjk
     have hfull:tlist (tden l) (ps.take j) (l.take j)=tlist (tden l) ps l:=by
      rw [show ps.take j=ps by rw [← Hpl.out,List.take_length],show l.take j=l by rw [← Hn.out,List.take_length]]
     rw [hfull] at Hts
     clear hfull Hts0 Hdp Hdl Hw0
     obtain ⟨m0,m1,m2,m3⟩:=obj_cells3 Hts.out.h5
     clear m3
     obtain ⟨r0,r1,r2,r3⟩:=obj_cells3 Hts.out.h4
     have f0:=r3 0
     have f1:=r3 1
     have f2:=r3 2
     clear r3
     go_wp2_with fail
     have h10:=obj_set (obj_set (obj_set Hts.out.h4 0 (Value.slice b1 (tlist (tden l) ps l).length d1)) 1 (Value.slice b2 (tlist (tden l) ps l).length d2)) 2 (.string (dec (tden l)))
     have o1:=own_rd (ownsRow_setCell_below (ownsRow_setCell_below (ownsRow_setCell_below Hts.out.o1 (a:=⟨w.heap.size,0,none⟩) (by show w.heap.size < w.heap.size + 2; omega) (Value.slice b1 (tlist (tden l) ps l).length d1)) (a:=⟨w.heap.size,1,none⟩) (by show w.heap.size < w.heap.size + 2; omega) (Value.slice b2 (tlist (tden l) ps l).length d2)) (a:=⟨w.heap.size,2,none⟩) (by show w.heap.size < w.heap.size + 2; omega) (.string (dec (tden l))))
     have o2:=own_rd (ownsRow_setCell_below (ownsRow_setCell_below (ownsRow_setCell_below Hts.out.o2 (a:=⟨w.heap.size,0,none⟩) (by show w.heap.size < w.heap.size + 2; omega) (Value.slice b1 (tlist (tden l) ps l).length d1)) (a:=⟨w.heap.size,1,none⟩) (by show w.heap.size < w.heap.size + 2; omega) (Value.slice b2 (tlist (tden l) ps l).length d2)) (a:=⟨w.heap.size,2,none⟩) (by show w.heap.size < w.heap.size + 2; omega) (.string (dec (tden l))))
     have hbl:=((Hts.out.bel.setCell (p:=⟨w.heap.size,0,none⟩) nr_ (Value.slice b1 (tlist (tden l) ps l).length d1)).setCell (p:=⟨w.heap.size,1,none⟩) nr_ (Value.slice b2 (tlist (tden l) ps l).length d2)).setCell (p:=⟨w.heap.size,2,none⟩) nr_ (.string (dec (tden l)))
     generalize ((wr.setCell { block:=w.heap.size,off:=0 } (Value.slice b1 (tlist (tden l) ps l).length d1)).setCell { block:=w.heap.size,off:=1 } (Value.slice b2 (tlist (tden l) ps l).length d2)).setCell { block:=w.heap.size,off:=2 } (Value.string (dec (tden l)))=w10 at *
     obtain ⟨t0,t1,t2,-⟩:=obj_cells3 (a:=Value.slice b1 (tlist (tden l) ps l).length d1) (b:=Value.slice b2 (tlist (tden l) ps l).length d2) (c := .string (dec (tden l))) h10
     exact bodyPost_ret (v:=termsV (Value.slice b1 (tlist (tden l) ps l).length d1) (Value.slice b2 (tlist (tden l) ps l).length d2) (tden l)) (by simp [termsV,results,Tryz.results100,go_sem,t0,t1,t2]) rfl ⟨b1,d1,b2,d2,rfl,o1,o2,hbl⟩
end Go.Proofs.YtnjedhgcfeoemaaGreatDoor

namespace Go.Proofs.YtnjedhgcfeoemaaGreatDoor
open Go.RowKit Go.Shelf
attribute [local go_sem] Oper.semAt_some
abbrev tcells (b1:Option Addr) (d1:Nat) (b2:Option Addr) (d2 m D:Nat):Array Value := #[.slice b1 m d1,.slice b2 m d2,.string (dec D)]
theorem all_any (w:World) (b1 b2:Option Addr) (d1 d2 m D:Nat) :
  Calls Tryz.prog 211 #[.agg (tcells b1 d1 b2 d2 m D)] w fun e w' =>
   e = .returned (.func (.func 241) #[] #[.pointer (some ⟨w.heap.size,0,none⟩)])∧w'=w.alloc (.cells (tcells b1 d1 b2 d2 m D) 163):=by
 go_enter Tryz.func211,Tryz.ntmps211
 go_wp2
 go_ret
 exact ⟨rfl,rfl⟩
abbrev encT (tl:List (Int×Int)) (x:{x // x∈tl}):Array Value := #[.int .i64 x.1.1,.string (itx x.1.2)]
def KT (n₀ Bn:Nat) (W W':World):Prop:=Below n₀ W W'∧W'.heap[Bn]?=W.heap[Bn]?
theorem kt_t {n₀ Bn:Nat} {A B C:World} (h:KT n₀ Bn A B) (k:KT n₀ Bn B C):KT n₀ Bn A C:=⟨h.1.trans k.1,k.2.trans h.2⟩
theorem kt_b {n₀ Bn:Nat} {w:World} (hn:n₀≤w.heap.size) (hB:Bn < w.heap.size) (W:World) (l:Nat) (o o':Obj) (hl:w.heap.size≤l) (h:W.heap[l]?=some o) (h1:o.isCells=false) (h2:o.isWalk=false):KT n₀ Bn W (W.putObj l o') :=
 ⟨belowK_b hn W l o o' hl h h1 h2,World.putObj_heap_other (by omega)⟩
theorem all_stops (n:Nat) (hn:1≤n) (w00 w:World) (h00:Below w00.heap.size w00 w) (Bn:Nat) (b1 b2:Option Addr) (d1 d2 D:Nat) (tl:List (Int×Int)) (hl:tl.length≤1000)
  (hB:w.heap[Bn]?=some (.cells (tcells b1 d1 b2 d2 tl.length D) 163 (0,0))) (hr1:Rd w00 b1 (ints (tl.map Prod.fst))) (hr2:Rd w00 b2 (strs (tl.map fun x=>itx x.2))) :
  SeqStopsK Fence.wide n Tryz.prog 241 #[.pointer (some ⟨Bn,0,none⟩)] (encT tl) (KT w00.heap.size Bn) (fun xs=>xs=tl.attach) (fun pre=>pre <+: tl.attach) tl.length w:=fun l J Jx W hW hJ hJx hY h0=>by
 have HB:=hd_ ((hW.block _ (Array.getElem?_eq_some_iff.1 hB).1).trans hB)
 have Hrd1:=hd_ hr1
 have Hrd2:=hd_ hr2
 have HW:=hd_ (h00.trans (hW.mono h00.size))
 clear hr1 hr2 hB hW h00
 refine callsIn_of_wp Tryz.func241 rfl trivial ?_ rfl
 simp only [Tryz.ntmps241,List.size_toArray,List.length_cons,List.length_nil,Nat.reduceAdd,Nat.reduceSub,Array.replicate_succ,Array.replicate_zero,List.push_toArray,List.append_toArray,List.nil_append,List.cons_append]
 obtain ⟨m0,m1,m2,m3⟩:=obj_cells3 HB.out
 clear m3
 gi_wp2
 gi_loopw [8] (fun p wr=>∃ k:Nat,k≤tl.length∧p = .int .i64 k∧J (tl.attach.take k) wr∧Hid (Below w00.heap.size w00 wr)∧Hid (wr.heap[Bn]?=some (.cells (tcells b1 d1 b2 d2 tl.length D) 163 (0,0))))
  (fun p wr=>tl.length - (intOf p).toNat)
 case atStart=>exact ⟨0,Nat.zero_le _,rfl,h0,HW,HB⟩
 case round =>
  obtain ⟨k,hk,rfl,hJk,Hb,HBk⟩:=hrel
  by_cases hlt:k < tl.length
  ·have hlt':(k:Int) < tl.length:=by omega
   have hk0:(0:Int)≤k:=by omega
   obtain ⟨g1,o1,rfl,hg1,hc1⟩:=Hrd1.out.open (by rw [ints_length,List.length_map]; omega)
   obtain ⟨g2,o2,rfl,hg2,hc2⟩:=Hrd2.out.open (by rw [strs_length,List.length_map]; omega)
   have x1:wr.cell? ⟨g1,o1 + k,none⟩=some (.int .i64 (tl[k]).1):=by
    rw [Hb.out.cell (p:=⟨g1,o1 + k,none⟩) hg1]
    refine hc1 k _ ?_
    rw [ints_get _ k (by rw [List.length_map]; exact hlt),List.getElem_map]
   have x2:wr.cell? ⟨g2,o2 + k,none⟩=some (.string (itx (tl[k]).2)):=by
    rw [Hb.out.cell (p:=⟨g2,o2 + k,none⟩) hg2]
    refine hc2 k _ ?_
    simp [strs,hlt]
   obtain ⟨m0,m1,m2,m3⟩:=obj_cells3 HBk.out
   clear m3 hc1 hc2
   obtain ⟨fn,tmps,assign,body,hy,hR⟩:=hY (tl.attach.take k) ⟨tl[k],List.getElem_mem hlt⟩ wr hJk (by rw [List.length_take,List.length_attach]; omega)
   dsimp only [encT] at hy
   have Hnext:Hid (tl.attach.take k ++ [⟨tl[k],List.getElem_mem hlt⟩]=tl.attach.take (k + 1)):=by
    show _=_
    rw [List.take_add_one,List.getElem?_eq_getElem (by rw [List.length_attach]; exact hlt),List.getElem_attach]; rfl
   have hn0:(tl.length:Int)≤1000:=by omega
   gi_wp2_with fail
   refine hR.mono ?_
   rintro e W3 (⟨rfl,hJ3,hk3⟩ | ⟨rfl,hJx3⟩)
   ·rw [Hnext.out] at hJ3
    have Hb3:=hd_ (Hb.out.trans hk3.1)
    have HB3:=hd_ (hk3.2.trans HBk.out)
    clear hk3 x1 x2 m0 m1 m2 hR hy
    gi_wp2
    go_roundw
    case rel=>exact ⟨k + 1,by omega,by go_num,hJ3,Hb3,HB3⟩
    case measure=>simp [intOf]; omega
   ·rw [Hnext.out] at hJx3
    gi_wp2
    refine bodyPost_ret (results_none rfl _ _ _) rfl ?_
    exact ⟨⟨_,rfl⟩,.inr ⟨tl.attach.take (k + 1),List.take_prefix _ _,hJx3⟩⟩
  ·have hlt':¬ (k:Int) < tl.length:=by omega
   have hall:tl.attach.take k=tl.attach:=List.take_of_length_le (by rw [List.length_attach]; omega)
   rw [hall] at hJk
   gi_wp2
   go_end0
   exact ⟨⟨_,rfl⟩,.inl hJk⟩
end Go.Proofs.YtnjedhgcfeoemaaGreatDoor

namespace Go.Proofs.YtnjedhgcfeoemaaGreatDoor
open Go.RowKit
theorem or_shift (H b:Nat) (hb:b < 4):(H * 4) ||| b=H * 4 + b:=by
 have:=Nat.shiftLeft_add_eq_or_of_lt (b:=b) (i:=2) hb H
 rw [Nat.shiftLeft_eq] at this
 exact this.symm
theorem bits_cat (H L:Nat) (hH:H < 4611686018427387904) (hL:L < 18446744073709551616):bits .or .u64 ((H:Int) * 4) ((L:Int) / 4611686018427387904)=((H * 4 + L / 4611686018427387904:Nat):Int):=by
 have h:=(bits_nat .u64 64 (by decide) (fun n h0 h1=>by rw [IntKind.wrap_u64]; omega) (H * 4) (L / 4611686018427387904) (by omega) (by omega)).2
 rw [or_shift H _ (by omega)] at h
 simpa using h
structure DigFit (j:Nat) (s:Nat×Nat×Nat):Prop where
 lo:s.1 < 9223372036854775808
 hi:s.2.1 < 9223372036854775808
 out:s.2.2 + 1≤7 * 2 ^ j
theorem digs_fit (p:Nat) (hp:2≤p) (hp2:p≤97):∀ j s,digs p 62 j=some s→DigFit j s
 | 0,s,h=>by
  simp only [digs,Option.some.injEq] at h
  subst h
  have h1:p < 2 ^ (p.log2 + 1):=Nat.lt_log2_self
  have h2:p.log2≤6:=by
   have:=(Nat.log2_lt (n:=p) (k:=7) (by omega)).2 (by omega)
   omega
  have h3:p * 2 ^ (62 - p.log2) < 2 ^ (p.log2 + 1) * 2 ^ (62 - p.log2):=Nat.mul_lt_mul_of_pos_right h1 (Nat.two_pow_pos _)
  rw [← Nat.pow_add,show p.log2 + 1 + (62 - p.log2)=63 by omega] at h3
  exact ⟨h3,h3,by simp; omega⟩
 | j + 1,s,h=>by
  simp only [digs] at h
  obtain ⟨t,ht,hs⟩:=Option.bind_eq_some_iff.1 h
  obtain ⟨f1,f2,f3⟩:=digs_fit p hp hp2 j t ht
  obtain ⟨l,g,o⟩:=t
  simp only at f1 f2 f3
  simp only [digStep] at hs
  have q1:l * l≤9223372036854775807 * 9223372036854775807:=Nat.mul_le_mul (by omega) (by omega)
  have q2:g * g≤9223372036854775807 * 9223372036854775807:=Nat.mul_le_mul (by omega) (by omega)
  have e:2 ^ (j + 1)=2 * 2 ^ j:=by rw [Nat.pow_succ]; omega
  rw [show (2:Nat) ^ 62=4611686018427387904 from rfl] at hs
  by_cases h1:2 * 4611686018427387904≤l * l / 4611686018427387904
  ·rw [if_pos h1] at hs
   cases hs
   exact ⟨by simp only; omega,by simp only; omega,by simp only; omega⟩
  ·rw [if_neg h1] at hs
   by_cases h2:2 * 4611686018427387904≤g * g / 4611686018427387904 + 1
   ·rw [if_pos h2] at hs; cases hs
   ·rw [if_neg h2] at hs
    cases hs
    exact ⟨by simp only; omega,by simp only; omega,by simp only; omega⟩
def fastV (p:Nat):Value:=match digs p 62 26 with
 | some s => .tuple #[.int .i64 s.2.2,.bool true]
 | none => .tuple #[.int .i64 0,.bool false]
theorem fast_any (w:World) (p:Nat) (hp:2≤p) (hp2:p≤97):Gives Tryz.prog 240 #[.int .i64 p] w (fastV p):=by
 unfold Gives
 have hln:=hd_ (Tryz.bits_Len p w (by omega) (by omega))
 rw [show ((p:Nat):Int).toNat=p from rfl,bitLen_log p (by omega) hp2] at hln
 have hk:p.log2≤6:=by
  have:=(Nat.log2_lt (n:=p) (k:=7) (by omega)).2 (by omega)
  omega
 have hw1:IntKind.i64.wrap (((p.log2 + 1:Nat):Int) - 1)=(p.log2:Int):=by rw [show ((p.log2 + 1:Nat):Int) - 1=(p.log2:Int) by omega]; exact iw_ _ (by omega)
 have hw2:IntKind.u64.wrap (p:Int)=p:=IntWalk.u64_in _ (by omega)
 have hw3:IntKind.i64.wrap (62 - (p.log2:Int))=((62 - p.log2:Nat):Int):=by rw [show 62 - (p.log2:Int)=((62 - p.log2:Nat):Int) by omega]; exact iw_ _ (by omega)
 go_enter Tryz.func240,Tryz.ntmps240
 go_wp2_with fail
 refine cm_ hln.out ?_
 rintro e w1 ⟨rfl,rfl⟩
 have hw4:IntKind.u64.wrap ((p:Int) * 2 ^ (62 - p.log2))=((p * 2 ^ (62 - p.log2):Nat):Int):=by
  have h0:=(digs_fit p hp hp2 0 _ rfl).lo
  simp only at h0
  rw [show ((p * 2 ^ (62 - p.log2):Nat):Int)=(p:Int) * 2 ^ (62 - p.log2) by simp]
  rw [← show ((p * 2 ^ (62 - p.log2):Nat):Int)=(p:Int) * 2 ^ (62 - p.log2) by simp]
  exact IntWalk.u64_in _ (by omega)
 have H0:Hid (digs p 62 0=some (p * 2 ^ (62 - p.log2),p * 2 ^ (62 - p.log2),p.log2)):=rfl
 have Hfit:=hd_ (digs_fit p hp hp2)
 have Hmul:=hd_ (fun x hx=>Tryz.bits_Mul64 x x hx hx w1)
 clear hln
 go_wp2_with fail
 go_loopw [5,6,7,21] (fun a b c i wr=>∃ (j lo hi o:Nat),j≤26∧Hid (digs p 62 j=some (lo,hi,o))∧a = .int .u64 lo∧b = .int .u64 hi∧c = .int .i64 o∧i = .int .i64 j∧wr=w1) (fun _ _ _ i _=>26 - (intOf i).toNat)
 case atStart=>exact ⟨0,_,_,_,by omega,H0,rfl,rfl,rfl,rfl,rfl⟩
 case round =>
  obtain ⟨j,lo,hi,o,hj,Hd,rfl,rfl,rfl,rfl,rfl⟩:=hrel
  by_cases hlt:j < 26
  ·have hlt':(j:Int) < 26:=by omega
   obtain ⟨f1,f2,f3⟩:=Hfit.out j _ Hd.out
   simp only at f1 f2 f3
   have hpw:2 ^ j≤2 ^ 26:=Nat.pow_le_pow_right (by decide) (by omega)
   rw [show (2:Nat) ^ 26=67108864 from rfl] at hpw
   have ho:o≤469762048:=by omega
   have q1:lo * lo≤9223372036854775807 * 9223372036854775807:=Nat.mul_le_mul (by omega) (by omega)
   have q2:hi * hi≤9223372036854775807 * 9223372036854775807:=Nat.mul_le_mul (by omega) (by omega)
   have hm1:=Hmul.out lo (by omega)
   have hm2:=Hmul.out hi (by omega)
   have Hstep:Hid (digs p 62 (j + 1)=digStep (2 ^ 62) (lo,hi,o)):=by
    show _=_
    simp only [digs,Hd.out,Option.bind_some]
   have hh1:lo * lo / 18446744073709551616 < 4611686018427387904:=by omega
   have hl1:lo * lo % 18446744073709551616 < 18446744073709551616:=Nat.mod_lt _ (by decide)
   have hx1:lo * lo / 18446744073709551616 * 4 + lo * lo % 18446744073709551616 / 4611686018427387904=lo * lo / 4611686018427387904:=by omega
   have hh2:hi * hi / 18446744073709551616 < 4611686018427387904:=by omega
   have hl2:hi * hi % 18446744073709551616 < 18446744073709551616:=Nat.mod_lt _ (by decide)
   have hx2:hi * hi / 18446744073709551616 * 4 + hi * hi % 18446744073709551616 / 4611686018427387904=hi * hi / 4611686018427387904:=by omega
   have hb1:=bits_cat _ _ hh1 hl1
   have hb2:=bits_cat _ _ hh2 hl2
   rw [hx1] at hb1
   rw [hx2] at hb2
   have hX1:lo * lo / 4611686018427387904≤18446744073709551612:=by omega
   have hX2:hi * hi / 4611686018427387904≤18446744073709551612:=by omega
   simp only [digStep] at Hstep
   rw [show (2:Nat) ^ 62=4611686018427387904 from rfl] at Hstep
   clear f3 hpw hx1 hx2 q1 q2
   generalize lo * lo / 18446744073709551616=H1 at *
   generalize lo * lo % 18446744073709551616=L1 at *
   generalize hi * hi / 18446744073709551616=H2 at *
   generalize hi * hi % 18446744073709551616=L2 at *
   generalize lo * lo / 4611686018427387904=X1 at *
   generalize hi * hi / 4611686018427387904=X2 at *
   clear f1 f2
   obtain ⟨x1,hx1⟩:∃ x1:Int,(X1:Int)=x1:=⟨_,rfl⟩
   obtain ⟨x2,hx2⟩:∃ x2:Int,(X2:Int) + 1=x2:=⟨_,rfl⟩
   have hwX:IntKind.u64.wrap ((X2:Int) + 1)=(X2:Int) + 1:=IntWalk.u64_in _ (by omega)
   have hx2':(X2:Int)=x2 - 1:=by omega
   rw [hx1] at hb1
   rw [hx2'] at hb2 hwX
   have hwX2:IntKind.u64.wrap (x2 - 1 + 1)=x2:=by rw [hwX]; omega
   have Hx1:=hd_ hx1
   have Hx2:=hd_ hx2
   have hx1b:0≤x1∧x1≤18446744073709551612:=by omega
   have hx2b:1≤x2∧x2≤18446744073709551613:=by omega
   clear hwX hx1 hx2 hx2'
   have hwH1:IntKind.u64.wrap ((H1:Int) * 4)=(H1:Int) * 4:=IntWalk.u64_in _ (by omega)
   have hwH2:IntKind.u64.wrap ((H2:Int) * 4)=(H2:Int) * 4:=IntWalk.u64_in _ (by omega)
   clear hX1 hX2 hh1 hh2 hl1 hl2
   go_wp2_with fail
   refine cm_ hm1 ?_
   rintro e w2 ⟨rfl,rfl⟩
   clear hm1
   go_wp2_with fail
   refine cm_ hm2 ?_
   rintro e w2 ⟨rfl,rfl⟩
   clear hm2
   go_wp2_with fail
   ·rename_i hc1
    have Hst:Hid (digs p 62 (j + 1)=some (X1 / 2,(X2 + 1) / 2 + 1,2 * o + 1)):=by
     show _=_
     rw [Hstep.out,if_pos (by have:=Hx1.out; omega)]
    go_roundw
    case rel=>exact ⟨j + 1,X1 / 2,(X2 + 1) / 2 + 1,2 * o + 1,by omega,Hst,by rw [← Hx1.out]; go_num,by rw [← Hx2.out]; go_num,by go_num,by go_num,trivial⟩
    case measure=>simp [intOf]; omega
   ·rename_i hc1 hc2
    have Hst:Hid (digs p 62 (j + 1)=none):=by
     show _=_
     rw [Hstep.out,if_neg (by have:=Hx1.out; omega),if_pos (by have:=Hx2.out; omega)]
    have Hnone:Hid (fastV p = .tuple #[.int .i64 0,.bool false]):=by
     have key:∀ m,digs p 62 (j + 1 + m)=none:=fun m=>by
      induction m with
      | zero=>exact Hst.out
      | succ m ih=>rw [← Nat.add_assoc]; show (digs p 62 (j + 1 + m)).bind _=none; rw [ih]; rfl
     show _=_
     unfold fastV
     have:=key (25 - j)
     rw [show j + 1 + (25 - j)=26 by omega] at this
     rw [this]
    go_ret2
    exact ⟨by rw [Hnone.out]; rfl,Below.refl _ _⟩
   ·rename_i hc1 hc2
    have Hst:Hid (digs p 62 (j + 1)=some (X1,X2 + 1,2 * o)):=by
     show _=_
     rw [Hstep.out,if_neg (by have:=Hx1.out; omega),if_neg (by have:=Hx2.out; omega)]
    go_roundw
    case rel=>exact ⟨j + 1,X1,X2 + 1,2 * o,by omega,Hst,by rw [← Hx1.out],by rw [← Hx2.out]; go_num,by go_num,by go_num,trivial⟩
    case measure=>simp [intOf]; omega
  ·have hlt':¬ (j:Int) < 26:=by omega
   have hj26:j=26:=by omega
   subst hj26
   have Hsome:Hid (fastV p = .tuple #[.int .i64 o,.bool true]):=by
    show _=_
    unfold fastV
    rw [Hd.out]
   go_wp2
   go_ret2
   exact ⟨by rw [Hsome.out]; rfl,Below.refl _ _⟩
end Go.Proofs.YtnjedhgcfeoemaaGreatDoor

namespace Go.Proofs.YtnjedhgcfeoemaaGreatDoor
open Go Go.Sort
section
variable {P:Program} {ops:Array Oper} {md:Region.Mode} {cs:List (Nat×(World→Prop))}
def noEnter2:Op→Bool
 | .move _ | .assign _ | .load _ _ | .fieldAddr _ _ _ | .indexAddr _ _ _ | .binOp _ _ _ _ _=>true
 | .call c=>match c.callee with
  | .builtin .min | .builtin .max | .builtin .len=>true
  | _=>false
 | _=>false
theorem no_enter2 {o:Oper} {a:Act} {w w':World} {f:FuncId} {args:Array Value} (ho:noEnter2 o.op=true) (h:(execOp a.eval o).run P w = .ok (.enter f args) w'):False:=by
 have cases5:(∃ x,o.op = .move x)∨(∃ x,o.op = .assign x)∨(∃ t x,o.op = .load t x)∨(∃ t x k,o.op = .fieldAddr t x k)∨(∃ t x y,o.op = .indexAddr t x y)∨(∃ b t x y r,o.op = .binOp b t x y r)∨(∃ c,o.op = .call c):=by
  cases hop:o.op <;> rw [hop] at ho <;> first | (simp [noEnter2] at ho; done) | simp
 rcases cases5 with ⟨x,hop⟩ | ⟨x,hop⟩ | ⟨t,x,hop⟩ | ⟨t,x,k,hop⟩ | ⟨t,x,y,hop⟩ | ⟨b,t,x,y,r,hop⟩ | ⟨c,hop⟩
 ·rw [BigFrame.run_move x hop] at h; cases h
 ·rw [BigFrame.run_assign x hop] at h; cases h
 ·unfold execOp at h; rw [hop] at h; exact RP.value_no_enter h
 ·unfold execOp at h; rw [hop] at h; exact RP.value_no_enter h
 ·unfold execOp at h; rw [hop] at h; exact RP.value_no_enter h
 ·unfold execOp at h; rw [hop] at h; exact RP.value_no_enter h
 ·rw [hop] at ho
  unfold execOp at h
  rw [hop] at h
  unfold noEnter2 at ho
  simp only at ho h
  unfold resolve at h
  cases hc:c.callee with
  | value x=>rw [hc] at ho; cases ho
  | invoke x y=>rw [hc] at ho; cases ho
  | builtin b =>
   rw [hc] at ho h
   simp only [Sem.run_bind,Sem.run_pure,Result.andThen_ok,invoke] at h
   cases b <;> first | (simp at ho; done) | (unfold builtin at h; exact RP.value_no_enter h)
theorem still_of_quiet2 {D:World→Prop} {o:Oper} {a:Act} {w:World} {v:Value} (ho:noEnter2 o.op=true) (h:o.quietAt P a D w v) {K:Act→World→Prop} (hk:K (a.put o.dst v) w):o.wp P a w K (fun _ _ _=>False):=by
 unfold Oper.quietAt at h
 unfold Oper.wp
 have hne:=@no_enter2 P o a w
 generalize (execOp a.eval o).run P w=r at *
 cases r with
 | ok n w' =>
  cases n <;> simp only [Oper.quietUpon] at h <;> simp only [Oper.upon]
  case value u=>obtain ⟨rfl,rfl⟩:=h; exact hk
  case skip=>obtain ⟨rfl,rfl⟩:=h; exact hk
  case enter f args=>exact (hne ho rfl).elim
 | halt x w'=>simp only [Oper.quietUpon] at h
def upB (listed:Array Bool) (s:Nat):Bool:=listed.getD s false
def anyR2 (P:Program) (md:Region.Mode) (ops:Array Oper) (cs:List (Nat×(World→Prop))) (Q:Act→World→Prop):Nat→Array Bool→Act→World→Prop
 | 0,listed,a,w=>Region.ready md ops listed=[]∧Q a w
 | f + 1,listed,a,w=>Region.ready md ops listed≠[]∧∀ i∈Region.ready md ops listed,
   wpOp P ops (fun _ _ _=>False) i (fun a' w'=>SafeL cs (upB (listed.setIfInBounds i true)) w'∧anyR2 P md ops cs Q f (listed.setIfInBounds i true) a' w') a w
theorem reads_op2 {i:Nat} {o:Oper} {v:Value} {a:Act} {w:World} {listed:Array Bool} (hi:ops[i]?=some o) (hne:noEnter2 o.op=true) (inv:RP.RInv md ops listed) (hr:i∈Region.ready md ops listed) (hs:SafeL cs (upB listed) w)
  (hy:ReadsIn2 P ops md cs i o v a) {K:Act→World→Prop} (hk:K (a.put o.dst v) w):wpOp P ops (fun _ _ _=>False) i K a w:=by
 have key:∀ D:World→Prop,D w→YieldsIn P ops D o v a→wpOp P ops (fun _ _ _=>False) i K a w:=fun D hD h=>by
  unfold wpOp
  simp only [hi]
  rcases h with ⟨h1,h2⟩ | ⟨h1,rfl⟩
  ·simp only [h1,if_true]
   exact .inl (still_of_quiet2 hne (h2 w hD) hk)
  ·simp only [h1,Bool.false_eq_true,if_false]
   exact hk
 rcases hy with ⟨c,hc,hw,h⟩ | h
 ·refine key c.2 ?_ h
  rcases hs.get c hc with hs | hs
  ·have:=RP.reach_listed inv 4 c.1 i hw hs
   rw [getD_both (mem_ready.1 hr).1] at this
   cases this
  ·exact hs
 ·exact key _ trivial h
theorem wpOp_put2 {j:Nat} {oi oj:Oper} {v:Value} (hj:ops[j]?=some oj) (hap:oi.apart ops oj=true)
  (hsi:∀ cs b,oi.op ≠ .select cs b) (hsj:∀ cs b,oj.op ≠ .select cs b) {i:Nat} {K:Act→World→Prop} {a:Act} {w:World}
  (hy:ReadsIn2 P ops md cs i oi v a) (h:wpOp P ops (fun _ _ _=>False) j K (a.put oi.dst v) w) :
  wpOp P ops (fun _ _ _=>False) j (fun a' w'=>ReadsIn2 P ops md cs i oi v a'∧K (a'.put oi.dst v) w') a w:=by
 obtain ⟨h1,h2,h3⟩:=Oper.apart_spec hap
 have keep:∀ (a:Act),ReadsIn2 P ops md cs i oi v a→∀ u,ReadsIn2 P ops md cs i oi v (a.put oj.dst u):=fun a hy u =>
  hy.of_same (execOp_put oi hsi a oj.dst u h3) (wanted_put oi a oj.dst u h3)
 have keepd:∀ d,ReadsIn2 P ops md cs i oi v ({ a with defers:=d :: a.defers }:Act):=fun d=>hy.of_same rfl rfl
 unfold wpOp at *
 simp only [hj] at *
 rw [wanted_put oj a oi.dst v h1] at h
 split
 ·rename_i hw
  simp only [hw,if_true] at h
  left
  rcases h with h | ⟨_,_,_,hf⟩
  ·unfold Oper.wp at *
   rw [execOp_put oj hsj a oi.dst v h1] at h
   generalize (execOp a.eval oj).run P w=r at *
   cases r with
   | ok n w' =>
    cases n <;> simp only [Oper.upon] at h ⊢
    case value u=>exact ⟨keep a hy u,by rw [← Act.put_comm a v u h2]; exact h⟩
    case skip=>exact ⟨keep a hy undef,by rw [← Act.put_comm a v undef h2]; exact h⟩
    case defer d =>
     refine ⟨keep _ (keepd d) undef,?_⟩
     rw [Act.put_defers] at h
     rw [← Act.put_comm _ v undef h2]
     exact h
    case enter f args =>
     exact cm_ h (fun e w'' he=>by
      cases e
      case returned u=>exact ⟨keep a hy u,by rw [← Act.put_comm a v u h2]; exact he⟩
      case panicked c=>exact he
      case outgrown=>obtain ⟨_,_,hf⟩:=he; exact hf.elim)
    case row row args=>exact Rows.mono h (fun u w'' he=>⟨keep a hy u,by rw [← Act.put_comm a v u h2]; exact he⟩)
    all_goals exact h
   | halt x w'=>cases x <;> simp only [Oper.upon] at h <;> exact h.elim
  ·exact hf.elim
 ·rename_i hw
  simp only [hw] at h
  exact ⟨keep a hy _,by rw [← Act.put_comm a v undef h2]; exact h⟩
theorem anyR2_first {i:Nat} {oi:Oper} {v:Value} {Q:Act→World→Prop} (hi:ops[i]?=some oi) (his:∀ c∈cs,i≠c.1) (hne:noEnter2 oi.op=true) (hsel:∀ (j:Nat) (o:Oper) cs b,ops[j]?=some o→o.op ≠ .select cs b) :
  ∀ (f:Nat) (listed:Array Bool) (a:Act) (w:World),RP.RInv md ops listed →
   (∀ j oj,ops[j]?=some oj→j≠i→listed.getD j true=false→(∀ e∈oj.after,Region.binds md e=true→e.on≠i)→oi.apart ops oj=true) →
   i∈Region.ready md ops listed→ReadsIn2 P ops md cs i oi v a→SafeL cs (upB listed) w →
   anyR2 P md ops cs Q f (listed.setIfInBounds i true) (a.put oi.dst v) w→anyR2 P md ops cs Q (f + 1) listed a w:=by
 have hstep:∀ (listed:Array Bool) (w:World),SafeL cs (upB listed) w→SafeL cs (upB (listed.setIfInBounds i true)) w:=fun listed w h=>h.mono (fun s hs=>getD_set_true hs)
 have hback:∀ (cs':List (Nat×(World→Prop))),(∀ c∈cs',i≠c.1)→∀ (listed:Array Bool) (w:World),SafeL cs' (upB (listed.setIfInBounds i true)) w→SafeL cs' (upB listed) w:=by
  intro cs'
  induction cs' with
  | nil=>intro _ _ _ _; trivial
  | cons c cs' ih =>
   intro hi' listed w h
   refine ⟨h.1.imp (fun hb=>?_) id,ih (fun d hd=>hi' d (List.mem_cons_of_mem _ hd)) listed w h.2⟩
   unfold upB at hb ⊢
   rw [getD_set_ne false (hi' c (List.mem_cons_self ..))] at hb
   exact hb
 intro f
 induction f with
 | zero =>
  intro listed a w inv _ hr hy hs H
  refine ⟨fun h=>(by rw [h] at hr; cases hr),fun j hj=>?_⟩
  by_cases hji:j=i
  ·subst hji
   exact reads_op2 hi hne inv hr hs hy ⟨hstep _ _ hs,H⟩
  ·have:=ready_mono hj hji
   rw [H.1] at this
   cases this
 | succ f ih =>
  intro listed a w inv hfree hr hy hs H
  have hun:=(mem_ready.1 hr).1
  refine ⟨fun h=>(by rw [h] at hr; cases hr),fun j hj=>?_⟩
  by_cases hji:j=i
  ·subst hji
   exact reads_op2 hi hne inv hr hs hy ⟨hstep _ _ hs,H⟩
  ·have h1:=H.2 j (ready_mono hj hji)
   obtain ⟨hjun,oj,hoj,hall⟩:=mem_ready.1 hj
   have hnot:∀ e∈oj.after,Region.binds md e=true→e.on≠i:=fun e he hb heq=>by
    have h1:=hall e he hb
    rw [heq,getD_both hun] at h1
    cases h1
   have h2:=wpOp_put2 hoj (hfree j oj hoj hji hjun hnot) (fun cs b=>hsel i oi cs b hi) (fun cs b=>hsel j oj cs b hoj) hy h1
   have hfree':∀ k ok,ops[k]?=some ok→k≠i→(listed.setIfInBounds j true).getD k true=false →
     (∀ e∈ok.after,Region.binds md e=true→e.on≠i)→oi.apart ops ok=true:=fun k ok hk hki hun hno=>by
    refine hfree k ok hk hki ?_ hno
    by_cases hjk:j=k
    ·subst hjk; exact hjun
    ·rw [getD_set_ne true hjk] at hun; exact hun
   have hr':=ready_mono hr (Ne.symm hji)
   refine wpOp_mono (fun a' w' h3=>?_) h2
   obtain ⟨hy',hs',H'⟩:=h3
   have hs2:SafeL cs (upB (listed.setIfInBounds j true)) w':=by
    rw [Array.setIfInBounds_comm _ _ (Ne.symm hji)] at hs'
    exact hback cs his _ _ hs'
   refine ⟨hs2,ih (listed.setIfInBounds j true) a' w' (inv.set hj) hfree' hr' hy' hs2 ?_⟩
   rw [Array.setIfInBounds_comm _ _ hji]
   exact H'
def ordB2 (md:Region.Mode) (ops:Array Oper) (ss:List Nat):List (Nat×Nat)→Array Bool→Bool
 | [],listed=>(Region.ready md ops listed).isEmpty
 | (k,i) :: l,listed =>
  (if k=0 then decide (Region.ready md ops listed=[i])
  else (Region.ready md ops listed).contains i && Region.free md ops listed i && (match ops[i]? with | some o=>noEnter2 o.op | none=>false) && (ss.all fun s=>decide (i≠s)) && (k == 1 || RP.reachB md ops 4 (k - 2) i)) &&
  ordB2 md ops ss l (listed.setIfInBounds i true)
def walkR2 (P:Program) (ops:Array Oper) (cs:List (Nat×(World→Prop))) (Q:Act→World→Prop):List (Nat×Nat)→(Nat→Bool)→Act→World→Prop
 | [],_,a,w=>Q a w
 | (k,i) :: l,b,a,w =>
  if k=0 then wpList P ops (fun e a' w'=>e = .normal∧SafeL cs (fun s=>b s || i == s) w'∧walkR2 P ops cs Q l (fun s=>b s || i == s) a' w') (ops[i]?).toList a w
  else if k=1 then wpQuiet P ops (fun _=>True) (fun a'=>walkR2 P ops cs Q l b a' w) (ops[i]?).toList a
  else ∃ c∈cs,c.1=k - 2∧wpQuiet P ops c.2 (fun a'=>walkR2 P ops cs Q l b a' w) (ops[i]?).toList a
theorem SafeL.congr_on:∀ {cs:List (Nat×(World→Prop))} {b b':Nat→Bool} {w:World},(∀ c∈cs,b c.1=b' c.1)→SafeL cs b w→SafeL cs b' w
 | [],_,_,_,_,_=>trivial
 | c :: cs,b,b',w,hb,h=>⟨h.1.imp (fun h1=>by rw [← hb c (List.mem_cons_self ..)]; exact h1) id,SafeL.congr_on (fun d hd=>hb d (List.mem_cons_of_mem _ hd)) h.2⟩
theorem anyR2_walk {Q:Act→World→Prop} (hsel:Region.noSelect ops=true) :
  ∀ (l:List (Nat×Nat)) (b:Nat→Bool) (listed:Array Bool) (a:Act) (w:World),(∀ c∈cs,b c.1=upB listed c.1)→RP.RInv md ops listed→SafeL cs (upB listed) w→ordB2 md ops (cs.map Prod.fst) l listed=true →
   walkR2 P ops cs Q l b a w→anyR2 P md ops cs Q l.length listed a w
 | [],b,listed,a,w,_,_,_,hB,h=>⟨by simpa [ordB2] using hB,h⟩
 | (k,i) :: l,b,listed,a,w,hb,inv,hs,hB,h=>by
  simp only [ordB2,Bool.and_eq_true] at hB
  obtain ⟨hB1,hB2⟩:=hB
  by_cases hk:k=0
  ·subst hk
   simp only [if_true,decide_eq_true_eq] at hB1
   have hr:i∈Region.ready md ops listed:=by rw [hB1]; exact List.mem_singleton.2 rfl
   obtain ⟨hun,o,ho,_⟩:=mem_ready.1 hr
   have hlt:i < listed.size:=by rw [inv.size]; exact (Array.getElem?_eq_some_iff.1 ho).1
   have hgs:∀ c∈cs,(b c.1 || i == c.1)=upB (listed.setIfInBounds i true) c.1:=fun c hc=>by
    rw [hb c hc]
    unfold upB
    by_cases his:i=c.1
    ·rw [his] at hlt ⊢
     simp [hlt]
    ·rw [getD_set_ne false his]
     simp [his]
   refine ⟨by rw [hB1]; simp,fun j hj=>?_⟩
   rw [hB1] at hj
   obtain rfl:=List.mem_singleton.1 hj
   simp only [walkR2,if_true,ho,Option.toList] at h
   have h2:wpOp P ops (fun e a' w'=>e = .normal∧SafeL cs (fun s=>b s || j == s) w'∧walkR2 P ops cs Q l (fun s=>b s || j == s) a' w') j (fun a' w'=>SafeL cs (fun s=>b s || j == s) w'∧walkR2 P ops cs Q l (fun s=>b s || j == s) a' w') a w:=by
    unfold wpOp
    simp only [ho]
    simp only [wpList,true_and] at h
    exact h
   have h3:=RP.wpOp_strong (fun e a' w' hq=>hq.1) h2
   refine wpOp_mono (fun a' w' h4=>?_) h3
   have hs2:SafeL cs (upB (listed.setIfInBounds j true)) w':=h4.1.congr_on hgs
   exact ⟨hs2,anyR2_walk hsel l _ _ a' w' hgs (inv.set hr) hs2 hB2 h4.2⟩
  ·rw [if_neg hk] at hB1
   simp only [Bool.and_eq_true,Bool.or_eq_true,beq_iff_eq,List.all_eq_true,decide_eq_true_eq] at hB1
   obtain ⟨⟨⟨⟨hr,hf⟩,hne⟩,his⟩,hw⟩:=hB1
   have hr':i∈Region.ready md ops listed:=by simpa using hr
   obtain ⟨_,o,ho,_⟩:=mem_ready.1 hr'
   have hne':noEnter2 o.op=true:=by rw [ho] at hne; exact hne
   have his':∀ c∈cs,i≠c.1:=fun c hc=>his c.1 (List.mem_map.2 ⟨c,hc,rfl⟩)
   have hs2:SafeL cs (upB (listed.setIfInBounds i true)) w:=hs.mono (fun s hs=>getD_set_true hs)
   simp only [walkR2,if_neg hk] at h
   have hread:∃ v,ReadsIn2 P ops md cs i o v a∧walkR2 P ops cs Q l b (a.put o.dst v) w:=by
    by_cases h2:k=1
    ·rw [if_pos h2] at h
     obtain ⟨v,hy,hK⟩:=yieldsIn_of_qOp ho (RP.qOp_of_list ho h)
     exact ⟨v,.inr hy,hK⟩
    ·rw [if_neg h2] at h
     obtain ⟨c,hc,hck,h⟩:=h
     obtain ⟨v,hy,hK⟩:=yieldsIn_of_qOp ho (RP.qOp_of_list ho h)
     exact ⟨v,.inl ⟨c,hc,by rw [hck]; exact hw.resolve_left h2,hy⟩,hK⟩
   obtain ⟨v,hy,hK⟩:=hread
   have hb2:∀ c∈cs,b c.1=upB (listed.setIfInBounds i true) c.1:=fun c hc=>by
    rw [hb c hc]; unfold upB; rw [getD_set_ne false (his' c hc)]
   exact anyR2_first ho his' hne' (Region.noSelect_spec hsel) l.length listed a w inv (Region.free_spec ho hf) hr' hy hs
    (anyR2_walk hsel l b _ _ w hb2 (inv.set hr') hs2 hB2 hK)
theorem start2 {ord:List (Nat×Nat)} {l:List Oper} {a:Act} {w:World} {Q:Act→World→Prop} (hsel:Region.noSelect l.toArray=true) (hord:ordB2 .any l.toArray (cs.map Prod.fst) ord (Array.replicate l.length false)=true)
  (hC:SafeL cs (fun _=>false) w) (h:walkR2 P l.toArray cs Q ord (fun _=>false) a w):anyR2 P .any l.toArray cs Q ord.length (Array.replicate l.length false) a w:=by
 have hf:∀ s,upB (Array.replicate l.length false) s=false:=fun s=>getD_replicate_false _ _
 refine anyR2_walk hsel ord _ _ a w (fun c _=>(hf c.1).symm) ⟨by simp,fun j oj _ hl=>(by rw [getD_replicate_false] at hl; cases hl)⟩ (hC.congr_on (fun c _=>(hf c.1).symm)) hord h
theorem wpOpIn_of_wpOp {i l0 n:Nat} {a:Act} {w:World} {K K':Act→World→Prop} {Q':Exit→Act→World→Prop} (hnd:∀ o c,ops[i]?=some o→o.op ≠ .defer c) (_hnr:∀ o c,ops[i]?=some o→o.op ≠ .go c) (hk:∀ a w,K a w→K' a w)
  (h:wpOp P ops (fun _ _ _=>False) i K a w):wpOpIn (Fence.wide.inRound l0) n P ops Q' i K' a w:=by
 unfold wpOp at h
 unfold wpOpIn
 split
 ·rename_i ho; simp only [ho] at h; exact hk _ _ h
 ·rename_i o ho
  simp only [ho] at h
  split
  ·rename_i hw
   simp only [hw,if_true] at h
   rcases h with h | ⟨_,_,_,hf⟩
   ·refine ⟨fun _ _=>trivial,?_⟩
    unfold Oper.wp at h
    rw [show (Fence.wide.inRound l0).round=some l0 from rfl,Oper.semAt_some l0 _ _ (fun c=>hnd o c ho)]
    generalize (execOp a.eval o).run P w=r at *
    cases r with
    | ok x w' =>
     cases x <;> simp only [Oper.upon,Oper.uponIn] at h ⊢
     case value=>exact hk _ _ h
     case skip=>exact hk _ _ h
     case defer=>exact hk _ _ h
     case enter f args =>
      refine ⟨fun hd=>(by cases hd),?_⟩
      have h2:=Calls.mono h (R':=fun e w''=>match e,w'' with
       | .returned v,w''=>K' (a.put o.dst v) w''
       | .panicked chain,w''=>Q' (.panic chain) a w''
       | .outgrown,_=>LetsOut Q') (fun e w'' he=>by cases e <;> first | exact hk _ _ he | exact he.elim | (obtain ⟨_,_,hf⟩:=he; exact hf.elim))
      exact CallsIn.inRound l0 (callsIn_wide.2 h2)
     case row row args=>exact ⟨fun hd=>(by cases hd),fun c cs _=>let ⟨v,w',r,s⟩:=h c cs; ⟨v,w',hk _ _ r,stepsIn_wide.2 s⟩⟩
    | halt x w'=>cases x <;> simp only [Oper.upon] at h <;> exact h.elim
   ·exact hf.elim
  ·rename_i hw; simp only [hw] at h; exact ⟨fun _ _=>trivial,hk _ _ h⟩
def plainOps (ops:Array Oper):Bool:=ops.all fun o=>match o.op with | .defer _ | .go _=>false | _=>true
theorem plainOps_spec {ops:Array Oper} (h:plainOps ops=true) {i:Nat} {o:Oper} (hi:ops[i]?=some o):(∀ c,o.op ≠ .defer c)∧(∀ c,o.op ≠ .go c):=by
 have hm:o∈ops:=Array.mem_of_getElem? hi
 have:=Array.all_eq_true'.1 h o hm
 refine ⟨fun c hc=>?_,fun c hc=>?_⟩ <;> rw [hc] at this <;> cases this
theorem anyR2_anyIn {l0 n:Nat} {Q:Act→World→Prop} {Q':Exit→Act→World→Prop} (hpl:plainOps ops=true) (hQ:∀ a w,Q a w→Q' .normal a w) :
  ∀ (f:Nat) (listed:Array Bool) (a:Act) (w:World),anyR2 P md ops cs Q f listed a w→wpAnyIn (Fence.wide.inRound l0) n P md ops Q' f listed a w
 | 0,_,_,_,h=>⟨h.1,hQ _ _ h.2⟩
 | f + 1,_,_,_,h=>⟨fun h0=>absurd h0 h.1,fun i hi=>wpOpIn_of_wpOp (fun _ c ho=>(plainOps_spec hpl ho).1 c) (fun _ c ho=>(plainOps_spec hpl ho).2 c) (fun a' w' h'=>anyR2_anyIn hpl hQ f _ a' w' h'.2) (h.2 i hi)⟩
theorem wpIn_region_readers2 {id l0 n:Nat} {Q:Exit→Act→World→Prop} {a:Act} {w:World} {l:List Oper} (ord:List (Nat×Nat)) (cs:List (Nat×(World→Prop))) (hm:P.follows .mixedOrders=true)
  (hB:(Region.noSelect l.toArray && decide (ord.length=l.length) && plainOps l.toArray && ordB2 .any l.toArray (cs.map Prod.fst) ord (Array.replicate l.length false))=true)
  (hC:SafeL cs (fun _=>false) { w with drawn:=w.drawn + 1 }) (h:walkR2 P l.toArray cs (fun a' w'=>Q .normal a' w') ord (fun _=>false) a { w with drawn:=w.drawn + 1 }):(Code.region id l.toArray true).wpIn (Fence.wide.inRound l0) n P Q a w:=by
 simp only [Bool.and_eq_true,decide_eq_true_eq] at hB
 obtain ⟨⟨⟨hsel,hlen⟩,hpl⟩,hord⟩:=hB
 refine wpIn_region_any hm ?_
 have:=anyR2_anyIn (l0:=l0) (n:=n) (Q':=Q) hpl (fun a w h=>h) _ _ _ _ (start2 hsel hord hC h)
 rw [hlen] at this
 simpa using this
theorem walkR2_read {s i:Nat} {Q:Act→World→Prop} {l:List (Nat×Nat)} {b:Nat→Bool} {a:Act} {w:World} {lo:List Oper} (c:Nat×(World→Prop)) (hc:c∈cs) (hs:c.1=s) (h:wpQuiet P lo.toArray c.2 (fun a'=>walkR2 P lo.toArray cs Q l b a' w) ((lo.drop i).take 1) a):walkR2 P lo.toArray cs Q ((s + 2,i) :: l) b a w:=by
 simp only [walkR2,RP.pick_one]
 rw [if_neg (by omega),if_neg (by omega)]
 exact ⟨c,hc,by omega,h⟩
theorem walkR2_any {i:Nat} {Q:Act→World→Prop} {l:List (Nat×Nat)} {b:Nat→Bool} {a:Act} {w:World} {lo:List Oper} (h:wpQuiet P lo.toArray (fun _=>True) (fun a'=>walkR2 P lo.toArray cs Q l b a' w) ((lo.drop i).take 1) a):walkR2 P lo.toArray cs Q ((1,i) :: l) b a w:=by
 simp only [walkR2,RP.pick_one]
 exact h
theorem walkR2_move {i:Nat} {Q:Act→World→Prop} {l:List (Nat×Nat)} {b:Nat→Bool} {a:Act} {w:World} {lo:List Oper}
  (h:wpList P lo.toArray (fun e a' w'=>e = .normal∧SafeL cs (fun s=>b s || i == s) w'∧walkR2 P lo.toArray cs Q l (fun s=>b s || i == s) a' w') ((lo.drop i).take 1) a w):walkR2 P lo.toArray cs Q ((0,i) :: l) b a w:=by
 simp only [walkR2,RP.pick_one]
 exact h
end
end Go.Proofs.YtnjedhgcfeoemaaGreatDoor

namespace Go.Proofs.YtnjedhgcfeoemaaGreatDoor
open Go.RowKit Go.Shelf
attribute [local go_sem] Oper.semAt_some
structure CellW (p:Addr) (v:Value) where
 w:World
 h:w.cell? p=some v
def nearV (most:Int) (tl:List (Int×Int)):Value :=
 if ∀ x∈tl,okT most x then .tuple #[.int .i64 (lowT tl),.int .i64 (highT tl),.bool true] else .tuple #[.int .i64 0,.int .i64 0,.bool false]
theorem keeps_of_below {W W':World} (h:Below W.heap.size W W'):KeepsOthers W W' :=
 ⟨h.size,fun k _ hk _=>(h.block k (Array.getElem?_eq_some_iff.1 hk).1).trans hk⟩
theorem one_cell {w:World} {g:Nat} {a:Value} {t:TypeId} (h:w.heap[g]?=some (.cells #[a] t (0,0))):w.cell? ⟨g,0,none⟩=some a∧w.frozen? ⟨g,0,none⟩=false :=
 ⟨by rw [cell_of_row w g 0 _ t (0,0) h]; rfl,by simp [World.frozen?,h]⟩
theorem boxes5 (w:World) (o1:Obj) (v2 v3 v4 v5:Value) (t2 t3 t4 t5:TypeId) (W:World) (hW:((((w.alloc o1).alloc (.cells #[v2] t2)).alloc (.cells #[v3] t3)).alloc (.cells #[v4] t4)).alloc (.cells #[v5] t5)=W) :
  W.heap[w.heap.size + 1]?=some (.cells #[v2] t2 (0,0))∧W.heap[w.heap.size + 1 + 1]?=some (.cells #[v3] t3 (0,0))∧W.heap[w.heap.size + 1 + 1 + 1]?=some (.cells #[v4] t4 (0,0))∧W.heap[w.heap.size + 1 + 1 + 1 + 1]?=some (.cells #[v5] t5 (0,0)):=by
 subst hW
 refine ⟨heap_old (heap_old (heap_old (heap_at _ _ _ _ (by simp)) _) _) _,heap_old (heap_old (heap_at _ _ _ _ (by simp)) _) _,heap_old (heap_at _ _ _ _ (by simp)) _,heap_at _ _ _ _ (by simp)⟩
theorem NearI.quits {B:Nat} {most:Int} {l:List (Int×Int)} {W:World} (h:NearI B most l W):NearX B (((W.setCell ⟨B + 1 + 1,0,none⟩ (.int .i64 0)).setCell ⟨B + 1 + 1 + 1,0,none⟩ (.int .i64 0)).setCell ⟨B + 1 + 1 + 1 + 1,0,none⟩ (.bool false)):=by
 refine ⟨?_,?_,?_⟩
 ·rw [World.cell?_setCell_other _ _ _ _ (by simp),World.cell?_setCell_other _ _ _ _ (by simp),World.cell?_setCell_same _ _ _ h.c4]
 ·rw [World.cell?_setCell_other _ _ _ _ (by simp),World.cell?_setCell_same _ _ _ (by rw [World.cell?_setCell_other _ _ _ _ (by simp)]; exact h.c5)]
 ·rw [World.cell?_setCell_same _ _ _ (by rw [World.cell?_setCell_other _ _ _ _ (by simp),World.cell?_setCell_other _ _ _ _ (by simp)]; exact h.c6)]
theorem near_kt {B:Nat} {W0 W W4:World} (hB:W0.heap.size=B) (hb:Below W0.heap.size W0 W) (hsz:B + 5 < W.heap.size) (h:Below W.heap.size W W4) (v5 v6:Value) :
  KT B (B + 5) W ((W4.setCell ⟨B + 1 + 1,0,none⟩ v5).setCell ⟨B + 1 + 1 + 1,0,none⟩ v6):=by
 subst hB
 refine ⟨((h.mono hb.size).setCell (p:=⟨W0.heap.size + 1 + 1,0,none⟩) (by show _≤W0.heap.size + 1 + 1; omega) _).setCell (p:=⟨W0.heap.size + 1 + 1 + 1,0,none⟩) (by show _≤W0.heap.size + 1 + 1 + 1; omega) _,?_⟩
 rw [obj_other (g:=W0.heap.size + 1 + 1 + 1) (k:=W0.heap.size + 5) (by omega),obj_other (g:=W0.heap.size + 1 + 1) (k:=W0.heap.size + 5) (by omega),h.block _ hsz]
theorem near_below {W0 W:World} (hb:Below W0.heap.size W0 W) (v5 v6:Value):Below W0.heap.size W0 ((W.setCell ⟨W0.heap.size + 1 + 1,0,none⟩ v5).setCell ⟨W0.heap.size + 1 + 1 + 1,0,none⟩ v6) :=
 (hb.setCell (p:=⟨W0.heap.size + 1 + 1,0,none⟩) (by show _≤W0.heap.size + 1 + 1; omega) _).setCell (p:=⟨W0.heap.size + 1 + 1 + 1,0,none⟩) (by show _≤W0.heap.size + 1 + 1 + 1; omega) _
def nearAct (w:World) (b1 b2:Option Addr) (d1 d2 D m:Nat) (most:Int) (p:Int) (k:ByteArray):Act:={ tmps := #[.agg (tcells b1 d1 b2 d2 m D),.int .i64 most,.pointer (some ⟨w.heap.size,0,none⟩),.pointer (some ⟨w.heap.size + 1,0,none⟩),.pointer (some ⟨w.heap.size + 1 + 1,0,none⟩),.pointer (some ⟨w.heap.size + 1 + 1 + 1,0,none⟩),.pointer (some ⟨w.heap.size + 1 + 1 + 1 + 1,0,none⟩),.int .i64 p,.string k,undef,undef,undef,undef,undef,.agg #[.slice b1 m d1,.slice b2 m d2,.string (dec D)],.func (.func 241) #[] #[.pointer (some ⟨w.heap.size + 1 + 1 + 1 + 1 + 1,0,none⟩)],.int .i64 p,.string k,undef,undef,undef,undef,undef,undef,undef,undef,undef,undef,undef,undef,undef,undef,undef,undef,undef,undef,undef,undef,undef,undef,undef,undef,undef,undef,undef,undef,undef,undef,undef,undef,undef,undef,undef,undef,undef,undef,undef,undef,undef,undef,undef,undef,undef,undef,undef,undef,undef,undef],defers:=[] }
theorem lowT_snoc (l:List (Int×Int)) (x:Int×Int):lowT (l ++ [x])=lowT l + min (x.2 * lgA x.1) (x.2 * lgB x.1):=by simp [lowT]
theorem highT_snoc (l:List (Int×Int)) (x:Int×Int):highT (l ++ [x])=highT l + max (x.2 * lgA x.1) (x.2 * lgB x.1):=by simp [highT]
theorem lgA_le (p:Int) (h1:2≤p) (h2:p≤97):0≤lgA p∧lgA p≤469762048:=by
 unfold lgA
 cases hq:digs p.toNat 62 26 with
 | none=>exact ⟨Int.le_refl _,by decide⟩
 | some s =>
  have hfit:=(digs_fit p.toNat (by omega) (by omega) 26 s hq).out
  have:(2:Nat) ^ 26=67108864:=rfl
  simp only
  omega
theorem prod_le {k a:Int} (hk : -10000000≤k∧k≤10000000) (ha:0≤a∧a≤469762049) : -4697620490000000≤k * a∧k * a≤4697620490000000:=by
 have h:(k * a).natAbs≤10000000 * 469762049:=by rw [Int.natAbs_mul]; exact Nat.mul_le_mul (by omega) (by omega)
 omega
theorem term_le {most:Int} (hm:most≤10000000) {x:Int×Int} (hx:okT most x) (hp:2≤x.1∧x.1≤97) :
  (-4697620490000000≤x.2 * lgA x.1∧x.2 * lgA x.1≤4697620490000000)∧(-4697620490000000≤x.2 * lgB x.1∧x.2 * lgB x.1≤4697620490000000):=by
 have ha:=lgA_le x.1 hp.1 hp.2
 have hk:=hx.1
 refine ⟨prod_le (by omega) (by omega),prod_le (by omega) ?_⟩
 unfold lgB
 split <;> omega
theorem sums_le {most:Int} (hm:most≤10000000):∀ (l:List (Int×Int)),(∀ x∈l,okT most x∧2≤x.1∧x.1≤97) →
  (-((l.length:Int) * 4697620490000000)≤lowT l∧lowT l≤(l.length:Int) * 4697620490000000)∧(-((l.length:Int) * 4697620490000000)≤highT l∧highT l≤(l.length:Int) * 4697620490000000)
 | [],_=>⟨⟨Int.le_refl _,Int.le_refl _⟩,⟨Int.le_refl _,Int.le_refl _⟩⟩
 | x :: l,h=>by
  have ih:=sums_le hm l (fun y hy=>h y (List.mem_cons_of_mem _ hy))
  have hx:=h x (List.mem_cons_self ..)
  have ht:=term_le hm hx.1 hx.2
  have e1:lowT (x :: l)=min (x.2 * lgA x.1) (x.2 * lgB x.1) + lowT l:=by simp [lowT]
  have e2:highT (x :: l)=max (x.2 * lgA x.1) (x.2 * lgB x.1) + highT l:=by simp [highT]
  rw [e1,e2,List.length_cons]
  omega
theorem near_any (w:World) (b1 b2:Option Addr) (d1 d2 D:Nat) (tl:List (Int×Int)) (most:Int) (hm0:0≤most) (hm:most≤10000000) (hl:tl.length≤1000)
  (hr1:Rd w b1 (ints (tl.map Prod.fst))) (hr2:Rd w b2 (strs (tl.map fun x=>itx x.2))) (hp:∀ x∈tl,2≤x.1∧x.1≤97) (hz:∀ x∈tl,ZNum x.2) (L:Laid w) :
  Gives Tryz.prog 210 #[.agg (tcells b1 d1 b2 d2 tl.length D),.int .i64 most] w (nearV most tl):=by
 unfold Gives
 refine (callsIn_wide (n:=3)).1 ?_
 refine callsIn_of_wp_marks Tryz.func210 rfl trivial ?_ rfl
 simp only [Tryz.ntmps210,List.size_toArray,List.length_cons,List.length_nil,Nat.reduceAdd,Nat.reduceSub,Array.replicate_succ,Array.replicate_zero,List.push_toArray,List.append_toArray,List.nil_append,List.cons_append]
 have Hsz:Hid (∀ x∈tl,∀ W,Below w.heap.size w W→Gives Tryz.prog 239 #[.string (itx x.2)] W (if -9223372036854775808≤x.2∧x.2≤9223372036854775807 then .tuple #[.int .i64 x.2,.bool true] else .tuple #[.int .i64 0,.bool false])):=fun x hx W hW=>smallz_any W x.2 (hz x hx) (L.below hW)
 have Hfa:Hid (∀ x∈tl,∀ W,Gives Tryz.prog 240 #[.int .i64 x.1] W (fastV x.1.toNat)):=fun x hx W=>by
  have h1:=hp x hx
  obtain ⟨q,hq⟩:=Int.eq_ofNat_of_zero_le (show 0≤x.1 by omega)
  have:=fast_any W q (by omega) (by omega)
  rw [hq]
  exact this
 clear L hz
 gi_wp2_with fail
 obtain ⟨w0,hw0⟩:∃ w0,((((w.alloc (Obj.cells (tcells b1 d1 b2 d2 tl.length D) 163)).alloc (Obj.cells #[Value.int IntKind.i64 most] 3)).alloc (Obj.cells #[Value.int IntKind.i64 0] 3)).alloc (Obj.cells #[Value.int IntKind.i64 0] 3)).alloc (Obj.cells #[Value.bool false] 4)=w0:=⟨_,rfl⟩
 have hsz0:w0.heap.size=w.heap.size + 5:=by rw [← hw0]; simp
 have hB0:Below w.heap.size w w0:=by rw [← hw0]; exact (((((Below.refl _ w).alloc nr_ _).alloc (by simp) _).alloc (by simp; omega) _).alloc (by simp; omega) _).alloc (by simp; omega) _
 have hbox:=boxes5 w _ _ _ _ _ _ _ _ _ w0 hw0
 rw [hw0]
 refine ⟨trivial,?_⟩
 refine (callsIn_wide.2 (all_any w0 b1 b2 d1 d2 tl.length D)).mono ?_
 rintro e w' ⟨rfl,rfl⟩
 rw [hsz0]
 have hB5:(w0.alloc (.cells (tcells b1 d1 b2 d2 tl.length D) 163)).heap[w.heap.size + 5]?=some (.cells (tcells b1 d1 b2 d2 tl.length D) 163 (0,0)):=by
  rw [← hsz0]; exact Go.heap_alloc_new w0 _
 have hB1:Below w.heap.size w (w0.alloc (.cells (tcells b1 d1 b2 d2 tl.length D) 163)):=hB0.alloc (by omega) _
 have hsz1:(w0.alloc (.cells (tcells b1 d1 b2 d2 tl.length D) 163)).heap.size=w.heap.size + 6:=by rw [World.size_alloc,hsz0]
 have hI1:NearI w.heap.size most [] (w0.alloc (.cells (tcells b1 d1 b2 d2 tl.length D) 163)):=by
  obtain ⟨h1,h2,h3,h4⟩:=hbox
  have h1:=heap_old h1 (.cells (tcells b1 d1 b2 d2 tl.length D) 163)
  have h2:=heap_old h2 (.cells (tcells b1 d1 b2 d2 tl.length D) 163)
  have h3:=heap_old h3 (.cells (tcells b1 d1 b2 d2 tl.length D) 163)
  have h4:=heap_old h4 (.cells (tcells b1 d1 b2 d2 tl.length D) 163)
  exact ⟨(one_cell h1).1,(one_cell h2).1,(one_cell h3).1,(one_cell h4).1,(one_cell h2).2,(one_cell h3).2,(one_cell h4).2,by rw [hsz1]; omega,fun x hx=>by cases hx⟩
 clear hB0 hw0 hbox
 generalize w0.alloc (.cells (tcells b1 d1 b2 d2 tl.length D) 163)=w1 at *
 gi_wp2_with fail
 refine wpIn_rangeFunc_ownF rfl (by decide) (gf:=241) (lb := #[.pointer (some ⟨w.heap.size + 5,0,none⟩)]) rfl trivial (enters_of Tryz.func241 (by kernel_rfl) rfl)
  (all_stops 2 (by decide) w w1 hB1 (w.heap.size + 5) b1 b2 d1 d2 D tl hl hB5 hr1 hr2) kt_t (kt_b (by rw [hsz1]; omega) (by rw [hsz1]; omega)) (Below.refl _ _) (fun _=>rfl)
  (fun pre W=>NearI w.heap.size most (pre.map Subtype.val) W∧Below w.heap.size w W)
  (fun c pre W=>(c = .ret∧(∃ x∈tl,¬ okT most x)∧NearX w.heap.size W)∧Below w.heap.size w W)
  (OwnFrom.and (Own.from (fun s A B row hs hg hr=>hs.kept hg hr) _) (ownFrom_below nr_ (by rw [hsz1]; omega)))
  (fun c=>OwnFrom.and (Own.from (fun s A B row hs hg hr=>⟨hs.1,hs.2.1,hs.2.2.kept hg hr⟩) _) (ownFrom_below nr_ (by rw [hsz1]; omega)))
  ⟨hI1,hB1⟩
  (fun x=>nearAct w b1 b2 d1 d2 D tl.length most x.1.1 (itx x.1.2)) ?assign ?body ?done ?stop
 case assign =>
  intro l x W K hK
  unfold nearAct at hK
  gi_wp2
  exact hK
 case body =>
  rintro l pre ⟨⟨p,k⟩,hmem⟩ W ⟨hI,hB⟩ hlen
  have HI:=hd_ hI
  have HB:=hd_ hB
  have hpp:=hp _ hmem
  have hsm:=Hsz.out _ hmem W hB
  have hfa:=Hfa.out _ hmem
  simp only at hpp hsm hfa
  have Hmem:=hd_ hmem
  unfold nearAct
  clear hI hB hr1 hr2 hI1 hB1 hB5
  have hc3:=HI.out.c3
  have hc4:=HI.out.c4
  have hc5:=HI.out.c5
  have hc6:=HI.out.c6
  have hf4:=HI.out.f4
  have hf5:=HI.out.f5
  have hf6:=HI.out.f6
  by_cases hk64 : -9223372036854775808≤k∧k≤9223372036854775807
  ·rw [if_pos hk64] at hsm
   have hneg:IntKind.i64.wrap (-most) = -most:=iw_ _ (by omega)
   by_cases hk1:k≤most
   ·by_cases hk2 : -most≤k
    ·have hfa2:∀ W,Gives Tryz.prog 240 #[.int .i64 p] W (fastV p.toNat):=hfa
     by_cases hd:(digs p.toNat 62 26).isSome=true
     ·obtain ⟨ds,hds⟩:=Option.isSome_iff_exists.1 hd
      have Hds:=hd_ hds
      have Hok:Hid (okT most (p,k)):=⟨⟨hk2,hk1⟩,hd⟩
      have hfv:fastV p.toNat = .tuple #[.int .i64 ds.2.2,.bool true]:=by unfold fastV; rw [hds]
      rw [hfv] at hfa2
      have Hlg:Hid (lgA p=(ds.2.2:Int)):=by show _=_; unfold lgA; rw [hds]
      have hfit:=(digs_fit p.toNat (by omega) (by omega) 26 ds hds).out
      have hout:ds.2.2≤469762048:=by have:(2:Nat) ^ 26=67108864:=rfl; omega
      have hpl:(pre.map Subtype.val).length≤1000:=by rw [List.length_map]; omega
      have hso:=sums_le hm (pre.map Subtype.val) (fun x hx=>⟨HI.out.ok x hx,by
       obtain ⟨y,_,rfl⟩:=List.mem_map.1 hx
       exact hp _ y.2⟩)
      have hterm:=term_le hm Hok.out hpp
      simp only at hterm
      have Hsn1:Hid (lowT ((pre ++ [(⟨(p,k),hmem⟩:{x // x∈tl})]).map Subtype.val)=lowT (pre.map Subtype.val) + min (k * lgA p) (k * lgB p)):=by
       show _=_
       rw [List.map_append]; exact lowT_snoc _ _
      have Hsn2:Hid (highT ((pre ++ [(⟨(p,k),hmem⟩:{x // x∈tl})]).map Subtype.val)=highT (pre.map Subtype.val) + max (k * lgA p) (k * lgB p)):=by
       show _=_
       rw [List.map_append]; exact highT_snoc _ _
      have Hall:Hid (∀ x∈(pre ++ [(⟨(p,k),hmem⟩:{x // x∈tl})]).map Subtype.val,okT most x):=fun x hx=>by
       rw [List.map_append] at hx
       rcases List.mem_append.1 hx with h | h
       ·exact HI.out.ok x h
       ·obtain rfl:=List.mem_singleton.1 h; exact Hok.out
      have hlB:lgB p=if p=2 then (ds.2.2:Int) else (ds.2.2:Int) + 1:=by unfold lgB; rw [Hlg.out]
      rw [Hlg.out] at hterm
      rw [Hlg.out] at Hsn1 Hsn2
      have hk1':¬ most < k:=by omega
      have hk2':¬ k < -most:=by omega
      have hwb:IntKind.i64.wrap ((ds.2.2:Int) + 1)=(ds.2.2:Int) + 1:=iw_ _ (by omega)
      clear hd hds hfv hfit hfa hlen hk64
      by_cases hp2:p=2
      ·rw [if_pos hp2] at hlB
       subst hp2
       rw [hlB] at hterm Hsn1 Hsn2
       rw [Int.min_self] at Hsn1
       rw [Int.max_self] at Hsn2
       have hw1:IntKind.i64.wrap (k * (ds.2.2:Int))=k * (ds.2.2:Int):=iw_ _ (by omega)
       clear hlB
       generalize (ds.2.2:Int)=A at *
       obtain ⟨lo,hlo⟩:∃ lo,lowT (pre.map Subtype.val)=lo:=⟨_,rfl⟩
       obtain ⟨hi,hhi⟩:∃ hi,highT (pre.map Subtype.val)=hi:=⟨_,rfl⟩
       rw [hlo] at hso Hsn1
       rw [hhi] at hso Hsn2
       have Hlo:=hd_ hlo
       have Hhi:=hd_ hhi
       clear hlo hhi
       have hw3:IntKind.i64.wrap (lo + k * A)=lo + k * A:=iw_ _ (by omega)
       have hw4':IntKind.i64.wrap (hi + k * A)=hi + k * A:=iw_ _ (by omega)
       have Hterm:=hd_ hterm
       have Hso:=hd_ hso
       gi_wp2_with fail
       refine ⟨trivial,?_⟩
       refine (CallsIn.inRound l (callsIn_wide.2 hsm)).mono ?_
       rintro e w2 ⟨rfl,hb2⟩
       have HI2:=hd_ (HI.out.below hb2)
       have HB2:=hd_ (HB.out.trans (hb2.mono HB.out.size))
       have Hk2:=hd_ (hb2)
       have hc3:=HI2.out.c3
       have hc4:=HI2.out.c4
       have hc5:=HI2.out.c5
       have hc6:=HI2.out.c6
       have hf4:=HI2.out.f4
       have hf5:=HI2.out.f5
       have hf6:=HI2.out.f6
       clear hsm hb2
       gi_wp2_with fail
       refine ⟨trivial,?_⟩
       refine (CallsIn.inRound l (callsIn_wide.2 (hfa2 w2))).mono ?_
       rintro e w3 ⟨rfl,hb3⟩
       have HI3:=hd_ (HI2.out.below hb3)
       have HB3:=hd_ (HB2.out.trans (hb3.mono HB2.out.size))
       have Hk3:=hd_ (Hk2.out.trans (hb3.mono Hk2.out.size))
       have hc3:=HI3.out.c3
       have hc4:=HI3.out.c4
       have hc5:=HI3.out.c5
       have hc6:=HI3.out.c6
       have hf4:=HI3.out.f4
       have hf5:=HI3.out.f5
       have hf6:=HI3.out.f6
       clear hfa2 hb3
       gi_wp2_with fail
       have q0:=@CellW.h
       have q9:Nonempty (CellW ⟨w.heap.size + 1 + 1,0,none⟩ (.int .i64 lo)):=⟨⟨w3,by rw [HI3.out.c4,Hlo.out]⟩⟩
       have q8:Nonempty (CellW ⟨w.heap.size + 1 + 1 + 1,0,none⟩ (.int .i64 hi)):=⟨⟨w3,by rw [HI3.out.c5,Hhi.out]⟩⟩
       refine wpIn_region_readers2 [(20,0),(1,1),(1,2),(1,3),(1,4),(1,5),(1,6),(1,7),(1,8),(21,9),(1,10),(1,11),(1,12),(1,13),(1,14),(1,15),(1,16),(1,17),(0,18),(0,19)]
        [(18,fun w'=>∃ p:CellW ⟨w.heap.size + 1 + 1,0,none⟩ (.int .i64 lo),w'=p.w),(19,fun w'=>∃ p:CellW ⟨w.heap.size + 1 + 1 + 1,0,none⟩ (.int .i64 hi),w'=p.w)]
        (by kernel_rfl) (by kernel_rfl) ⟨.inr ⟨⟨{ w3 with drawn:=w3.drawn + 1 },HI3.out.c4.trans (by rw [Hlo.out])⟩,rfl⟩,.inr ⟨⟨{ w3 with drawn:=w3.drawn + 1 },HI3.out.c5.trans (by rw [Hhi.out])⟩,rfl⟩,trivial⟩ ?_
       refine walkR2_read (s:=18) _ (List.mem_cons_self ..) rfl ?_
       simp only [dz_,tsc_,tz_]
       go_big_quiet_step (fail)
       refine wpQuiet_nil ?_
       iterate 8 (refine walkR2_any ?_; simp only [dsc_,dz_,tsc_,tz_]; go_big_quiet_step (fail); refine wpQuiet_nil ?_)
       refine walkR2_read (s:=19) _ (List.mem_cons_of_mem _ (List.mem_cons_self ..)) rfl ?_
       simp only [dsc_,dz_,tsc_,tz_]
       go_big_quiet_step (fail)
       refine wpQuiet_nil ?_
       iterate 8 (refine walkR2_any ?_; simp only [dsc_,dz_,tsc_,tz_]; go_big_quiet_step (fail); refine wpQuiet_nil ?_)
       clear q0 q8 q9
       obtain ⟨w4,hw4⟩:∃ w4:World,{ heap:=w3.heap,tape:=w3.tape,drawn:=w3.drawn + 1,os:=w3.os,output:=w3.output }=w4:=⟨_,rfl⟩
       rw [hw4]
       have HI4:Hid (NearI w.heap.size most (pre.map Subtype.val) w4):=by rw [← hw4]; exact HI3.out.below ⟨rfl,rfl,rfl,Nat.le_refl _,fun _ _=>rfl⟩
       have HB4:Hid (Below w.heap.size w w4):=by rw [← hw4]; exact HB3.out.trans ⟨rfl,rfl,rfl,Nat.le_refl _,fun _ _=>rfl⟩
       have Hk4:Hid (Below W.heap.size W w4):=by rw [← hw4]; exact Hk3.out.trans ⟨rfl,rfl,rfl,Nat.le_refl _,fun _ _=>rfl⟩
       clear hw4 hc3 hc4 hc5 hc6 hf4 hf5 hf6
       have hc4:=HI4.out.c4
       have hc5:=HI4.out.c5
       have hf4:=HI4.out.f4
       have hf5:=HI4.out.f5
       refine walkR2_move ?_
       simp only [dsc_,dz_,tsc_,tz_]
       go_wp2_with fail
       obtain ⟨v5,hv5⟩:∃ v5:Int,lo + k * A=v5:=⟨_,rfl⟩
       obtain ⟨v6,hv6⟩:∃ v6:Int,hi + k * A=v6:=⟨_,rfl⟩
       rw [hv5]
       rw [hv6]
       have hc52:(w4.setCell ⟨w.heap.size + 1 + 1,0,none⟩ (.int .i64 v5)).cell? ⟨w.heap.size + 1 + 1 + 1,0,none⟩=some (.int .i64 hi):=by
        rw [World.cell?_setCell_other _ _ _ _ (by simp),HI4.out.c5,Hhi.out]
       have hf52:(w4.setCell ⟨w.heap.size + 1 + 1,0,none⟩ (.int .i64 v5)).frozen? ⟨w.heap.size + 1 + 1 + 1,0,none⟩=false:=by rw [World.frozen?_setCell]; exact HI4.out.f5
       refine ⟨⟨.inl rfl,.inr ⟨⟨w4.setCell ⟨w.heap.size + 1 + 1,0,none⟩ (.int .i64 v5),hc52⟩,rfl⟩,trivial⟩,?_⟩
       clear hc4 hc5 hf4 hf5
       refine walkR2_move ?_
       simp only [dsc_,dz_,tsc_,tz_]
       go_wp2_with fail
       refine ⟨⟨.inl rfl,.inl rfl,trivial⟩,?_⟩
       simp only [walkR2]
       exact ⟨(keeps_of_below Hk4.out).trans ((KeepsOthers.setCell _ _ _).trans (KeepsOthers.setCell _ _ _)),near_kt rfl HB.out HI.out.sz Hk4.out _ _,HI4.out.stored (Hsn1.out.trans hv5) (Hsn2.out.trans hv6) Hall.out,near_below HB4.out _ _⟩
      ·rw [if_neg hp2] at hlB
       rw [hlB] at hterm Hsn1 Hsn2
       have hpe:(p == 2)=false:=by rw [beq_eq_false_iff_ne]; exact hp2
       have hw1:IntKind.i64.wrap (k * (ds.2.2:Int))=k * (ds.2.2:Int):=iw_ _ (by omega)
       have hw2:IntKind.i64.wrap (k * ((ds.2.2:Int) + 1))=k * ((ds.2.2:Int) + 1):=iw_ _ (by omega)
       clear hlB
       generalize (ds.2.2:Int)=A at *
       obtain ⟨lo,hlo⟩:∃ lo,lowT (pre.map Subtype.val)=lo:=⟨_,rfl⟩
       obtain ⟨hi,hhi⟩:∃ hi,highT (pre.map Subtype.val)=hi:=⟨_,rfl⟩
       rw [hlo] at hso Hsn1
       rw [hhi] at hso Hsn2
       have Hlo:=hd_ hlo
       have Hhi:=hd_ hhi
       clear hlo hhi
       have hw3:IntKind.i64.wrap (lo + min (k * A) (k * (A + 1)))=lo + min (k * A) (k * (A + 1)):=iw_ _ (by omega)
       have hw4':IntKind.i64.wrap (hi + max (k * A) (k * (A + 1)))=hi + max (k * A) (k * (A + 1)):=iw_ _ (by omega)
       have Hterm:=hd_ hterm
       have Hso:=hd_ hso
       gi_wp2_with fail
       refine ⟨trivial,?_⟩
       refine (CallsIn.inRound l (callsIn_wide.2 hsm)).mono ?_
       rintro e w2 ⟨rfl,hb2⟩
       have HI2:=hd_ (HI.out.below hb2)
       have HB2:=hd_ (HB.out.trans (hb2.mono HB.out.size))
       have Hk2:=hd_ (hb2)
       have hc3:=HI2.out.c3
       have hc4:=HI2.out.c4
       have hc5:=HI2.out.c5
       have hc6:=HI2.out.c6
       have hf4:=HI2.out.f4
       have hf5:=HI2.out.f5
       have hf6:=HI2.out.f6
       clear hsm hb2
       gi_wp2_with fail
       refine ⟨trivial,?_⟩
       refine (CallsIn.inRound l (callsIn_wide.2 (hfa2 w2))).mono ?_
       rintro e w3 ⟨rfl,hb3⟩
       have HI3:=hd_ (HI2.out.below hb3)
       have HB3:=hd_ (HB2.out.trans (hb3.mono HB2.out.size))
       have Hk3:=hd_ (Hk2.out.trans (hb3.mono Hk2.out.size))
       have hc3:=HI3.out.c3
       have hc4:=HI3.out.c4
       have hc5:=HI3.out.c5
       have hc6:=HI3.out.c6
       have hf4:=HI3.out.f4
       have hf5:=HI3.out.f5
       have hf6:=HI3.out.f6
       clear hfa2 hb3
       gi_wp2_with fail
       have q0:=@CellW.h
       have q9:Nonempty (CellW ⟨w.heap.size + 1 + 1,0,none⟩ (.int .i64 lo)):=⟨⟨w3,by rw [HI3.out.c4,Hlo.out]⟩⟩
       have q8:Nonempty (CellW ⟨w.heap.size + 1 + 1 + 1,0,none⟩ (.int .i64 hi)):=⟨⟨w3,by rw [HI3.out.c5,Hhi.out]⟩⟩
       refine wpIn_region_readers2 [(20,0),(1,1),(1,2),(1,3),(1,4),(1,5),(1,6),(1,7),(1,8),(21,9),(1,10),(1,11),(1,12),(1,13),(1,14),(1,15),(1,16),(1,17),(0,18),(0,19)]
        [(18,fun w'=>∃ p:CellW ⟨w.heap.size + 1 + 1,0,none⟩ (.int .i64 lo),w'=p.w),(19,fun w'=>∃ p:CellW ⟨w.heap.size + 1 + 1 + 1,0,none⟩ (.int .i64 hi),w'=p.w)]
        (by kernel_rfl) (by kernel_rfl) ⟨.inr ⟨⟨{ w3 with drawn:=w3.drawn + 1 },HI3.out.c4.trans (by rw [Hlo.out])⟩,rfl⟩,.inr ⟨⟨{ w3 with drawn:=w3.drawn + 1 },HI3.out.c5.trans (by rw [Hhi.out])⟩,rfl⟩,trivial⟩ ?_
       refine walkR2_read (s:=18) _ (List.mem_cons_self ..) rfl ?_
       simp only [dz_,tsc_,tz_]
       go_big_quiet_step (fail)
       refine wpQuiet_nil ?_
       iterate 8 (refine walkR2_any ?_; simp only [dsc_,dz_,tsc_,tz_]; go_big_quiet_step (fail); refine wpQuiet_nil ?_)
       refine walkR2_read (s:=19) _ (List.mem_cons_of_mem _ (List.mem_cons_self ..)) rfl ?_
       simp only [dsc_,dz_,tsc_,tz_]
       go_big_quiet_step (fail)
       refine wpQuiet_nil ?_
       iterate 8 (refine walkR2_any ?_; simp only [dsc_,dz_,tsc_,tz_]; go_big_quiet_step (fail); refine wpQuiet_nil ?_)
       clear q0 q8 q9
       obtain ⟨w4,hw4⟩:∃ w4:World,{ heap:=w3.heap,tape:=w3.tape,drawn:=w3.drawn + 1,os:=w3.os,output:=w3.output }=w4:=⟨_,rfl⟩
       rw [hw4]
       have HI4:Hid (NearI w.heap.size most (pre.map Subtype.val) w4):=by rw [← hw4]; exact HI3.out.below ⟨rfl,rfl,rfl,Nat.le_refl _,fun _ _=>rfl⟩
       have HB4:Hid (Below w.heap.size w w4):=by rw [← hw4]; exact HB3.out.trans ⟨rfl,rfl,rfl,Nat.le_refl _,fun _ _=>rfl⟩
       have Hk4:Hid (Below W.heap.size W w4):=by rw [← hw4]; exact Hk3.out.trans ⟨rfl,rfl,rfl,Nat.le_refl _,fun _ _=>rfl⟩
       clear hw4 hc3 hc4 hc5 hc6 hf4 hf5 hf6
       have hc4:=HI4.out.c4
       have hc5:=HI4.out.c5
       have hf4:=HI4.out.f4
       have hf5:=HI4.out.f5
       refine walkR2_move ?_
       simp only [dsc_,dz_,tsc_,tz_]
       go_wp2_with fail
       obtain ⟨v5,hv5⟩:∃ v5:Int,lo + min (k * A) (k * (A + 1))=v5:=⟨_,rfl⟩
       obtain ⟨v6,hv6⟩:∃ v6:Int,hi + max (k * A) (k * (A + 1))=v6:=⟨_,rfl⟩
       rw [hv5]
       rw [hv6]
       have hc52:(w4.setCell ⟨w.heap.size + 1 + 1,0,none⟩ (.int .i64 v5)).cell? ⟨w.heap.size + 1 + 1 + 1,0,none⟩=some (.int .i64 hi):=by
        rw [World.cell?_setCell_other _ _ _ _ (by simp),HI4.out.c5,Hhi.out]
       have hf52:(w4.setCell ⟨w.heap.size + 1 + 1,0,none⟩ (.int .i64 v5)).frozen? ⟨w.heap.size + 1 + 1 + 1,0,none⟩=false:=by rw [World.frozen?_setCell]; exact HI4.out.f5
       refine ⟨⟨.inl rfl,.inr ⟨⟨w4.setCell ⟨w.heap.size + 1 + 1,0,none⟩ (.int .i64 v5),hc52⟩,rfl⟩,trivial⟩,?_⟩
       clear hc4 hc5 hf4 hf5
       refine walkR2_move ?_
       simp only [dsc_,dz_,tsc_,tz_]
       go_wp2_with fail
       refine ⟨⟨.inl rfl,.inl rfl,trivial⟩,?_⟩
       simp only [walkR2]
       exact ⟨(keeps_of_below Hk4.out).trans ((KeepsOthers.setCell _ _ _).trans (KeepsOthers.setCell _ _ _)),near_kt rfl HB.out HI.out.sz Hk4.out _ _,HI4.out.stored (Hsn1.out.trans hv5) (Hsn2.out.trans hv6) Hall.out,near_below HB4.out _ _⟩
     ·have Hbad:Hid (∃ x∈tl,¬ okT most x):=⟨(p,k),Hmem.out,fun h=>hd h.2⟩
      have hfv:fastV p.toNat = .tuple #[.int .i64 0,.bool false]:=by
       unfold fastV
       cases hq:digs p.toNat 62 26 with
       | none=>rfl
       | some s=>rw [hq] at hd; exact absurd rfl hd
      rw [hfv] at hfa2
      have hk1':¬ most < k:=by omega
      have hk2':¬ k < -most:=by omega
      clear hd hfv hfa
      gi_wp2_with fail
      refine ⟨trivial,?_⟩
      refine (CallsIn.inRound l (callsIn_wide.2 hsm)).mono ?_
      rintro e w2 ⟨rfl,hb2⟩
      have HI2:=hd_ (HI.out.below hb2)
      have HB2:=hd_ (HB.out.trans (hb2.mono HB.out.size))
      have Hk2:=hd_ (hb2)
      have hc3:=HI2.out.c3
      have hc4:=HI2.out.c4
      have hc5:=HI2.out.c5
      have hc6:=HI2.out.c6
      have hf4:=HI2.out.f4
      have hf5:=HI2.out.f5
      have hf6:=HI2.out.f6
      clear hsm hb2
      gi_wp2_with fail
      refine ⟨trivial,?_⟩
      refine (CallsIn.inRound l (callsIn_wide.2 (hfa2 w2))).mono ?_
      rintro e w3 ⟨rfl,hb3⟩
      have HI3:=hd_ (HI2.out.below hb3)
      have HB3:=hd_ (HB2.out.trans (hb3.mono HB2.out.size))
      have Hk3:=hd_ (Hk2.out.trans (hb3.mono Hk2.out.size))
      have hc3:=HI3.out.c3
      have hc4:=HI3.out.c4
      have hc5:=HI3.out.c5
      have hc6:=HI3.out.c6
      have hf4:=HI3.out.f4
      have hf5:=HI3.out.f5
      have hf6:=HI3.out.f6
      clear hfa2 hb3
      gi_wp2
      exact ⟨(keeps_of_below Hk3.out).trans (((KeepsOthers.setCell _ _ _).trans (KeepsOthers.setCell _ _ _)).trans (KeepsOthers.setCell _ _ _)),⟨rfl,Hbad.out,HI3.out.quits⟩,
       ((HB3.out.setCell (p:=⟨w.heap.size + 1 + 1,0,none⟩) (by simp; omega) _).setCell (p:=⟨w.heap.size + 1 + 1 + 1,0,none⟩) (by simp; omega) _).setCell (p:=⟨w.heap.size + 1 + 1 + 1 + 1,0,none⟩) (by simp; omega) _⟩
    ·have Hbad:Hid (∃ x∈tl,¬ okT most x):=⟨(p,k),Hmem.out,fun h=>hk2 h.1.1⟩
     have hk1':¬ most < k:=by omega
     have hk2':k < -most:=by omega
     clear hfa
     gi_wp2_with fail
     refine ⟨trivial,?_⟩
     refine (CallsIn.inRound l (callsIn_wide.2 hsm)).mono ?_
     rintro e w2 ⟨rfl,hb2⟩
     have HI2:=hd_ (HI.out.below hb2)
     have HB2:=hd_ (HB.out.trans (hb2.mono HB.out.size))
     have Hk2:=hd_ (hb2)
     have hc3:=HI2.out.c3
     have hc4:=HI2.out.c4
     have hc5:=HI2.out.c5
     have hc6:=HI2.out.c6
     have hf4:=HI2.out.f4
     have hf5:=HI2.out.f5
     have hf6:=HI2.out.f6
     clear hsm hb2
     gi_wp2
     exact ⟨(keeps_of_below Hk2.out).trans (((KeepsOthers.setCell _ _ _).trans (KeepsOthers.setCell _ _ _)).trans (KeepsOthers.setCell _ _ _)),⟨rfl,Hbad.out,HI2.out.quits⟩,
      ((HB2.out.setCell (p:=⟨w.heap.size + 1 + 1,0,none⟩) (by simp; omega) _).setCell (p:=⟨w.heap.size + 1 + 1 + 1,0,none⟩) (by simp; omega) _).setCell (p:=⟨w.heap.size + 1 + 1 + 1 + 1,0,none⟩) (by simp; omega) _⟩
   ·have Hbad:Hid (∃ x∈tl,¬ okT most x):=⟨(p,k),Hmem.out,fun h=>hk1 h.1.2⟩
    have hk1':most < k:=by omega
    clear hfa
    gi_wp2_with fail
    refine ⟨trivial,?_⟩
    refine (CallsIn.inRound l (callsIn_wide.2 hsm)).mono ?_
    rintro e w2 ⟨rfl,hb2⟩
    have HI2:=hd_ (HI.out.below hb2)
    have HB2:=hd_ (HB.out.trans (hb2.mono HB.out.size))
    have Hk2:=hd_ (hb2)
    have hc3:=HI2.out.c3
    have hc4:=HI2.out.c4
    have hc5:=HI2.out.c5
    have hc6:=HI2.out.c6
    have hf4:=HI2.out.f4
    have hf5:=HI2.out.f5
    have hf6:=HI2.out.f6
    clear hsm hb2
    gi_wp2
    exact ⟨(keeps_of_below Hk2.out).trans (((KeepsOthers.setCell _ _ _).trans (KeepsOthers.setCell _ _ _)).trans (KeepsOthers.setCell _ _ _)),⟨rfl,Hbad.out,HI2.out.quits⟩,
     ((HB2.out.setCell (p:=⟨w.heap.size + 1 + 1,0,none⟩) (by simp; omega) _).setCell (p:=⟨w.heap.size + 1 + 1 + 1,0,none⟩) (by simp; omega) _).setCell (p:=⟨w.heap.size + 1 + 1 + 1 + 1,0,none⟩) (by simp; omega) _⟩
  ·rw [if_neg hk64] at hsm
   have Hbad:Hid (∃ x∈tl,¬ okT most x):=⟨(p,k),Hmem.out,fun h=>hk64 ⟨by have:=h.1.1; simp only at this; omega,by have:=h.1.2; simp only at this; omega⟩⟩
   clear hfa
   gi_wp2_with fail
   refine ⟨trivial,?_⟩
   refine (CallsIn.inRound l (callsIn_wide.2 hsm)).mono ?_
   rintro e w2 ⟨rfl,hb2⟩
   have HI2:=hd_ (HI.out.below hb2)
   have HB2:=hd_ (HB.out.trans (hb2.mono HB.out.size))
   have Hk2:=hd_ (hb2)
   have hc3:=HI2.out.c3
   have hc4:=HI2.out.c4
   have hc5:=HI2.out.c5
   have hc6:=HI2.out.c6
   have hf4:=HI2.out.f4
   have hf5:=HI2.out.f5
   have hf6:=HI2.out.f6
   clear hsm hb2
   gi_wp2
   exact ⟨(keeps_of_below Hk2.out).trans (((KeepsOthers.setCell _ _ _).trans (KeepsOthers.setCell _ _ _)).trans (KeepsOthers.setCell _ _ _)),⟨rfl,Hbad.out,HI2.out.quits⟩,
    ((HB2.out.setCell (p:=⟨w.heap.size + 1 + 1,0,none⟩) (by simp; omega) _).setCell (p:=⟨w.heap.size + 1 + 1 + 1,0,none⟩) (by simp; omega) _).setCell (p:=⟨w.heap.size + 1 + 1 + 1 + 1,0,none⟩) (by simp; omega) _⟩
 case done =>
  rintro D' ys W hD rfl ⟨hI,hB⟩ hK
  rw [List.attach_map_subtype_val] at hI
  have hv:nearV most tl = .tuple #[.int .i64 (lowT tl),.int .i64 (highT tl),.bool true]:=by unfold nearV; rw [if_pos hI.ok]
  have Hv:=hd_ hv
  have HI:=hd_ hI
  have HB:=hd_ hB
  have HK:=hd_ hK
  have hc4:=HI.out.c4
  have hc5:=HI.out.c5
  have hc6:=HI.out.c6
  have hf4:=HI.out.f4
  have hf5:=HI.out.f5
  have hf6:=HI.out.f6
  clear hv hI hB hK hr1 hr2 hI1 hB1 hB5 Hsz Hfa
  generalize lowT tl=lo at *
  generalize highT tl=hi at *
  gi_wp2_with fail
  gi_region
  gi_wp2
  clear hc4 hc5 hc6 hf4 hf5 hf6
  have e4:(((W.setCell { block:=w.heap.size + 1 + 1,off:=0 } (Value.int IntKind.i64 lo)).setCell { block:=w.heap.size + 1 + 1 + 1,off:=0 } (Value.int IntKind.i64 hi)).setCell { block:=w.heap.size + 1 + 1 + 1 + 1,off:=0 } (Value.bool true)).drew.cell? ⟨w.heap.size + 1 + 1,0,none⟩=some (.int .i64 lo):=by
   show World.cell? (((W.setCell { block:=w.heap.size + 1 + 1,off:=0 } (Value.int IntKind.i64 lo)).setCell { block:=w.heap.size + 1 + 1 + 1,off:=0 } (Value.int IntKind.i64 hi)).setCell { block:=w.heap.size + 1 + 1 + 1 + 1,off:=0 } (Value.bool true)) _=_
   rw [World.cell?_setCell_other _ _ _ _ (by simp),World.cell?_setCell_other _ _ _ _ (by simp),World.cell?_setCell_same _ _ _ HI.out.c4]
  have e5:(((W.setCell { block:=w.heap.size + 1 + 1,off:=0 } (Value.int IntKind.i64 lo)).setCell { block:=w.heap.size + 1 + 1 + 1,off:=0 } (Value.int IntKind.i64 hi)).setCell { block:=w.heap.size + 1 + 1 + 1 + 1,off:=0 } (Value.bool true)).drew.cell? ⟨w.heap.size + 1 + 1 + 1,0,none⟩=some (.int .i64 hi):=by
   show World.cell? (((W.setCell { block:=w.heap.size + 1 + 1,off:=0 } (Value.int IntKind.i64 lo)).setCell { block:=w.heap.size + 1 + 1 + 1,off:=0 } (Value.int IntKind.i64 hi)).setCell { block:=w.heap.size + 1 + 1 + 1 + 1,off:=0 } (Value.bool true)) _=_
   rw [World.cell?_setCell_other _ _ _ _ (by simp),World.cell?_setCell_same _ _ _ (by rw [World.cell?_setCell_other _ _ _ _ (by simp)]; exact HI.out.c5)]
  have e6:(((W.setCell { block:=w.heap.size + 1 + 1,off:=0 } (Value.int IntKind.i64 lo)).setCell { block:=w.heap.size + 1 + 1 + 1,off:=0 } (Value.int IntKind.i64 hi)).setCell { block:=w.heap.size + 1 + 1 + 1 + 1,off:=0 } (Value.bool true)).drew.cell? ⟨w.heap.size + 1 + 1 + 1 + 1,0,none⟩=some (.bool true):=by
   show World.cell? (((W.setCell { block:=w.heap.size + 1 + 1,off:=0 } (Value.int IntKind.i64 lo)).setCell { block:=w.heap.size + 1 + 1 + 1,off:=0 } (Value.int IntKind.i64 hi)).setCell { block:=w.heap.size + 1 + 1 + 1 + 1,off:=0 } (Value.bool true)) _=_
   rw [World.cell?_setCell_same _ _ _ (by rw [World.cell?_setCell_other _ _ _ _ (by simp),World.cell?_setCell_other _ _ _ _ (by simp)]; exact HI.out.c6)]
  have hk9:=(((KeepsOthers.setCell W ⟨w.heap.size + 1 + 1,0,none⟩ (.int .i64 lo)).trans (KeepsOthers.setCell _ ⟨w.heap.size + 1 + 1 + 1,0,none⟩ (.int .i64 hi))).trans (KeepsOthers.setCell _ ⟨w.heap.size + 1 + 1 + 1 + 1,0,none⟩ (.bool true))).trans (KeepsOthers.drew _)
  have hK9:=hk9.same D' _ HK.out rfl
  have hb9:=(((HB.out.setCell (p:=⟨w.heap.size + 1 + 1,0,none⟩) (by show _≤w.heap.size + 1 + 1; omega) (.int .i64 lo)).setCell (p:=⟨w.heap.size + 1 + 1 + 1,0,none⟩) (by show _≤w.heap.size + 1 + 1 + 1; omega) (.int .i64 hi)).setCell (p:=⟨w.heap.size + 1 + 1 + 1 + 1,0,none⟩) (by show _≤w.heap.size + 1 + 1 + 1 + 1; omega) (.bool true)).drew
  generalize (((W.setCell { block:=w.heap.size + 1 + 1,off:=0 } (Value.int IntKind.i64 lo)).setCell { block:=w.heap.size + 1 + 1 + 1,off:=0 } (Value.int IntKind.i64 hi)).setCell { block:=w.heap.size + 1 + 1 + 1 + 1,off:=0 } (Value.bool true)).drew=w9 at *
  have g4:=cell_kept e4 (grownBy_putObj' _ D' (.deferred none)) (fun r e=>by cases e; exact ⟨_,hK9,rfl⟩)
  have g5:=cell_kept e5 (grownBy_putObj' _ D' (.deferred none)) (fun r e=>by cases e; exact ⟨_,hK9,rfl⟩)
  have g6:=cell_kept e6 (grownBy_putObj' _ D' (.deferred none)) (fun r e=>by cases e; exact ⟨_,hK9,rfl⟩)
  refine ⟨by simp,.inl ⟨_,_,rfl,run_takeDeferred hK9,?_⟩⟩
  refine ⟨.tuple #[.int .i64 lo,.int .i64 hi,.bool true],?_,by rw [Hv.out],hb9.trans (belowK_b (w:=w) nr_ w9 D' _ _ (by rw [hsz1] at hD; omega) hK9 rfl rfl)⟩
  simp [results,Tryz.results210,go_sem,g4,g5,g6]
 case stop =>
  rintro D' c pre W hD hSp ⟨⟨rfl,hbad,hX⟩,hB⟩ hK
  have hv:nearV most tl = .tuple #[.int .i64 0,.int .i64 0,.bool false]:=by
   unfold nearV
   rw [if_neg]
   intro h
   obtain ⟨x,hx,hn⟩:=hbad
   exact hn (h x hx)
  have g4:=cell_kept hX.c4 (grownBy_putObj' _ D' (.deferred none)) (fun r e=>by cases e; exact ⟨_,hK,rfl⟩)
  have g5:=cell_kept hX.c5 (grownBy_putObj' _ D' (.deferred none)) (fun r e=>by cases e; exact ⟨_,hK,rfl⟩)
  have g6:=cell_kept hX.c6 (grownBy_putObj' _ D' (.deferred none)) (fun r e=>by cases e; exact ⟨_,hK,rfl⟩)
  gi_wp2
  refine ⟨by simp,.inl ⟨_,_,rfl,run_takeDeferred hK,?_⟩⟩
  refine ⟨.tuple #[.int .i64 0,.int .i64 0,.bool false],?_,by rw [hv],hB.trans (belowK_b (w:=w) nr_ W D' _ _ (by rw [hsz1] at hD; omega) hK rfl rfl)⟩
  simp [results,Tryz.results210,go_sem,g4,g5,g6]
end Go.Proofs.YtnjedhgcfeoemaaGreatDoor

namespace Go.Proofs.YtnjedhgcfeoemaaGreatDoor
open Go.RowKit
def quickV (tl:List (Int×Int)):Int :=
 if ∀ x∈tl,okT 10000000 x then if 0≤lowT tl then 1 else if highT tl≤0 then -1 else 0 else 0
theorem quick_any (w:World) (b1 b2:Option Addr) (d1 d2 D:Nat) (tl:List (Int×Int)) (T:TermsAt w tl b1 b2) (L:Laid w) :
  Gives Tryz.prog 171 #[.agg (tcells b1 d1 b2 d2 tl.length D)] w (.int .i64 (quickV tl)):=by
 unfold Gives
 have Hb0:=hd_ ((Below.refl w.heap.size w).alloc nr_ (.cells (tcells b1 d1 b2 d2 tl.length D) 163))
 have hn:Gives Tryz.prog 210 #[.agg (tcells b1 d1 b2 d2 tl.length D),.int .i64 10000000] (w.alloc (.cells (tcells b1 d1 b2 d2 tl.length D) 163)) (nearV 10000000 tl):=by
  have T':=T.below Hb0.out
  exact near_any _ b1 b2 d1 d2 D tl 10000000 (by decide) (by decide) T'.len T'.r1 T'.r2 T'.p T'.z (L.below Hb0.out)
 have Hn:=hd_ hn
 clear T L hn
 by_cases hall:∀ x∈tl,okT 10000000 x
 ·have hv:nearV 10000000 tl = .tuple #[.int .i64 (lowT tl),.int .i64 (highT tl),.bool true]:=by unfold nearV; rw [if_pos hall]
  rw [hv] at Hn
  have Hq:Hid (quickV tl=if 0≤lowT tl then 1 else if highT tl≤0 then -1 else 0):=by show _=_; unfold quickV; rw [if_pos hall]
  clear hv hall
  generalize quickV tl=q at *
  generalize lowT tl=lo at *
  generalize highT tl=hi at *
  by_cases h1:0≤lo
  ·have Hqq:Hid (q=1):=by show _=_; rw [Hq.out,if_pos h1]
   go_enter Tryz.func171,Tryz.ntmps171
   go_wp2_with fail
   refine cm_ Hn.out ?_
   rintro e w1 ⟨rfl,hb1⟩
   have Hb1:=hd_ (Hb0.out.trans (hb1.mono Hb0.out.size))
   clear hb1 Hn
   go_wp2
   go_ret
   exact ⟨by rw [Hqq.out]; rfl,Hb1.out⟩
  ·by_cases h2:hi≤0
   ·have Hqq:Hid (q = -1):=by show _=_; rw [Hq.out,if_neg h1,if_pos h2]
    go_enter Tryz.func171,Tryz.ntmps171
    go_wp2_with fail
    refine cm_ Hn.out ?_
    rintro e w1 ⟨rfl,hb1⟩
    have Hb1:=hd_ (Hb0.out.trans (hb1.mono Hb0.out.size))
    clear hb1 Hn
    go_wp2
    go_ret
    exact ⟨by rw [Hqq.out]; rfl,Hb1.out⟩
   ·have Hqq:Hid (q=0):=by show _=_; rw [Hq.out,if_neg h1,if_neg h2]
    go_enter Tryz.func171,Tryz.ntmps171
    go_wp2_with fail
    refine cm_ Hn.out ?_
    rintro e w1 ⟨rfl,hb1⟩
    have Hb1:=hd_ (Hb0.out.trans (hb1.mono Hb0.out.size))
    clear hb1 Hn
    go_wp2
    go_ret
    exact ⟨by rw [Hqq.out]; rfl,Hb1.out⟩
 ·have hv:nearV 10000000 tl = .tuple #[.int .i64 0,.int .i64 0,.bool false]:=by unfold nearV; rw [if_neg hall]
  rw [hv] at Hn
  have Hq:Hid (quickV tl=0):=by show _=_; unfold quickV; rw [if_neg hall]
  clear hv hall
  go_enter Tryz.func171,Tryz.ntmps171
  go_wp2_with fail
  refine cm_ Hn.out ?_
  rintro e w1 ⟨rfl,hb1⟩
  have Hb1:=hd_ (Hb0.out.trans (hb1.mono Hb0.out.size))
  clear hb1 Hn
  go_wp2
  go_ret
  exact ⟨by rw [Hq.out]; rfl,Hb1.out⟩
theorem sign_quick (w:World) (b1 b2:Option Addr) (d1 d2 D:Nat) (tl:List (Int×Int)) (T:TermsAt w tl b1 b2) (L:Laid w) (hq:tl=[]∨quickV tl≠0) :
  Gives Tryz.prog 101 #[.agg (tcells b1 d1 b2 d2 tl.length D)] w (.int .i64 (if tl=[] then 0 else quickV tl)):=by
 unfold Gives
 by_cases h0:tl=[]
 ·subst h0
  rw [if_pos rfl]
  have Hb0:=hd_ ((Below.refl w.heap.size w).alloc nr_ (.cells (tcells b1 d1 b2 d2 0 D) 163))
  clear T L hq
  rw [show ([]:List (Int×Int)).length=0 from rfl]
  obtain ⟨m0,m1,m2,m3⟩:=obj_cells3 (heap_at w (tcells b1 d1 b2 d2 0 D) 163 w.heap.size rfl)
  clear m3
  go_enter Tryz.func101,Tryz.ntmps101
  go_wp2_with fail
  go_step3
  go_wp2_with fail
  rw [Exit.noGoto_ret]
  go_ret
  exact ⟨rfl,Hb0.out⟩
 ·rw [if_neg h0]
  have Hb0:=hd_ ((Below.refl w.heap.size w).alloc nr_ (.cells (tcells b1 d1 b2 d2 tl.length D) 163))
  have Hn:=hd_ (quick_any _ b1 b2 d1 d2 D tl (T.below Hb0.out) (L.below Hb0.out))
  have hq0:(quickV tl == 0)=false:=by rw [beq_eq_false_iff_ne]; exact hq.resolve_left h0
  have hl0:((tl.length:Int) == 0)=false:=by
   rw [beq_eq_false_iff_ne]
   intro h
   exact h0 (List.eq_nil_of_length_eq_zero (by omega))
  clear T L hq h0
  generalize quickV tl=q at *
  generalize tl.length=m at *
  obtain ⟨m0,m1,m2,m3⟩:=obj_cells3 (heap_at w (tcells b1 d1 b2 d2 m D) 163 w.heap.size rfl)
  clear m3
  go_enter Tryz.func101,Tryz.ntmps101
  go_wp2_with fail
  go_step3
  go_wp2_with fail
  refine cm_ Hn.out ?_
  rintro e w1 ⟨rfl,hb1⟩
  have Hb1:=hd_ (Hb0.out.trans (hb1.mono Hb0.out.size))
  clear hb1 Hn
  go_wp2_with fail
  rw [Exit.noGoto_ret]
  go_ret
  exact ⟨rfl,Hb1.out⟩
end Go.Proofs.YtnjedhgcfeoemaaGreatDoor

namespace Go.Proofs.YtnjedhgcfeoemaaGreatDoor
open Go.RowKit
theorem tlQ_znum {ps:List Int} {l:List Rat} {D:Nat} (hs:∀ q∈l,Sm D q) (h6:3 + (l.length + 2) * D≤900000):∀ x∈tlQ ps l,ZNum x.2:=fun x hx=>by
 obtain ⟨_,q,hq,_,he⟩:=tlist_mem hx
 have h1:=tden_lt l D hs l.length nr_
 rw [List.take_length] at h1
 have h2:=(hs q hq).1
 have h3:tden l / q.den≤tden l:=Nat.div_le_self _ _
 have h4:=pow_ten_mul h2 (Nat.lt_of_le_of_lt h3 h1)
 rw [he]
 refine num_pow (D:=D + (1 + l.length * D)) ?_ (by omega) ?_
 ·rw [Int.natAbs_mul]; exact h4
 ·rw [Nat.add_mul] at h6; omega
theorem terms_ok {w:World} {ps:List Int} {a0 a:Option Addr} {l:List Rat} {D c0 c:Nat} (S:SizeOk w ps a0 a l D) (L:Laid w) :
  Calls Tryz.prog 100 #[.slice a0 ps.length c0,.slice a l.length c] w fun e w'=>∃ b1 d1 b2 d2,e = .returned (.agg (tcells b1 d1 b2 d2 (tlQ ps l).length (tden l)))∧TermsAt w' (tlQ ps l) b1 b2∧Below w.heap.size w w':=by
 have hn:=S.n
 have hd:=S.d
 have hlen:=S.len
 have h6:3 + (l.length + 2) * D≤900000:=by
  have:(l.length + 2) * D≤102 * 1000:=Nat.mul_le_mul (by omega) hd
  omega
 refine cm_ (termsOf_any w a0 a c0 c ps l D S.rp S.rl S.len.symm S.sm (by omega) h6 L) ?_
 rintro e w' ⟨b1,d1,b2,d2,he,r1,r2,hb⟩
 refine ⟨b1,d1,b2,d2,he,⟨r1,r2,?_,?_,tlQ_znum S.sm h6⟩,hb⟩
 ·exact Nat.le_trans (tlist_length _ _ _) (by omega)
 ·exact fun x hx=>S.pr x.1 (tlist_mem hx).1
end Go.Proofs.YtnjedhgcfeoemaaGreatDoor

namespace Go.Proofs.YtnjedhgcfeoemaaGreatDoor
open Go.RowKit
theorem sum_pair (W:World) (g1 g2:Nat) (a1 a2:Option Addr) (c1 c2 n D:Nat) (la lb:List Rat) (f1 f2:Rat)
  (h1:W.heap[g1]?=some (.cells #[.slice a1 la.length c1,.slice a2 lb.length c2] 38 (0,0)))
  (h2:W.heap[g2]?=some (.cells #[.string (itx f1.num),.string (dec f1.den),.string (itx f2.num),.string (dec f2.den)] 42 (0,0)))
  (ra:Rd W a1 (cellsQ la)) (rb:Rd W a2 (cellsQ lb)) (la1:la.length=n) (lb1:lb.length=n) (sa:∀ q∈la,Sm D q) (sb:∀ q∈lb,Sm D q) (s1:Sm 1 f1) (s2:Sm 1 f2)
  (hn:n≤100) (hD:D≤400) (L:Laid W) :
  GivesQ 97 #[.int .i64 n,.slice (some ⟨g1,0,none⟩) 2 2,.slice (some ⟨g2,0,none⟩) 2 2] W (sumQ n [la,lb] [f1,f2]):=by
 have h1':W.heap[g1]?=some (.cells #[.slice a1 (la.map qs).length c1,.slice a2 (lb.map qs).length c2] 38 (0,0)):=by rw [List.length_map,List.length_map]; exact h1
 exact sum_any W _ _ 2 2 n [la,lb] [f1,f2] D 1 (rdl_two h1' ra rb) (rd_obj h2) (by intro l hl; simp only [List.mem_cons,List.not_mem_nil,or_false] at hl; rcases hl with rfl | rfl <;> assumption) rfl
  (by intro l hl; simp only [List.mem_cons,List.not_mem_nil,or_false] at hl; rcases hl with rfl | rfl <;> assumption)
  (by intro q hq; simp only [List.mem_cons,List.not_mem_nil,or_false] at hq; rcases hq with rfl | rfl <;> assumption) (by omega) (by simp) (by simp only [List.length_cons,List.length_nil]; omega) L
theorem sum_pair_sm {n D:Nat} {la lb:List Rat} {f1 f2:Rat} (sa:∀ q∈la,Sm D q) (sb:∀ q∈lb,Sm D q) (s1:Sm 1 f1) (s2:Sm 1 f2):∀ q∈sumQ n [la,lb] [f1,f2],Sm (2 * D + 5) q:=by
 have:=sumK_sm n [la,lb] [f1,f2] D 1 (by intro l hl; simp only [List.mem_cons,List.not_mem_nil,or_false] at hl; rcases hl with rfl | rfl <;> assumption) (by intro q hq; simp only [List.mem_cons,List.not_mem_nil,or_false] at hq; rcases hq with rfl | rfl <;> assumption) rfl 2 nr_
 intro q hq
 have h:=this q (by unfold sumK; unfold sumQ at hq; exact hq)
 rw [show 1 + 2 * (D + 1 + 1)=2 * D + 5 by omega] at h
 exact h
theorem sum_pair_len {n:Nat} {la lb:List Rat} {f1 f2:Rat} (h1:la.length=n) (h2:lb.length=n):(sumQ n [la,lb] [f1,f2]).length=n :=
 sumQ_length n [la,lb] [f1,f2] (by intro l hl; simp only [List.mem_cons,List.not_mem_nil,or_false] at hl; rcases hl with rfl | rfl <;> assumption) rfl
end Go.Proofs.YtnjedhgcfeoemaaGreatDoor

namespace Go.Proofs.YtnjedhgcfeoemaaGreatDoor
open Go.RowKit
theorem lcode_two {ps:List Int} {la lb:List Rat} (hp:pcode ps=0) (ha:∀ q∈la,Sm 30 q) (hb:∀ q∈lb,Sm 30 q) (h1:la.length=ps.length) (h2:lb.length=ps.length):lcode ps [la.map qs,lb.map qs]=0:=by
 unfold lcode
 rw [if_pos hp,lgo,if_pos (scode_ok ha h1),lgo,if_pos (scode_ok hb h2),lgo]
theorem checkAll_two (W:World) (ps:List Int) (g:Nat) (a0 a1 a2:Option Addr) (c0 c1 c2:Nat) (la lb:List Rat) (A:SizeOk W ps a0 a1 la 30) (B:SizeOk W ps a0 a2 lb 30) (hp:pcode ps=0) (L:Laid W)
  (h1:W.heap[g]?=some (.cells #[.slice a1 la.length c1,.slice a2 lb.length c2] 38 (0,0))) :
  Gives Tryz.prog 107 #[.slice a0 ps.length c0,.slice (some ⟨g,0,none⟩) 2 2] W (.int .i64 0):=by
 have h1':W.heap[g]?=some (.cells #[.slice a1 (la.map qs).length c1,.slice a2 (lb.map qs).length c2] 38 (0,0)):=by rw [List.length_map,List.length_map]; exact h1
 have hn:=A.n
 have e1:=A.len
 have e2:=B.len
 have h:=checkAll_any W a0 _ c0 2 ps [la.map qs,lb.map qs] A.rp A.i64 (by omega) (rdl_two h1' A.rl B.rl) (by simp)
  (by
   intro l hl
   simp only [List.mem_cons,List.not_mem_nil,or_false] at hl
   rcases hl with rfl | rfl
   ·exact ⟨by rw [List.length_map]; omega,ssz_ok A.sm⟩
   ·exact ⟨by rw [List.length_map]; omega,ssz_ok B.sm⟩) L
 rw [lcode_two hp A.sm B.sm e1 e2] at h
 exact h
end Go.Proofs.YtnjedhgcfeoemaaGreatDoor

namespace Go.Proofs.YtnjedhgcfeoemaaGreatDoor
open Go.RowKit
theorem part_of (w:World) (n d:Int) (v:Rat) (hof:∀ W,Below w.heap.size w W→Gives Tryz.prog 35 #[.int .i64 n,.int .i64 d] W (.tuple #[fr v,.int .i64 0])) :
  Gives Tryz.prog 169 #[.int .i64 n,.int .i64 d] w (fr v):=by
 unfold Gives
 have Hof:=hd_ hof
 clear hof
 unfold fr fv at Hof ⊢
 have B0:=hd_ ((Below.refl w.heap.size w).alloc nr_ (.cells #[.string ⟨#[]⟩,.string ⟨#[]⟩] 42))
 have K0:=hd_ (heap_at w #[.string ⟨#[]⟩,.string ⟨#[]⟩] 42 _ rfl)
 go_enter Tryz.func169,Tryz.ntmps169
 go_wp2_with fail
 refine cm_ (Hof.out _ B0.out) ?_
 rintro e w1 ⟨rfl,hb⟩
 have B1:=hd_ (B0.out.trans (hb.mono B0.out.size))
 have K1:=hd_ (heap_kept K0.out hb nr_)
 clear hb B0 K0 Hof
 have B2:=hd_ (B1.out.alloc B1.out.size (.cells #[.string (itx v.num),.string (dec v.den)] 42))
 have K2:=hd_ (heap_old K1.out (.cells #[.string (itx v.num),.string (dec v.den)] 42))
 have M2:=hd_ (heap_at w1 #[.string (itx v.num),.string (dec v.den)] 42 _ rfl)
 obtain ⟨k0,k1,f0,f1⟩:=two_cells K2.out
 obtain ⟨m0,m1,-,-⟩:=two_cells M2.out
 go_wp2_with fail
 obtain ⟨c0,c1,hb3⟩:=two_stored (B:=w.heap.size) (.string (itx v.num)) (.string (dec v.den)) k0 k1 nr_ B2.out
 exact bodyPost_ret (v := .agg #[.string (itx v.num),.string (dec v.den)]) (by simp [results,Tryz.results169,go_sem,c0,c1]) rfl ⟨rfl,hb3⟩
end Go.Proofs.YtnjedhgcfeoemaaGreatDoor

namespace Go.Proofs.YtnjedhgcfeoemaaGreatDoor
open Go.RowKit
theorem num_small (n:Nat) (h:n≤100000000000000000000):Num n:=num_pow (D:=21) (by omega) (by decide) (by decide)
theorem partR (w:World) (n:Int) (d:Nat) (q1 : -9223372036854775808≤n) (q2:n≤9223372036854775807) (q3:0 < d) (q4:d≤1000000) (L:Laid w) :
  Gives Tryz.prog 169 #[.int .i64 n,.int .i64 d] w (fr (mkRat n d)) :=
 part_of w n d _ fun W hW=>by
  have:=ofi_frac W n d q1 q2 (by omega) (num_small _ (by omega)) (num_small _ (by omega)) q3 (num_small _ (by omega)) (num_small _ (by omega)) (L.below hW)
  rw [redV_rat n d (by omega)] at this
  exact this
end Go.Proofs.YtnjedhgcfeoemaaGreatDoor

namespace Go.Proofs.YtnjedhgcfeoemaaGreatDoor
open Go.RowKit
theorem rd_ints {w:World} {g:Nat} {l:List Int} {t:TypeId} (h:w.heap[g]?=some (.cells (ints l).toArray t (0,0))):Rd w (some ⟨g,0,none⟩) (ints l):=by
 have:=rd_obj h
 simpa using this
end Go.Proofs.YtnjedhgcfeoemaaGreatDoor

namespace Go.Proofs.YtnjedhgcfeoemaaGreatDoor
open Go.RowKit
def primesL:Nat→List Int
 | 0=>[2,3,5] | 1=>[2,3] | 2=>[2,3,5,7] | 3=>[2,3,7] | 4=>[3,5,7] | 5=>[2] | 6=>[2,5,7] | 7=>[2,3,11] | 8=>[2,3,5,13] | _=>[2,3,7,11]
theorem primesL_ok:∀ k,k < 10→pcode (primesL k)=0∧(primesL k).length≤4∧0 < (primesL k).length∧(∀ p∈primesL k,2≤p∧p≤13):=by decide +kernel
theorem primes_any (w:World) (n:Nat) (hn:n < 256) :
  Calls Tryz.prog 31 #[.int .u8 n] w fun e w'=>∃ g,e = .returned (.slice (some ⟨g,0,none⟩) (primesL (n % 10)).length (primesL (n % 10)).length)∧Rd w' (some ⟨g,0,none⟩) (ints (primesL (n % 10)))∧Below w.heap.size w w':=by
 have htm:Int.tmod (n:Int) 10=((n % 10:Nat):Int):=by rw [Int.tmod_eq_emod_of_nonneg (by omega)]; omega
 have hk:n % 10 < 10:=Nat.mod_lt _ (by decide)
 generalize n % 10=k at *
 clear hn
 go_enter Tryz.func31,Tryz.ntmps31
 have hk':(0:Int)≤k∧(k:Int) < 10:=⟨by omega,by omega⟩
 go_wp2_with fail
 go_ret
 clear hk'
 have h10:k=0∨k=1∨k=2∨k=3∨k=4∨k=5∨k=6∨k=7∨k=8∨k=9:=by omega
 rcases h10 with rfl | rfl | rfl | rfl | rfl | rfl | rfl | rfl | rfl | rfl
 all_goals
  refine ⟨_,rfl,?_,?_⟩
  ·refine rd_ints (t:=3) ?_
   repeat (first | exact heap_at _ _ _ _ (by simp) | refine heap_old ?_ _)
  ·repeat (first | exact Below.refl _ _ | refine Below.alloc ?_ (by simp; try omega) _)
def densL:Nat→Nat
 | 0=>1 | 1=>2 | 2=>3 | 3=>4 | 4=>6 | _=>12
def fracQ (n:Int) (d:Nat):Rat:=mkRat (n.tmod 41) (densL (d % 6))
theorem densL_ok (k:Nat):0 < densL k∧densL k≤12:=by
 unfold densL; split <;> omega
end Go.Proofs.YtnjedhgcfeoemaaGreatDoor

namespace Go.Proofs.YtnjedhgcfeoemaaGreatDoor
open Go.RowKit
theorem fraction_any (w:World) (n:Int) (d:Nat) (_ : -128≤n∧n≤127) (hd:d < 256) (L:Laid w) :
  Gives Tryz.prog 99 #[.agg #[.int .i8 n,.int .u8 d]] w (fr (fracQ n d)):=by
 unfold Gives
 have t1:=Int.tmod_lt_of_pos n (show (0:Int) < 41 by decide)
 have t2:=Int.lt_tmod_of_pos n (show (0:Int) < 41 by decide)
 have hdl:=densL_ok (d % 6)
 have HP:Hid (∀ W,Below w.heap.size w W→Gives Tryz.prog 169 #[.int .i64 (n.tmod 41),.int .i64 (densL (d % 6))] W (fr (fracQ n d))):=fun W hW=>partR W (n.tmod 41) (densL (d % 6)) (by omega) (by omega) hdl.1 (by omega) (L.below hW)
 have htm:Int.tmod (d:Int) 6=((d % 6:Nat):Int):=by rw [Int.tmod_eq_emod_of_nonneg (by omega)]; omega
 have hk:d % 6 < 6:=Nat.mod_lt _ (by decide)
 have Hx:Hid (∀ h,([Value.int .i64 1,Value.int .i64 2,Value.int .i64 3,Value.int .i64 4,Value.int .i64 6,Value.int .i64 12]:List Value)[d % 6]'h = .int .i64 (densL (d % 6))):=fun h=>by
  have h6:d % 6=0∨d % 6=1∨d % 6=2∨d % 6=3∨d % 6=4∨d % 6=5:=by omega
  generalize d % 6=k at *
  rcases h6 with rfl | rfl | rfl | rfl | rfl | rfl <;> rfl
 unfold fr fv at HP ⊢
 generalize fracQ n d=q at *
 have hw:wrap64 (n.tmod 41)=n.tmod 41:=IntWalk.wrap64_in _ ⟨by omega,by omega⟩
 generalize d % 6=k at *
 clear hdl L
 have hk':(0:Int)≤k∧(k:Int) < 6:=⟨by omega,by omega⟩
 have B0:=hd_ (((Below.refl w.heap.size w).alloc nr_ (.cells #[.int .i8 n,.int .u8 d] 59)).alloc (by simp) (.cells #[.string ⟨#[]⟩,.string ⟨#[]⟩] 42))
 have K0:=hd_ (heap_old (heap_at w #[.int .i8 n,.int .u8 d] 59 _ rfl) (.cells #[.string ⟨#[]⟩,.string ⟨#[]⟩] 42))
 have M0:=hd_ (heap_at (w.alloc (.cells #[.int .i8 n,.int .u8 d] 59)) #[.string ⟨#[]⟩,.string ⟨#[]⟩] 42 _ rfl)
 rw [World.size_alloc] at M0
 go_enter Tryz.func99,Tryz.ntmps99
 go_wp2_with fail
 generalize (w.alloc (.cells #[.int .i8 n,.int .u8 d] 59)).alloc (.cells #[.string ⟨#[]⟩,.string ⟨#[]⟩] 42)=W0 at *
 obtain ⟨k0,k1,-,-⟩:=two_cells K0.out
 have q0:=BW.cell k0
 have q1:=BW.cell k1
 have hnon:Nonempty (BW W0):=⟨⟨W0,Below.refl _ _⟩⟩
 clear k0 k1 K0
 refine RP.wp_region_readers 11 [(1,0),(1,1),(1,2),(1,3),(1,5),(1,6),(1,7),(0,4),(2,8),(0,9),(0,10),(0,11)] (fun w'=>∃ p:BW W0,w'=p.w) (by kernel_rfl) (by kernel_rfl) ?_ ?_
 ·exact ⟨⟨{ W0 with drawn:=W0.drawn + 1 },⟨rfl,rfl,rfl,Nat.le_refl _,fun _ _=>rfl⟩⟩,rfl⟩
 iterate 7 (refine RP.walkR_read ?_; simp only [dsc_,dz_,tsc_,tz_]; go_big_quiet_step (fail); refine wpQuiet_nil ?_)
 clear q0 q1 hnon
 refine RP.walkR_move ?_
 simp only [dsc_,dz_,tsc_,tz_]
 go_wp2_with fail
 have W1:Hid (Below W0.heap.size W0 (W0.alloc (.cells #[.int .i64 1,.int .i64 2,.int .i64 3,.int .i64 4,.int .i64 6,.int .i64 12] 3)).drew):=((Below.refl W0.heap.size W0).alloc nr_ _).drew
 refine ⟨⟨⟨_,W1.out⟩,rfl⟩,?_⟩
 refine RP.walkR_any ?_
 simp only [dsc_,dz_,tsc_,tz_]
 go_big_quiet_step (fail)
 refine wpQuiet_nil ?_
 refine RP.walkR_move ?_
 simp only [dsc_,dz_,tsc_,tz_]
 go_wp2_with fail
 refine ⟨⟨⟨_,W1.out⟩,rfl⟩,?_⟩
 refine RP.walkR_move ?_
 simp only [dsc_,dz_,tsc_,tz_]
 simp only [Hx.out]
 go_wp2_with fail
 have B1:=hd_ (B0.out.trans (W1.out.mono B0.out.size))
 refine cm_ (HP.out _ B1.out) ?_
 rintro e w5 ⟨rfl,hb5⟩
 have W5:=hd_ (W1.out.trans (hb5.mono W1.out.size))
 have B5:=hd_ (B0.out.trans (W5.out.mono B0.out.size))
 have M5:=hd_ (heap_kept M0.out W5.out nr_)
 clear hb5 HP M0 B0 W1 B1
 go_wp2_with fail
 refine ⟨⟨⟨w5,W5.out⟩,rfl⟩,?_⟩
 obtain ⟨k0,k1,f0,f1⟩:=two_cells M5.out
 refine RP.walkR_move ?_
 simp only [dsc_,dz_,tsc_,tz_]
 go_wp2_with fail
 simp only [RP.walkR]
 obtain ⟨c0,c1,hb3⟩:=two_stored (B:=w.heap.size) (.string (itx q.num)) (.string (dec q.den)) k0 k1 (by omega) B5.out
 go_wp2
 exact bodyPost_ret (v := .agg #[.string (itx q.num),.string (dec q.den)]) (by simp [results,Tryz.results99,go_sem,c0,c1]) rfl ⟨rfl,hb3⟩
end Go.Proofs.YtnjedhgcfeoemaaGreatDoor

namespace Go.Proofs.YtnjedhgcfeoemaaGreatDoor
open Go.RowKit
def partsV (nu:Nat→Int) (de:Nat→Nat):Array Value := #[.int .i8 (nu 0),.int .u8 (de 0),.int .i8 (nu 1),.int .u8 (de 1),.int .i8 (nu 2),.int .u8 (de 2),.int .i8 (nu 3),.int .u8 (de 3)]
def partsQ (nu:Nat→Int) (de:Nat→Nat) (m:Nat):List Rat:=(List.range m).map fun i=>fracQ (nu i) (de i)
theorem partsQ_length (nu:Nat→Int) (de:Nat→Nat) (m:Nat):(partsQ nu de m).length=m:=by simp [partsQ]
theorem partsQ_succ (nu:Nat→Int) (de:Nat→Nat) (m:Nat):partsQ nu de (m + 1)=partsQ nu de m ++ [fracQ (nu m) (de m)]:=by simp [partsQ,List.range_succ]
theorem parts_cells {w:World} {g:Nat} {nu:Nat→Int} {de:Nat→Nat} {t:TypeId} (h:w.heap[g]?=some (.cells (partsV nu de) t (0,0))) (k:Nat) (hk:k < 4) :
  w.cell? ⟨g,k * 2,none⟩=some (.int .i8 (nu k))∧w.cell? ⟨g,k * 2 + 1,none⟩=some (.int .u8 (de k)):=by
 have h4:k=0∨k=1∨k=2∨k=3:=by omega
 rcases h4 with rfl | rfl | rfl | rfl <;> exact ⟨by rw [cell_of_row w g _ _ t (0,0) h]; rfl,by rw [cell_of_row w g _ _ t (0,0) h]; rfl⟩
theorem make_any (w:World) (a0:Option Addr) (c0 m:Nat) (hm:m≤4) (nu:Nat→Int) (de:Nat→Nat) (hn:∀ k,-128≤nu k∧nu k≤127) (hd:∀ k,de k < 256) (L:Laid w) :
  Calls Tryz.prog 33 #[.slice a0 m c0,.agg (partsV nu de)] w fun e w'=>∃ a c,e = .returned (.slice a m c)∧OwnQ w' w.heap.size a c (partsQ nu de m)∧Below w.heap.size w w':=by
 have HF:Hid (∀ W k,Below w.heap.size w W→Gives Tryz.prog 99 #[.agg #[.int .i8 (nu k),.int .u8 (de k)]] W (fr (fracQ (nu k) (de k)))):=fun W k hW=>fraction_any W (nu k) (de k) (hn k) (hd k) (L.below hW)
 unfold fr fv at HF
 have B0:=hd_ (((Below.refl w.heap.size w).alloc nr_ (.cells (partsV nu de) 61)).alloc (by simp) (.cells #[] 42))
 have K0:=hd_ (heap_old (heap_at w (partsV nu de) 61 _ rfl) (.cells #[] 42))
 have O0:Hid (OwnQ ((w.alloc (.cells (partsV nu de) 61)).alloc (.cells #[] 42)) (w.heap.size + 1) (some ⟨w.heap.size + 1,0,none⟩) 0 (partsQ nu de 0)):=by
  have:=own_madeS (w.alloc (.cells (partsV nu de) 61)) [] (by simp)
  rw [World.size_alloc] at this
  exact this
 have Hp0:Hid (partsV nu de = #[.int .i8 (nu 0),.int .u8 (de 0),.int .i8 (nu 1),.int .u8 (de 1),.int .i8 (nu 2),.int .u8 (de 2),.int .i8 (nu 3),.int .u8 (de 3)]):=hd_ rfl
 clear L hn hd
 unfold partsV at *
 go_enter Tryz.func33,Tryz.ntmps33
 go_wp2_with fail
 generalize (w.alloc (.cells #[.int .i8 (nu 0),.int .u8 (de 0),.int .i8 (nu 1),.int .u8 (de 1),.int .i8 (nu 2),.int .u8 (de 2),.int .i8 (nu 3),.int .u8 (de 3)] 61)).alloc (.cells #[] 42)=W0 at *
 go_loopw [5,6] (fun o i wr=>∃ (k:Nat) (b:Option Addr) (d:Nat),k≤m∧i = .int .i64 k∧o = .slice b k d∧Hid (wr.heap[w.heap.size]?=some (.cells #[.int .i8 (nu 0),.int .u8 (de 0),.int .i8 (nu 1),.int .u8 (de 1),.int .i8 (nu 2),.int .u8 (de 2),.int .i8 (nu 3),.int .u8 (de 3)] 61 (0,0)))∧Hid (OwnQ wr (w.heap.size + 1) b d (partsQ nu de k))∧Hid (Below w.heap.size w wr)) (fun _ i _=>m - (intOf i).toNat)
 case atStart=>exact ⟨0,_,_,Nat.zero_le _,rfl,rfl,K0,O0,B0⟩
 case round =>
  clear B0 K0 O0
  obtain ⟨k,b,d,hk,rfl,rfl,K,O,B⟩:=hrel
  by_cases hlt:k < m
  ·have hlt':(k:Int) < m:=by omega
   have htm:Int.tmod (k:Int) 4=k:=by rw [Int.tmod_eq_emod_of_nonneg (by omega)]; omega
   obtain ⟨x0,x1⟩:=parts_cells (nu:=nu) (de:=de) K.out k (by omega)
   have hk4:(0:Int)≤k∧(k:Int) < 4:=⟨by omega,by omega⟩
   have Hf:=hd_ (HF.out wr k B.out)
   have Hs:=hd_ (partsQ_succ nu de k)
   generalize fracQ (nu k) (de k)=q at *
   generalize nu k=z at *
   generalize de k=y at *
   go_wp2_with fail
   refine cm_ Hf.out ?_
   rintro e w1 ⟨rfl,hb1⟩
   have hsz:=(Array.getElem?_eq_some_iff.1 K.out).1
   have B1:=hd_ (B.out.trans (hb1.mono B.out.size))
   have K1:=hd_ (heap_kept K.out hb1 nr_)
   have O1:=hd_ (O.out.below hb1 nr_)
   have S1:=hd_ (Nat.le_trans hsz hb1.size)
   clear hb1 Hf B K O x0 x1 hsz
   have Ow:Hid (w1.ownsRow (w.heap.size + 1) 42 2 (.slice b k d) k (cellsQ (partsQ nu de k))):=by
    have:=ownS_own O1.out
    rw [partsQ_length] at this
    exact this
   go_wp2_with (at_builtin; refine wpList_append_new rfl (.tmp 14) (.tmp 20) 38 rfl elQ _ 1 [.string (itx q.num),.string (dec q.den)] rfl rfl Ow.out S1.out rfl (by simp [Value.oneCell']) (by omega) (by omega) ?_)
   intro v' w3 hown3 hg3 hnil3
   have hlow:∀ j,j < w.heap.size + 1→w3.heap[j]?=w1.heap[j]?:=fun j hj=>by
    have hs1:=S1.out
    have hjl:j < w1.heap.size:=by omega
    rw [hg3.block j (by simp; omega) (fun e=>by have:=(Ow.out.lt j e.symm).1; omega)]
    exact ((Below.refl w1.heap.size w1).alloc nr_ _).block j hjl
   have K3:Hid (w3.heap[w.heap.size]?=some (.cells #[.int .i8 (nu 0),.int .u8 (de 0),.int .i8 (nu 1),.int .u8 (de 1),.int .i8 (nu 2),.int .u8 (de 2),.int .i8 (nu 3),.int .u8 (de 3)] 61 (0,0))):=by
    show _=_
    rw [hlow _ (by omega)]
    exact K1.out
   have B3:Hid (Below w.heap.size w w3):=(B1.out.alloc B1.out.size _).grown hg3 (by simp; have:=B1.out.size; omega) (fun j hj=>by have:=(Ow.out.lt j hj).1; omega)
   obtain ⟨b3,d3,rfl⟩:=own_form hown3
   have O3:Hid (OwnQ w3 (w.heap.size + 1) b3 d3 (partsQ nu de (k + 1))):=by
    refine own_ownQ ?_
    rw [partsQ_length,Hs.out]
    unfold cellsQ
    rw [List.map_append,cellsS_append]
    exact hown3
   clear hown3 hg3 hnil3 hlow B1 K1 O1 S1 Ow
   go_wp2_with fail
   go_roundw
   case rel=>exact ⟨k + 1,b3,d3,by omega,by go_num,rfl,K3,O3,B3⟩
   case measure=>simp [intOf]; omega
  ·have hlt':¬ (k:Int) < m:=by omega
   have hkm:k=m:=by omega
   subst hkm
   go_wp2_with fail
   go_ret
   exact ⟨b,d,rfl,O.out.lower (by omega),B.out⟩
end Go.Proofs.YtnjedhgcfeoemaaGreatDoor

namespace Go.Proofs.YtnjedhgcfeoemaaGreatDoor
open Go.RowKit
theorem sub_gen (w:World) (ps:List Int) (a0 a1 a2:Option Addr) (c0 c1 c2:Nat) (la lb:List Rat) (rp:Rd w a0 (ints ps)) (hi:I64s ps) (hp:pcode ps=0) (r1:Rd w a1 (cellsQ la)) (r2:Rd w a2 (cellsQ lb)) (l1:la.length=ps.length) (l2:lb.length=ps.length)
  (s1:∀ q∈la,Sm 30 q) (s2:∀ q∈lb,Sm 30 q) (L:Laid w) :
  GivesC 39 #[.slice a0 ps.length c0,.slice a1 la.length c1,.slice a2 lb.length c2] w (sumCode (sumQ ps.length [la,lb] [1,(((-1):Int):Rat)])) (sumQ ps.length [la,lb] [1,(((-1):Int):Rat)]):=by
 obtain ⟨u,hu⟩:∃ q:Rat,q=1:=⟨_,rfl⟩
 obtain ⟨v,hv⟩:∃ q:Rat,q=(((-1):Int):Rat):=⟨_,rfl⟩
 rw [← hv,← hu]
 have Hc:Hid (∀ W g1 g2,Below w.heap.size w W→W.heap[g1]?=some (.cells #[.slice a1 la.length c1,.slice a2 lb.length c2] 38 (0,0))→W.heap[g2]?=some (.cells #[.string (itx u.num),.string (dec u.den),.string (itx v.num),.string (dec v.den)] 42 (0,0)) →
   GivesC 103 #[.slice a0 ps.length c0,.slice (some ⟨g1,0,none⟩) 2 2,.slice (some ⟨g2,0,none⟩) 2 2] W (sumCode (sumQ ps.length [la,lb] [u,v])) (sumQ ps.length [la,lb] [u,v])):=fun W g1 g2 hW h1 h2 =>
  (combine_fine W a0 _ _ c0 2 2 ps [la,lb] [u,v] (rp.below hW nr_) hi hp (rdl_two (l1:=la.map qs) (l2:=lb.map qs) (by rw [List.length_map,List.length_map]; exact h1) (r1.below hW nr_) (r2.below hW nr_)) (by simp)
   (by intro l hl; simp only [List.mem_cons,List.not_mem_nil,or_false] at hl; rcases hl with rfl | rfl; exact ⟨l1,s1⟩; exact ⟨l2,s2⟩) (rd_obj h2) rfl
   (by intro q hq; simp only [List.mem_cons,List.not_mem_nil,or_false] at hq; rcases hq with rfl | rfl; subst hu; exact Sm.le (D:=1) ⟨by decide +kernel,by decide +kernel⟩ (by decide); subst hv; exact Sm.le (D:=2) ⟨by decide +kernel,by decide +kernel⟩ (by decide)) (L.below hW)).code
 have N1:Hid (∀ W,Below w.heap.size w W→Gives Tryz.prog 98 #[.int .i64 1] W (fr u)):=fun W hW=>by subst hu; exact numberR W 1 (by decide) (by decide) (L.below hW)
 have N2:Hid (∀ W,Below w.heap.size w W→Gives Tryz.prog 98 #[.int .i64 (-1)] W (fr v)):=fun W hW=>by subst hv; exact numberR W (-1) (by decide) (by decide) (L.below hW)
 unfold fr fv at N1 N2
 unfold GivesC at Hc ⊢
 clear hu hv rp hi hp r1 r2 l1 l2 s1 s2 L
 generalize sumQ ps.length [la,lb] [u,v]=S at *
 generalize sumCode S=code at *
 generalize (if code=0 then S.length else 0)=z at *
 generalize ps.length=n at *
 generalize la.length=na at *
 generalize lb.length=nb at *
 have B0:=hd_ ((Below.refl w.heap.size w).alloc nr_ (.cells #[.slice a1 na c1,.slice a2 nb c2] 38))
 have K0:=hd_ (heap_at w #[.slice a1 na c1,.slice a2 nb c2] 38 _ rfl)
 go_enter Tryz.func39,Tryz.ntmps39
 go_wp2_with fail
 generalize w.alloc (.cells #[.slice a1 na c1,.slice a2 nb c2] 38)=w0 at *
 refine cm_ (N1.out _ B0.out) ?_
 rintro e w1 ⟨rfl,hb⟩
 have B1:=hd_ (B0.out.trans (hb.mono B0.out.size))
 have K1:=hd_ (heap_kept K0.out hb nr_)
 clear hb B0 K0
 go_wp2_with fail
 refine cm_ (N2.out _ B1.out) ?_
 rintro e w2 ⟨rfl,hb⟩
 have B2:=hd_ (B1.out.trans (hb.mono B1.out.size))
 have K2:=hd_ (heap_kept K1.out hb nr_)
 clear hb B1 K1 N1 N2
 go_wp2_with fail
 have B3:=hd_ (B2.out.alloc B2.out.size (.cells #[.string (itx u.num),.string (dec u.den),.string (itx v.num),.string (dec v.den)] 42))
 have K3:=hd_ (heap_old K2.out (.cells #[.string (itx u.num),.string (dec u.den),.string (itx v.num),.string (dec v.den)] 42))
 have M3:=hd_ (heap_at w2 #[.string (itx u.num),.string (dec u.den),.string (itx v.num),.string (dec v.den)] 42 _ rfl)
 generalize w2.alloc (.cells #[.string (itx u.num),.string (dec u.den),.string (itx v.num),.string (dec v.den)] 42)=w3 at *
 refine cm_ (Hc.out _ _ _ B3.out K3.out M3.out) ?_
 rintro e w4 ⟨a,c,rfl,hr,hb⟩
 have Hr:=hd_ hr
 have B4:=hd_ (B3.out.trans (hb.mono B3.out.size))
 clear hr hb Hc B2 K2 B3 K3 M3
 go_wp2_with fail
 go_ret2
 exact ⟨a,c,rfl,Hr.out,B4.out⟩
end Go.Proofs.YtnjedhgcfeoemaaGreatDoor

namespace Go.Proofs.YtnjedhgcfeoemaaGreatDoor
open Go.RowKit
theorem fracQ_sm (n:Int) (d:Nat):Sm 2 (fracQ n d):=by
 have t1:=Int.tmod_lt_of_pos n (show (0:Int) < 41 by decide)
 have t2:=Int.lt_tmod_of_pos n (show (0:Int) < 41 by decide)
 have hd:=densL_ok (d % 6)
 exact Sm.mk' (by omega) (by show _ < 100; omega) (by show _ < 100; omega)
theorem partsQ_sm (nu:Nat→Int) (de:Nat→Nat) (m:Nat):∀ q∈partsQ nu de m,Sm 2 q:=by
 intro q hq
 obtain ⟨i,_,rfl⟩:=List.mem_map.1 hq
 exact fracQ_sm _ _
theorem sm_mone:Sm 1 (((-1:Int):Rat)):=⟨by decide +kernel,by decide +kernel⟩
end Go.Proofs.YtnjedhgcfeoemaaGreatDoor

namespace Go.Proofs.YtnjedhgcfeoemaaGreatDoor
open Go.RowKit Go.Proofs.YtnjedhgcfeoemaaGreatDoor.RP
def pairV (pn:Nat) (nA:Nat→Int) (dA:Nat→Nat) (nB:Nat→Int) (dB:Nat→Nat):Array Value := #[.int .u8 pn,.int .i8 (nA 0),.int .u8 (dA 0),.int .i8 (nA 1),.int .u8 (dA 1),.int .i8 (nA 2),.int .u8 (dA 2),.int .i8 (nA 3),.int .u8 (dA 3),.int .i8 (nB 0),.int .u8 (dB 0),.int .i8 (nB 1),.int .u8 (dB 1),.int .i8 (nB 2),.int .u8 (dB 2),.int .i8 (nB 3),.int .u8 (dB 3)]
theorem AddFacts.sub {w W:World} {ps:List Int} {la lb:List Rat} {s t:ByteArray} (H:AddFacts w ps la lb s t) (hW:Below w.heap.size w W) {a0 a1 a2:Option Addr} (c0 c1 c2:Nat) (rp:Rd W a0 (ints ps)) (r1:Rd W a1 (cellsQ la)) (r2:Rd W a2 (cellsQ lb)) :
  Calls Tryz.prog 39 #[.slice a0 ps.length c0,.slice a1 ps.length c1,.slice a2 ps.length c2] W fun e w'=>∃ a c,e = .returned (.tuple #[.slice a ps.length c,.int .i64 0])∧Rd w' a (cellsQ (combineQ la lb 1 ((-1:Int):Rat)))∧Below W.heap.size W w':=by
 have h:=sub_gen W ps a0 a1 a2 c0 c1 c2 la lb rp H.hi H.hp r1 r2 H.l1 H.l2 (fun q hq=>(H.s1 q hq).le (by decide)) (fun q hq=>(H.s2 q hq).le (by decide)) (H.L.below hW)
 rw [sumQ_two _ _ _ _ _ H.l1 H.l2,sumCode_small la lb _ H.s1 H.s2 sm_mone,H.l1,H.l2] at h
 unfold GivesC at h
 rw [if_pos rfl,combineQ_length _ _ _ _ (H.l1.trans H.l2.symm),H.l1] at h
 refine cm_ h ?_
 rintro e w' ⟨a,c,rfl,hr,hb⟩
 exact ⟨a,c,rfl,hr rfl,hb⟩
end Go.Proofs.YtnjedhgcfeoemaaGreatDoor

namespace Go.Proofs.YtnjedhgcfeoemaaGreatDoor
open Go.ChangeShapes Go.WideShapes Go.ChangeAt Go.RowKit Go.Joins
theorem cellsPart:Tryz.prog.cellsOf 59=2:=by kernel_rfl
theorem cellsParts:Tryz.prog.cellsOf 61=8:=by kernel_rfl
theorem cellsPair:Tryz.prog.cellsOf 79=17:=by kernel_rfl
theorem cellsI8:Tryz.prog.cellsOf 57=1:=by kernel_rfl
theorem cellsU8:Tryz.prog.cellsOf 5=1:=by kernel_rfl
section
variable {H:Type} {enc:TypeId×Value→H} {W:World}
theorem open_part {base fuel:Nat} {sp:Nat→Bool} {held:Bool} {cs:List Value} {x:DataW H×List MemPlace} (h:DataW.trod enc Tryz.prog W base sp held fuel 59 cs=some x) :
  ∃ (n:Int) (d:Nat),cs=[.int .i8 n,.int .u8 d]∧(-128≤n∧n≤127)∧d < 256:=by
 obtain ⟨y0,y1,n,hx,hl,h0,h1⟩:=trod_struct2 Tryz.underlying59 h
 rw [cellsPart] at hl
 match cs,hl with
 | [c0,c1],_ =>
  simp only [List.drop_zero,List.drop_succ_cons,cellsI8,cellsU8,List.take_succ_cons,List.take_zero] at h0 h1
  obtain ⟨a,ha,_,wa⟩:=DataW.trod_int Tryz.underlying57 h0
  obtain ⟨b,hb,_,wb⟩:=DataW.trod_int Tryz.underlying5 h1
  have b1:=bounds_i8 wa
  have b2:=bounds_u8 wb
  simp only [List.cons.injEq,and_true] at ha hb
  refine ⟨a,b.toNat,?_,b1,by omega⟩
  rw [ha,hb,show ((b.toNat:Nat):Int)=b by omega]
theorem open_parts {base fuel:Nat} {sp:Nat→Bool} {held:Bool} {cs:List Value} {x:DataW H×List MemPlace} (h:DataW.trod enc Tryz.prog W base sp held fuel 61 cs=some x) :
  ∃ (nu:Nat→Int) (de:Nat→Nat),cs=(partsV nu de).toList∧(∀ k,-128≤nu k∧nu k≤127)∧(∀ k,de k < 256):=by
 obtain ⟨xs,m,_,_,hl,hn,hel⟩:=DataW.trod_array Tryz.underlying61 h
 rw [cellsParts] at hl
 match cs,hl,xs,hn with
 | [c0,c1,c2,c3,c4,c5,c6,c7],_,[x0,x1,x2,x3],_ =>
  have e0:=hel 0 (by decide)
  have e1:=hel 1 (by decide)
  have e2:=hel 2 (by decide)
  have e3:=hel 3 (by decide)
  simp only [cellsPart,Nat.zero_mul,Nat.one_mul,Nat.reduceMul,List.drop_zero,List.drop_succ_cons,List.take_succ_cons,List.take_zero] at e0 e1 e2 e3
  obtain ⟨n0,d0,q0,b0,b0'⟩:=open_part e0
  obtain ⟨n1,d1,q1,b1,b1'⟩:=open_part e1
  obtain ⟨n2,d2,q2,b2,b2'⟩:=open_part e2
  obtain ⟨n3,d3,q3,b3,b3'⟩:=open_part e3
  simp only [List.cons.injEq,and_true] at q0 q1 q2 q3
  refine ⟨four n0 n1 n2 n3 0,four d0 d1 d2 d3 0,?_,?_,?_⟩
  ·rw [q0.1,q0.2,q1.1,q1.2,q2.1,q2.2,q3.1,q3.2]; rfl
  ·intro k
   match k with
   | 0=>exact b0
   | 1=>exact b1
   | 2=>exact b2
   | 3=>exact b3
   | k + 4=>exact ⟨by show -128≤(0:Int); decide,by show (0:Int)≤127; decide⟩
  ·intro k
   match k with
   | 0=>exact b0'
   | 1=>exact b1'
   | 2=>exact b2'
   | 3=>exact b3'
   | k + 4=>show 0 < 256; decide
theorem open_pair {r:Reach} {b0:Nat} {v:Value} {d:DataW H} {p:List MemPlace} (hv:Value.okWide Tryz.prog W r b0 79 v) (h:DataW.Trod enc Tryz.prog W 0 (fun _=>true) true 79 v d p) :
  ∃ (pn:Nat) (nA:Nat→Int) (dA:Nat→Nat) (nB:Nat→Int) (dB:Nat→Nat),v = .agg (pairV pn nA dA nB dB)∧pn < 256∧(∀ k,-128≤nA k∧nA k≤127)∧(∀ k,dA k < 256)∧(∀ k,-128≤nB k∧nB k≤127)∧(∀ k,dB k < 256):=by
 obtain ⟨cs,rfl,hsz⟩:=okWide_struct Tryz.underlying79 hv
 obtain ⟨fuel,hf⟩:=h
 rw [cellsPair] at hsz
 obtain ⟨y0,y1,y2,n,hx,_,h0,h1,h2⟩:=Go.Deep.trod_struct3 Tryz.underlying79 hf
 obtain ⟨l⟩:=cs
 have hl:l.length=17:=by simpa using hsz
 match l,hl with
 | [c0,c1,c2,c3,c4,c5,c6,c7,c8,c9,c10,c11,c12,c13,c14,c15,c16],_ =>
  simp only [Value.cells,List.drop_zero,List.drop_succ_cons,cellsU8,cellsParts,List.take_succ_cons,List.take_zero] at h0 h1 h2
  obtain ⟨b,hb,_,wb⟩:=DataW.trod_int Tryz.underlying5 h0
  have b2:=bounds_u8 wb
  obtain ⟨nA,dA,qA,hA1,hA2⟩:=open_parts h1
  obtain ⟨nB,dB,qB,hB1,hB2⟩:=open_parts h2
  simp only [partsV,List.cons.injEq,and_true] at hb qA qB
  refine ⟨b.toNat,nA,dA,nB,dB,?_,by omega,hA1,hA2,hB1,hB2⟩
  unfold pairV
  obtain ⟨a1,a2,a3,a4,a5,a6,a7,a8⟩:=qA
  obtain ⟨b1,b2,b3,b4,b5,b6,b7,b8⟩:=qB
  rw [hb,a1,a2,a3,a4,a5,a6,a7,a8,b1,b2,b3,b4,b5,b6,b7,b8,show ((b.toNat:Nat):Int)=b by omega]
end
end Go.Proofs.YtnjedhgcfeoemaaGreatDoor

namespace Go.Proofs.YtnjedhgcfeoemaaGreatDoor.LN
theorem negT_negT (l:List (Int×Int)):negT (negT l)=l:=by
 unfold negT
 rw [List.map_map]
 conv=>rhs; rw [← List.map_id l]
 refine List.map_congr_left fun x _=>?_
 simp
structure LogAt (n:Nat) (p:Int) (L:Nat):Prop where
 le:2 ^ L≤p.toNat ^ (2 ^ n)
 lt:p.toNat ^ (2 ^ n) < 2 ^ (L + 1)
 two:p=2→L=2 ^ n
 odd:p≠2→2 ^ L < p.toNat ^ (2 ^ n)
theorem pow_le_up (n:Nat) (f:Int→Nat):∀ l:List (Int×Int),(∀ x∈l,LogAt n x.1 (f x.1))→2 ^ loS f l≤upT l ^ (2 ^ n)
 | [],_=>by simp [loS,upT]
 | x :: l,h=>by
  have ih:=pow_le_up n f l fun y hy=>h y (List.mem_cons_of_mem _ hy)
  have hx:=(h x List.mem_cons_self).le
  rw [loS,upT,Nat.pow_add,Nat.mul_pow]
  refine Nat.mul_le_mul ?_ ih
  rw [← Nat.pow_mul,Nat.mul_comm x.2.toNat,Nat.mul_comm x.2.toNat,Nat.pow_mul,Nat.pow_mul]
  exact Nat.pow_le_pow_left hx _
theorem up_pos (n:Nat) (f:Int→Nat) (l:List (Int×Int)) (h:∀ x∈l,LogAt n x.1 (f x.1)):0 < upT l:=by
 have:=pow_le_up n f l h
 by_cases h0:upT l=0
 ·rw [h0,Nat.zero_pow (Nat.two_pow_pos _)] at this
  have:=Nat.two_pow_pos (loS f l)
  omega
 ·omega
theorem up_le_pow (n:Nat) (f:Int→Nat):∀ l:List (Int×Int),(∀ x∈l,LogAt n x.1 (f x.1))→upT l ^ (2 ^ n)≤2 ^ hiS f l
 | [],_=>by simp [hiS,upT]
 | x :: l,h=>by
  have ih:=up_le_pow n f l fun y hy=>h y (List.mem_cons_of_mem _ hy)
  have hx:=h x List.mem_cons_self
  have hh:x.1.toNat ^ (2 ^ n)≤2 ^ hiL f x.1:=by
   unfold hiL
   split
   ·rename_i e; rw [hx.two e,e]; exact Nat.le_refl _
   ·exact Nat.le_of_lt hx.lt
  rw [hiS,upT,Nat.pow_add,Nat.mul_pow]
  refine Nat.mul_le_mul ?_ ih
  rw [← Nat.pow_mul,Nat.mul_comm x.2.toNat,Nat.pow_mul,Nat.mul_comm x.2.toNat,Nat.pow_mul 2]
  exact Nat.pow_le_pow_left hh _
theorem mul_lt_left {a b c d:Nat} (h:a < b) (h2:c≤d) (hd:0 < d):a * c < b * d:=Nat.lt_of_le_of_lt (Nat.mul_le_mul_left _ h2) (Nat.mul_lt_mul_of_pos_right h hd)
theorem mul_lt_right {a b c d:Nat} (h:a≤b) (h2:c < d) (hb:0 < b):a * c < b * d:=Nat.lt_of_le_of_lt (Nat.mul_le_mul_right _ h) (Nat.mul_lt_mul_of_pos_left h2 hb)
theorem pow_lt_up (n:Nat) (f:Int→Nat):∀ l:List (Int×Int),(∀ x∈l,LogAt n x.1 (f x.1))→(∃ x∈l,x.1≠2∧0 < x.2)→2 ^ loS f l < upT l ^ (2 ^ n)
 | [],_,h=>by obtain ⟨_,h,_⟩:=h; cases h
 | x :: l,h,h2=>by
  have hl:∀ y∈l,LogAt n y.1 (f y.1):=fun y hy=>h y (List.mem_cons_of_mem _ hy)
  have ih0:=pow_le_up n f l hl
  have hx:=h x List.mem_cons_self
  have hp0:=Nat.pow_pos (n:=2 ^ n) (up_pos n f l hl)
  rw [loS,upT,Nat.pow_add,Nat.mul_pow]
  have e1:2 ^ (x.2.toNat * f x.1)=(2 ^ f x.1) ^ x.2.toNat:=by rw [Nat.mul_comm,Nat.pow_mul]
  have e2:(x.1.toNat ^ x.2.toNat) ^ (2 ^ n)=(x.1.toNat ^ (2 ^ n)) ^ x.2.toNat:=by rw [← Nat.pow_mul,Nat.mul_comm,Nat.pow_mul]
  rw [e1,e2]
  obtain ⟨y,hy,hy2,hy0⟩:=h2
  rcases List.mem_cons.1 hy with rfl | hy
  ·exact mul_lt_left (Nat.pow_lt_pow_left (hx.odd hy2) (by omega)) ih0 hp0
  ·have ih:=pow_lt_up n f l hl ⟨y,hy,hy2,hy0⟩
   exact mul_lt_right (Nat.pow_le_pow_left hx.le _) ih (Nat.pow_pos (Nat.lt_of_lt_of_le (Nat.two_pow_pos _) hx.le))
theorem up_lt_pow (n:Nat) (f:Int→Nat):∀ l:List (Int×Int),(∀ x∈l,LogAt n x.1 (f x.1))→(∃ x∈l,x.1≠2∧0 < x.2)→upT l ^ (2 ^ n) < 2 ^ hiS f l
 | [],_,h=>by obtain ⟨_,h,_⟩:=h; cases h
 | x :: l,h,h2=>by
  have hl:∀ y∈l,LogAt n y.1 (f y.1):=fun y hy=>h y (List.mem_cons_of_mem _ hy)
  have ih0:=up_le_pow n f l hl
  have hx:=h x List.mem_cons_self
  have hh:x.1.toNat ^ (2 ^ n)≤2 ^ hiL f x.1:=by
   unfold hiL
   split
   ·rename_i e; rw [hx.two e,e]; exact Nat.le_refl _
   ·exact Nat.le_of_lt hx.lt
  rw [hiS,upT,Nat.pow_add,Nat.mul_pow]
  have e1:2 ^ (x.2.toNat * hiL f x.1)=(2 ^ hiL f x.1) ^ x.2.toNat:=by rw [Nat.mul_comm,Nat.pow_mul]
  have e2:(x.1.toNat ^ x.2.toNat) ^ (2 ^ n)=(x.1.toNat ^ (2 ^ n)) ^ x.2.toNat:=by rw [← Nat.pow_mul,Nat.mul_comm,Nat.pow_mul]
  rw [e1,e2]
  obtain ⟨y,hy,hy2,hy0⟩:=h2
  rcases List.mem_cons.1 hy with rfl | hy
  ·refine mul_lt_left (Nat.pow_lt_pow_left ?_ (by omega)) ih0 (Nat.two_pow_pos _)
   unfold hiL
   rw [if_neg hy2]
   exact hx.lt
  ·have ih:=up_lt_pow n f l hl ⟨y,hy,hy2,hy0⟩
   exact mul_lt_right (Nat.pow_le_pow_left hh _) ih (Nat.pow_pos (Nat.two_pow_pos _))
theorem negT_log {n:Nat} {f:Int→Nat} {l:List (Int×Int)} (h:∀ x∈l,LogAt n x.1 (f x.1)):∀ x∈negT l,LogAt n x.1 (f x.1):=by
 intro x hx
 obtain ⟨y,hy,rfl⟩:=List.mem_map.1 hx
 exact h y hy
theorem low_sign (n:Nat) (f:Int→Nat) (l:List (Int×Int)) (h:∀ x∈l,LogAt n x.1 (f x.1)) (h0:∀ x∈l,x.2≠0) (hne:l≠[]) (hd:(l.map Prod.fst).Nodup) (hlow:hiS f (negT l)≤loS f l) :
  upT (negT l) < upT l:=by
 have hn:∀ x∈negT l,LogAt n x.1 (f x.1):=negT_log h
 have c1:=up_le_pow n f (negT l) hn
 have c2:=pow_le_up n f l h
 have c3:2 ^ hiS f (negT l)≤2 ^ loS f l:=Nat.pow_le_pow_right (by decide) hlow
 have key:upT (negT l) ^ (2 ^ n) < upT l ^ (2 ^ n)→upT (negT l) < upT l:=fun hk=>(Nat.pow_lt_pow_iff_left (Nat.ne_of_gt (Nat.two_pow_pos n))).1 hk
 by_cases hodd:∃ x∈l,x.1≠2
 ·obtain ⟨x,hx,hx2⟩:=hodd
  have hx0:=h0 x hx
  by_cases hp:0 < x.2
  ·have:=pow_lt_up n f l h ⟨x,hx,hx2,hp⟩
   exact key (by omega)
  ·have:=up_lt_pow n f (negT l) hn ⟨(x.1,-x.2),List.mem_map.2 ⟨x,hx,rfl⟩,hx2,by show 0 < -x.2; omega⟩
   exact key (by omega)
 ·have h2:∀ x∈l,x.1=2:=fun x hx=>Classical.byContradiction fun hh=>hodd ⟨x,hx,hh⟩
  match l,hne,hd,h2,h0,hlow with
  | [x],_,_,h2,h0,hlow =>
   have e:=h2 x List.mem_cons_self
   have hx0:=h0 x List.mem_cons_self
   have hf:=(h x List.mem_cons_self).two e
   have hpos:=Nat.two_pow_pos n
   simp only [negT,List.map_cons,List.map_nil,hiS,loS,hiL,if_pos e,upT,Nat.add_zero,Nat.mul_one] at hlow ⊢
   rw [hf] at hlow
   have h3:(-x.2).toNat≤x.2.toNat:=Nat.le_of_mul_le_mul_right hlow hpos
   have h4:0 < x.2:=by omega
   have h5:(-x.2).toNat=0:=by omega
   rw [h5,e]
   exact Nat.one_lt_two_pow (by omega)
  | x :: y :: r,_,hd,h2,_,_ =>
   exfalso
   have e1:=h2 x List.mem_cons_self
   have e2:=h2 y (List.mem_cons_of_mem _ List.mem_cons_self)
   simp only [List.map_cons,List.nodup_cons,List.mem_cons] at hd
   exact hd.1 (.inl (by rw [e1,e2]))
theorem sign_low (n:Nat) (f:Int→Nat) (l:List (Int×Int)) (h:∀ x∈l,LogAt n x.1 (f x.1)) (h0:∀ x∈l,x.2≠0) (hne:l≠[]) (hd:(l.map Prod.fst).Nodup) (hlow:hiS f (negT l)≤loS f l):signT l=1:=by
 unfold signT
 rw [if_pos (low_sign n f l h h0 hne hd hlow)]
theorem signT_neg (l:List (Int×Int)):signT (negT l) = - signT l:=by
 unfold signT
 rw [negT_negT]
 by_cases h:upT (negT l) < upT l
 ·rw [if_pos h,if_neg (by omega),if_pos h]
 ·rw [if_neg h]
  by_cases h2:upT l < upT (negT l)
  ·rw [if_pos h2,if_neg h,if_pos h2]; rfl
  ·rw [if_neg h2,if_neg h,if_neg h2]; rfl
theorem sign_high (n:Nat) (f:Int→Nat) (l:List (Int×Int)) (h:∀ x∈l,LogAt n x.1 (f x.1)) (h0:∀ x∈l,x.2≠0) (hne:l≠[]) (hd:(l.map Prod.fst).Nodup) (hhigh:hiS f l≤loS f (negT l)):signT l = -1:=by
 have:=sign_low n f (negT l) (negT_log h) (by
  intro x hx
  obtain ⟨y,hy,rfl⟩:=List.mem_map.1 hx
  have:=h0 y hy
  show -y.2≠0
  omega) (by simpa [negT] using hne) (by
  have e:(negT l).map Prod.fst=l.map Prod.fst:=by simp [negT]
  rw [e]; exact hd) (by rw [negT_negT]; exact hhigh)
 rw [signT_neg] at this
 omega
end Go.Proofs.YtnjedhgcfeoemaaGreatDoor.LN

namespace Go.Proofs.YtnjedhgcfeoemaaGreatDoor
theorem pow_odd (p:Nat) (h:p % 2=1) (m:Nat):p ^ m % 2=1:=by
 induction m with
 | zero=>rfl
 | succ m ih=>rw [Nat.pow_succ,Nat.mul_mod,ih,h]
theorem lgN_at {p n:Nat} (hp:p=2∨p∈oddP) (hn:n≤1056):LN.LogAt n (p:Int) (lgN p n):=by
 rcases hp with rfl | hp
 ·rw [show ((2:Nat):Int)=2 from rfl,lgN_two]
  exact ⟨Nat.le_refl _,Nat.pow_lt_pow_right (by decide) (by omega),fun _=>rfl,fun h=>absurd rfl h⟩
 ·have ho:=oddP_odd hp
  obtain ⟨h1,h2⟩:=lgN_is hp hn
  refine ⟨by rw [Int.toNat_natCast]; exact h1,by rw [Int.toNat_natCast]; exact h2,fun h=>by omega,fun _=>?_⟩
  rw [Int.toNat_natCast]
  refine Nat.lt_of_le_of_ne h1 fun e=>?_
  have h3:=pow_odd p ho.1 (2 ^ n)
  rw [← e] at h3
  by_cases h0:lgN p n=0
  ·rw [h0] at h2
   have:p ^ 1≤p ^ (2 ^ n):=Nat.pow_le_pow_right (by omega) (Nat.two_pow_pos n)
   rw [Nat.pow_one] at this
   omega
  ·obtain ⟨k,hk⟩:=Nat.exists_eq_succ_of_ne_zero h0
   rw [hk,Nat.pow_succ] at h3
   omega
end Go.Proofs.YtnjedhgcfeoemaaGreatDoor

namespace Go.Proofs.YtnjedhgcfeoemaaGreatDoor
open Go.RowKit
theorem compD (_w:World) (a b K:Nat) (hK:K < 90000) (ha:a < 2 ^ K) (hb:b < 2 ^ K):∃ c:Int,(c = -1∨c=0∨c=1)∧(0≤c↔b≤a)∧∀ W,Gives Tryz.prog 114 #[.string (dec a),.string (dec b)] W (.int .i64 c):=by
 have hn:=num_two ha (by omega)
 have hm:=num_two hb (by omega)
 refine ⟨cmpZ a b,?_,?_,fun W=>?_⟩
 ·unfold cmpZ; split
  ·exact .inl rfl
  ·split
   ·exact .inr (.inl rfl)
   ·exact .inr (.inr rfl)
 ·unfold cmpZ; split
  ·constructor <;> omega
  ·split
   ·constructor <;> omega
   ·constructor <;> omega
 ·have:=comparez_any W (a:Int) (b:Int) hn hm
  rw [itx_nat,itx_nat] at this
  exact this
def digitsV (p n more:Nat):Value:=match digs p more n with
 | some s => .tuple #[.string (dec s.2.2),.bool true]
 | none => .tuple #[.string ⟨#[]⟩,.bool false]
end Go.Proofs.YtnjedhgcfeoemaaGreatDoor

namespace Go.Proofs.YtnjedhgcfeoemaaGreatDoor
open Go.RowKit
theorem sdigits_any (w:World) (p n more:Nat) (hp:2≤p) (hp2:p≤97) (hn:n≤4000) (hm:64≤more) (hm2:more≤4000) (L:Laid w) :
  Gives Tryz.prog 242 #[.int .i64 p,.int .i64 n,.int .i64 more] w (digitsV p n more):=by
 unfold Gives
 have hl:=log2_le p hp hp2
 have hln:=hd_ (Tryz.bits_Len p w (by omega) (by omega))
 rw [show ((p:Nat):Int).toNat=p from rfl,bitLen_log p (by omega) hp2] at hln
 have hw1:IntKind.i64.wrap (((p.log2 + 1:Nat):Int) - 1)=(p.log2:Int):=by rw [show ((p.log2 + 1:Nat):Int) - 1=(p.log2:Int) by omega]; exact iw_ _ (by omega)
 have hw2:IntKind.u64.wrap (p:Int)=p:=IntWalk.u64_in _ (by omega)
 have hw3:IntKind.i64.wrap ((more:Int) - (p.log2:Int))=((more - p.log2:Nat):Int):=by rw [show (more:Int) - (p.log2:Int)=((more - p.log2:Nat):Int) by omega]; exact iw_ _ (by omega)
 have HL:=hd_ L
 clear L
 obtain ⟨K,hK⟩:∃ K:Nat,K=4050:=⟨_,rfl⟩
 have HK:=hd_ hK
 have Hm2:=hd_ hm2
 have Hn:=hd_ hn
 have Hdb:Hid (∀ j lo hi o,digs p more j=some (lo,hi,o)→lo < 2 * 2 ^ more∧hi < 2 * 2 ^ more∧o < 2 ^ (j + 3)):=fun j lo hi o h=>by
  have:=digs_b p more hp hp2 hm j _ h
  exact ⟨this.lo,this.hi,this.out⟩
 have Hnext:Hid (∀ j s,digs p more j=some s→digs p more (j + 1)=digStep (2 ^ more) s):=fun j s h=>by
  simp only [digs,h,Option.bind_some]
 have Hu0:Hid (0 < 2 ^ more):=Nat.two_pow_pos more
 have Hu:Hid (2 ^ more < 2 ^ K):=Nat.pow_lt_pow_right (by decide) (by omega)
 have Huu:Hid (2 ^ more + 2 ^ more=2 * 2 ^ more):=(Nat.two_mul _).symm
 have Hu2:Hid (2 * 2 ^ more < 2 ^ K):=by
  show _ < _
  rw [Nat.mul_comm,← Nat.pow_succ]
  exact Nat.pow_lt_pow_right (by decide) (by omega)
 have Hp2:Hid (∀ W,Below w.heap.size w W→Gives Tryz.prog 18 #[.string ⟨#[50]⟩,.int .i64 more] W (.tuple #[.string (dec (2 ^ more)),.int .i64 0])):=fun W hW=>wpow2 W more hm2 (HL.out.below hW)
 have Hp3:Hid (∀ W,Below w.heap.size w W→Gives Tryz.prog 18 #[.string ⟨#[50]⟩,.int .i64 (more - p.log2:Nat)] W (.tuple #[.string (dec (2 ^ (more - p.log2))),.int .i64 0])):=fun W hW=>wpow2 W (more - p.log2) (by omega) (HL.out.below hW)
 have H0:Hid (digs p more 0=some (p * 2 ^ (more - p.log2),p * 2 ^ (more - p.log2),p.log2)):=rfl
 have Hof1:Hid (∀ W,Below w.heap.size w W→Gives Tryz.prog 73 #[.int .i64 p] W (.string (dec p))):=fun W hW=>by
  have:=ofz_any W p (by omega) (by omega) (HL.out.below hW)
  rw [itx_nat] at this; exact this
 have Hof2:Hid (∀ W,Below w.heap.size w W→Gives Tryz.prog 73 #[.int .i64 p.log2] W (.string (dec p.log2))):=fun W hW=>by
  have:=ofz_any W p.log2 (by omega) (by omega) (HL.out.below hW)
  rw [itx_nat] at this; exact this
 have Had1:Hid (∀ W,Below w.heap.size w W→Gives Tryz.prog 20 #[.string (dec (2 ^ more)),.string (dec (2 ^ more))] W (.string (dec (2 * 2 ^ more)))):=fun W hW=>by
  have:=addD W (2 ^ more) (2 ^ more) K (by have:=HK.out; omega) Hu.out Hu.out (HL.out.below hW)
  rw [Huu.out] at this; exact this
 have Hmu1:Hid (∀ W,Below w.heap.size w W→Gives Tryz.prog 115 #[.string (dec p),.string (dec (2 ^ (more - p.log2)))] W (.string (dec (p * 2 ^ (more - p.log2))))):=fun W hW =>
  mulD W p (2 ^ (more - p.log2)) (K + K) (by have:=HK.out; omega) (Nat.lt_of_lt_of_le (show p < 2 ^ 7 by omega) (Nat.pow_le_pow_right (by decide) (by have:=HK.out; omega))) (Nat.pow_lt_pow_right (by decide) (by omega)) (HL.out.below hW)
 have B0:=hd_ (Below.refl w.heap.size w)
 have hnn:(n:Int)≤4000:=by omega
 rw [show ((more - p.log2:Nat):Int)=(more:Int) - (p.log2:Int) by omega] at Hp3
 clear hp hp2 hK hw3
 have Hd1:=hd_ dec_one
 have Hd2:=hd_ dec_two
 generalize hlp:p.log2=lp at *
 clear hlp
 generalize 2 ^ more=unit at *
 generalize hvv:digitsV p n more=vv at *
 have Hvv:=hd_ hvv
 clear hvv
 go_enter Tryz.func242,Tryz.ntmps242
 go_wp2_with fail
 refine cm_ hln.out ?_
 rintro e w1 ⟨rfl,rfl⟩
 clear hln
 go_wp2_with fail
 refine cm_ (Hp2.out _ B0.out) ?_
 rintro e w2 ⟨rfl,hb⟩
 have B2:=hd_ (B0.out.trans (hb.mono B0.out.size))
 clear hb B0
 go_wp2_with fail
 refine cm_ (Had1.out _ B2.out) ?_
 rintro e w3 ⟨rfl,hb⟩
 have B3:=hd_ (B2.out.trans (hb.mono B2.out.size))
 clear hb B2
 go_wp2_with fail
 refine cm_ (Hp3.out _ B3.out) ?_
 rintro e w4 ⟨rfl,hb⟩
 have B4:=hd_ (B3.out.trans (hb.mono B3.out.size))
 clear hb B3
 go_wp2_with fail
 refine cm_ (Hof1.out _ B4.out) ?_
 rintro e w5 ⟨rfl,hb⟩
 have B5:=hd_ (B4.out.trans (hb.mono B4.out.size))
 clear hb B4
 go_wp2_with fail
 refine cm_ (Hmu1.out _ B5.out) ?_
 rintro e w6 ⟨rfl,hb⟩
 have B6:=hd_ (B5.out.trans (hb.mono B5.out.size))
 clear hb B5
 go_wp2_with fail
 refine cm_ (Hof2.out _ B6.out) ?_
 rintro e w7 ⟨rfl,hb⟩
 have B7:=hd_ (B6.out.trans (hb.mono B6.out.size))
 clear hb B6
 go_wp2_with fail
 clear Hp2 Had1 Hp3 Hof1 Hmu1 Hof2
 generalize p * 2 ^ (more - lp)=st at *
 go_loopw [14,15,16,50] (fun a b c i wr=>∃ (j lo hi o:Nat),j≤n∧Hid (digs p more j=some (lo,hi,o))∧a = .string (dec lo)∧b = .string (dec hi)∧c = .string (dec o)∧i = .int .i64 j∧Hid (Below w1.heap.size w1 wr)) (fun _ _ _ i _=>n - (intOf i).toNat)
 case atStart=>exact ⟨0,_,_,_,by omega,H0,rfl,rfl,rfl,rfl,B7⟩
 case round =>
  clear B7 H0
  obtain ⟨j,lo,hi,o,hj,Hd,rfl,rfl,rfl,rfl,B1⟩:=hrel
  by_cases hlt:j < n
  ·have hlt':(j:Int) < n:=by omega
   obtain ⟨f1,f2,f3⟩:=Hdb.out j _ _ _ Hd.out
   have g1:lo < 2 ^ K:=Nat.lt_trans f1 Hu2.out
   have g2:hi < 2 ^ K:=Nat.lt_trans f2 Hu2.out
   have g3:o < 2 ^ K:=Nat.lt_of_lt_of_le f3 (Nat.pow_le_pow_right (by decide) (by have:=Hn.out; have:=HK.out; omega))
   clear f1 f2 f3
   have k1:lo * lo < 2 ^ (K + K):=by rw [Nat.pow_add]; exact Nat.mul_lt_mul'' g1 g1
   have k2:hi * hi < 2 ^ (K + K):=by rw [Nat.pow_add]; exact Nat.mul_lt_mul'' g2 g2
   have k3:unit < 2 ^ (K + K):=Nat.lt_trans Hu.out (Nat.pow_lt_pow_right (by decide) (by have:=HK.out; omega))
   have k4:2 * unit < 2 ^ (K + K + 1):=Nat.lt_trans Hu2.out (Nat.pow_lt_pow_right (by decide) (by have:=HK.out; omega))
   have k5:lo * lo / unit < 2 ^ (K + K):=Nat.lt_of_le_of_lt (Nat.div_le_self _ _) k1
   have k6:hi * hi / unit < 2 ^ (K + K):=Nat.lt_of_le_of_lt (Nat.div_le_self _ _) k2
   have one:1 < 2 ^ (K + K):=Nat.one_lt_two_pow (by have:=HK.out; omega)
   have k7:hi * hi / unit + 1 < 2 ^ (K + K + 1):=by rw [Nat.pow_succ 2 (K + K)]; omega
   have k8:lo * lo / unit < 2 ^ (K + K + 1):=Nat.lt_trans k5 (Nat.pow_lt_pow_right (by decide) (by have:=HK.out; omega))
   have k9:(hi * hi / unit + 1) / 2 < 2 ^ (K + K + 1):=Nat.lt_of_le_of_lt (Nat.div_le_self _ _) k7
   have one1:1 < 2 ^ (K + K + 1):=Nat.one_lt_two_pow (by have:=HK.out; omega)
   have two1:2 < 2 ^ (K + K + 1):=by
    have:2 ^ 2≤2 ^ (K + K + 1):=Nat.pow_le_pow_right (by decide) (by have:=HK.out; omega)
    omega
   have g3':o < 2 ^ (K + K):=Nat.lt_trans g3 (Nat.pow_lt_pow_right (by decide) (by have:=HK.out; omega))
   have k10:o + o < 2 ^ (K + K + 1):=by rw [Nat.pow_succ 2 (K + K)]; omega
   have BL:=fun W (hW:Below wr.heap.size wr W)=>HL.out.below (B1.out.trans (hW.mono B1.out.size))
   have M1:Hid (∀ W,Below wr.heap.size wr W→Gives Tryz.prog 115 #[.string (dec lo),.string (dec lo)] W (.string (dec (lo * lo)))):=fun W hW=>mulD W lo lo K (by have:=HK.out; omega) g1 g1 (BL W hW)
   have M2:Hid (∀ W,Below wr.heap.size wr W→Gives Tryz.prog 115 #[.string (dec hi),.string (dec hi)] W (.string (dec (hi * hi)))):=fun W hW=>mulD W hi hi K (by have:=HK.out; omega) g2 g2 (BL W hW)
   have D1:Hid (∀ W,Below wr.heap.size wr W→Gives Tryz.prog 163 #[.string (dec (lo * lo)),.string (dec unit)] W (.tuple #[.string (dec (lo * lo / unit)),.string (dec (lo * lo % unit)),.int .i64 0])):=fun W hW=>divD W _ unit (K + K) (by have:=HK.out; omega) k1 k3 Hu0.out (BL W hW)
   have D2:Hid (∀ W,Below wr.heap.size wr W→Gives Tryz.prog 163 #[.string (dec (hi * hi)),.string (dec unit)] W (.tuple #[.string (dec (hi * hi / unit)),.string (dec (hi * hi % unit)),.int .i64 0])):=fun W hW=>divD W _ unit (K + K) (by have:=HK.out; omega) k2 k3 Hu0.out (BL W hW)
   have A1:Hid (∀ W,Below wr.heap.size wr W→Gives Tryz.prog 20 #[.string (dec (hi * hi / unit)),.string ⟨#[49]⟩] W (.string (dec (hi * hi / unit + 1)))):=fun W hW=>by
    have:=addD W _ 1 (K + K) (by have:=HK.out; omega) k6 one (BL W hW)
    rw [Hd1.out] at this; exact this
   have A2:Hid (∀ W,Below wr.heap.size wr W→Gives Tryz.prog 20 #[.string (dec o),.string (dec o)] W (.string (dec (o + o)))):=fun W hW=>addD W o o K (by have:=HK.out; omega) g3 g3 (BL W hW)
   have A3:Hid (∀ W,Below wr.heap.size wr W→Gives Tryz.prog 20 #[.string (dec (o + o)),.string ⟨#[49]⟩] W (.string (dec (o + o + 1)))):=fun W hW=>by
    have:=addD W _ 1 (K + K + 1) (by have:=HK.out; omega) k10 one1 (BL W hW)
    rw [Hd1.out] at this; exact this
   have D3:Hid (∀ W,Below wr.heap.size wr W→Gives Tryz.prog 163 #[.string (dec (lo * lo / unit)),.string ⟨#[50]⟩] W (.tuple #[.string (dec (lo * lo / unit / 2)),.string (dec (lo * lo / unit % 2)),.int .i64 0])):=fun W hW=>by
    have:=divD W _ 2 (K + K + 1) (by have:=HK.out; omega) k8 two1 (by decide) (BL W hW)
    rw [Hd2.out] at this; exact this
   have D4:Hid (∀ W,Below wr.heap.size wr W→Gives Tryz.prog 163 #[.string (dec (hi * hi / unit + 1)),.string ⟨#[50]⟩] W (.tuple #[.string (dec ((hi * hi / unit + 1) / 2)),.string (dec ((hi * hi / unit + 1) % 2)),.int .i64 0])):=fun W hW=>by
    have:=divD W _ 2 (K + K + 1) (by have:=HK.out; omega) k7 two1 (by decide) (BL W hW)
    rw [Hd2.out] at this; exact this
   have A4:Hid (∀ W,Below wr.heap.size wr W→Gives Tryz.prog 20 #[.string (dec ((hi * hi / unit + 1) / 2)),.string ⟨#[49]⟩] W (.string (dec ((hi * hi / unit + 1) / 2 + 1)))):=fun W hW=>by
    have:=addD W _ 1 (K + K + 1) (by have:=HK.out; omega) k9 one1 (BL W hW)
    rw [Hd1.out] at this; exact this
   obtain ⟨c1,hc1,hc1',C1⟩:=compD wr (lo * lo / unit) (2 * unit) (K + K + 1) (by have:=HK.out; omega) k8 k4
   obtain ⟨c2,hc2,hc2',C2⟩:=compD wr (hi * hi / unit + 1) (2 * unit) (K + K + 1) (by have:=HK.out; omega) k7 k4
   have HC1:=hd_ C1
   have HC2:=hd_ C2
   have Hc1:=hd_ hc1'
   have Hc2:=hd_ hc2'
   have Hst:=hd_ (Hnext.out j _ Hd.out)
   simp only [digStep] at Hst
   have Hoo:Hid (2 * o=o + o):=Nat.two_mul o
   rw [Hoo.out] at Hst
   clear C1 C2 hc1' hc2' BL k1 k2 k3 k4 k5 k6 k7 k8 k9 k10 one one1 two1 g1 g2 g3 g3' Hoo
   generalize lo * lo / unit=X1 at *
   generalize hi * hi / unit=X2 at *
   generalize lo * lo % unit=r1 at *
   generalize hi * hi % unit=r2 at *
   generalize lo * lo=q1 at *
   generalize hi * hi=q2 at *
   generalize X1 % 2=r3 at *
   generalize (X2 + 1) % 2=r4 at *
   obtain ⟨Y1,hY1⟩:∃ y,X1 / 2=y:=⟨_,rfl⟩
   obtain ⟨Y2,hY2⟩:∃ y,(X2 + 1) / 2 + 1=y:=⟨_,rfl⟩
   obtain ⟨Y3,hY3⟩:∃ y,X2 + 1=y:=⟨_,rfl⟩
   rw [hY1] at D3 Hst
   rw [hY2] at A4 Hst
   rw [hY3] at D4 A1 HC2 Hst Hc2 A4
   clear hY1 hY2 hY3
   generalize Y3 / 2=Y4 at *
   generalize dec lo=slo at *
   generalize dec hi=shi at *
   generalize dec o=so at *
   generalize o + o=oo at *
   have P0:=hd_ (Below.refl wr.heap.size wr)
   clear Hnext Hdb
   by_cases h1:0≤c1
   ·have Hst1:Hid (digs p more (j + 1)=some (Y1,Y2,oo + 1)):=by
     show _=_
     rw [Hst.out,if_pos (Hc1.out.1 h1)]
    clear Hst Hc1 Hc2 HC2
    go_wp2_with fail
    refine cm_ (M1.out _ P0.out) ?_
    rintro e w1 ⟨rfl,hb⟩
    have P1:=hd_ (P0.out.trans (hb.mono P0.out.size))
    clear hb P0 M1
    go_wp2_with fail
    refine cm_ (D1.out _ P1.out) ?_
    rintro e w2 ⟨rfl,hb⟩
    have P2:=hd_ (P1.out.trans (hb.mono P1.out.size))
    clear hb P1 D1
    go_wp2_with fail
    refine cm_ (M2.out _ P2.out) ?_
    rintro e w3 ⟨rfl,hb⟩
    have P3:=hd_ (P2.out.trans (hb.mono P2.out.size))
    clear hb P2 M2
    go_wp2_with fail
    refine cm_ (D2.out _ P3.out) ?_
    rintro e w4 ⟨rfl,hb⟩
    have P4:=hd_ (P3.out.trans (hb.mono P3.out.size))
    clear hb P3 D2
    go_wp2_with fail
    refine cm_ (A1.out _ P4.out) ?_
    rintro e w5 ⟨rfl,hb⟩
    have P5:=hd_ (P4.out.trans (hb.mono P4.out.size))
    clear hb P4 A1
    go_wp2_with fail
    refine cm_ (A2.out _ P5.out) ?_
    rintro e w6 ⟨rfl,hb⟩
    have P6:=hd_ (P5.out.trans (hb.mono P5.out.size))
    clear hb P5 A2
    go_wp2_with fail
    refine cm_ (HC1.out _) ?_
    rintro e w7 ⟨rfl,hb⟩
    have P7:=hd_ (P6.out.trans (hb.mono P6.out.size))
    clear hb P6 HC1
    go_wp2_with fail
    refine cm_ (A3.out _ P7.out) ?_
    rintro e w8 ⟨rfl,hb⟩
    have P8:=hd_ (P7.out.trans (hb.mono P7.out.size))
    clear hb P7 A3
    go_wp2_with fail
    refine cm_ (D3.out _ P8.out) ?_
    rintro e w9 ⟨rfl,hb⟩
    have P9:=hd_ (P8.out.trans (hb.mono P8.out.size))
    clear hb P8 D3
    go_wp2_with fail
    refine cm_ (D4.out _ P9.out) ?_
    rintro e w10 ⟨rfl,hb⟩
    have P10:=hd_ (P9.out.trans (hb.mono P9.out.size))
    clear hb P9 D4
    go_wp2_with fail
    refine cm_ (A4.out _ P10.out) ?_
    rintro e w11 ⟨rfl,hb⟩
    have P11:=hd_ (P10.out.trans (hb.mono P10.out.size))
    clear hb P10 A4
    go_wp2_with fail
    have B9:=hd_ (B1.out.trans (P11.out.mono B1.out.size))
    go_roundw
    case rel=>exact ⟨j + 1,Y1,Y2,oo + 1,by omega,Hst1,rfl,rfl,rfl,by go_num,B9⟩
    case measure=>simp [intOf]; omega
   ·have h1':c1 < 0:=by omega
    by_cases h2:0≤c2
    ·have Hst1:Hid (digs p more (j + 1)=none):=by
      show _=_
      rw [Hst.out,if_neg (fun h=>h1 (Hc1.out.2 h)),if_pos (Hc2.out.1 h2)]
     have Hv1:Hid (vv = .tuple #[.string ⟨#[]⟩,.bool false]):=by
      show _=_
      rw [← Hvv.out]
      unfold digitsV
      rw [digs_none Hst1.out (by omega)]
     clear Hst Hc1 Hc2 A3 D3 D4 A4
     go_wp2_with fail
     refine cm_ (M1.out _ P0.out) ?_
     rintro e w1 ⟨rfl,hb⟩
     have P1:=hd_ (P0.out.trans (hb.mono P0.out.size))
     clear hb P0 M1
     go_wp2_with fail
     refine cm_ (D1.out _ P1.out) ?_
     rintro e w2 ⟨rfl,hb⟩
     have P2:=hd_ (P1.out.trans (hb.mono P1.out.size))
     clear hb P1 D1
     go_wp2_with fail
     refine cm_ (M2.out _ P2.out) ?_
     rintro e w3 ⟨rfl,hb⟩
     have P3:=hd_ (P2.out.trans (hb.mono P2.out.size))
     clear hb P2 M2
     go_wp2_with fail
     refine cm_ (D2.out _ P3.out) ?_
     rintro e w4 ⟨rfl,hb⟩
     have P4:=hd_ (P3.out.trans (hb.mono P3.out.size))
     clear hb P3 D2
     go_wp2_with fail
     refine cm_ (A1.out _ P4.out) ?_
     rintro e w5 ⟨rfl,hb⟩
     have P5:=hd_ (P4.out.trans (hb.mono P4.out.size))
     clear hb P4 A1
     go_wp2_with fail
     refine cm_ (A2.out _ P5.out) ?_
     rintro e w6 ⟨rfl,hb⟩
     have P6:=hd_ (P5.out.trans (hb.mono P5.out.size))
     clear hb P5 A2
     go_wp2_with fail
     refine cm_ (HC1.out _) ?_
     rintro e w7 ⟨rfl,hb⟩
     have P7:=hd_ (P6.out.trans (hb.mono P6.out.size))
     clear hb P6 HC1
     go_wp2_with fail
     refine cm_ (HC2.out _) ?_
     rintro e w8 ⟨rfl,hb⟩
     have P8:=hd_ (P7.out.trans (hb.mono P7.out.size))
     clear hb P7 HC2
     go_wp2_with fail
     have B9:=hd_ (B1.out.trans (P8.out.mono B1.out.size))
     go_ret2
     exact ⟨by rw [Hv1.out]; rfl,B9.out⟩
    ·have h2':c2 < 0:=by omega
     have Hst1:Hid (digs p more (j + 1)=some (X1,Y3,oo)):=by
      show _=_
      rw [Hst.out,if_neg (fun h=>h1 (Hc1.out.2 h)),if_neg (fun h=>h2 (Hc2.out.2 h))]
     clear Hst Hc1 Hc2 A3 D3 D4 A4
     go_wp2_with fail
     refine cm_ (M1.out _ P0.out) ?_
     rintro e w1 ⟨rfl,hb⟩
     have P1:=hd_ (P0.out.trans (hb.mono P0.out.size))
     clear hb P0 M1
     go_wp2_with fail
     refine cm_ (D1.out _ P1.out) ?_
     rintro e w2 ⟨rfl,hb⟩
     have P2:=hd_ (P1.out.trans (hb.mono P1.out.size))
     clear hb P1 D1
     go_wp2_with fail
     refine cm_ (M2.out _ P2.out) ?_
     rintro e w3 ⟨rfl,hb⟩
     have P3:=hd_ (P2.out.trans (hb.mono P2.out.size))
     clear hb P2 M2
     go_wp2_with fail
     refine cm_ (D2.out _ P3.out) ?_
     rintro e w4 ⟨rfl,hb⟩
     have P4:=hd_ (P3.out.trans (hb.mono P3.out.size))
     clear hb P3 D2
     go_wp2_with fail
     refine cm_ (A1.out _ P4.out) ?_
     rintro e w5 ⟨rfl,hb⟩
     have P5:=hd_ (P4.out.trans (hb.mono P4.out.size))
     clear hb P4 A1
     go_wp2_with fail
     refine cm_ (A2.out _ P5.out) ?_
     rintro e w6 ⟨rfl,hb⟩
     have P6:=hd_ (P5.out.trans (hb.mono P5.out.size))
     clear hb P5 A2
     go_wp2_with fail
     refine cm_ (HC1.out _) ?_
     rintro e w7 ⟨rfl,hb⟩
     have P7:=hd_ (P6.out.trans (hb.mono P6.out.size))
     clear hb P6 HC1
     go_wp2_with fail
     refine cm_ (HC2.out _) ?_
     rintro e w8 ⟨rfl,hb⟩
     have P8:=hd_ (P7.out.trans (hb.mono P7.out.size))
     clear hb P7 HC2
     go_wp2_with fail
     have B9:=hd_ (B1.out.trans (P8.out.mono B1.out.size))
     go_roundw
     case rel=>exact ⟨j + 1,X1,Y3,oo,by omega,Hst1,rfl,rfl,rfl,by go_num,B9⟩
     case measure=>simp [intOf]; omega
  ·have hlt':¬ (j:Int) < n:=by omega
   have hjn:j=n:=by omega
   subst hjn
   have Hv1:Hid (vv = .tuple #[.string (dec o),.bool true]):=by
    show _=_
    rw [← Hvv.out]
    unfold digitsV
    rw [Hd.out]
   clear Hnext Hdb
   go_wp2_with fail
   go_ret2
   exact ⟨by rw [Hv1.out]; rfl,B1.out⟩
end Go.Proofs.YtnjedhgcfeoemaaGreatDoor

namespace Go.Proofs.YtnjedhgcfeoemaaGreatDoor
open Go.RowKit
theorem digs_ok_all {p n:Nat} (ho:p∈oddP) (hn:n≤1056):∀ more,1120≤more→(digs p more n).isSome=true:=by
 intro more hm
 exact digs_ok (p:=p) (n:=n) (more:=more) ho hn hm
theorem dec_lgN {p n:Nat} (ho:p∈oddP) (hn:n≤1056):∀ more s,64≤more→digs p more n=some s→dec (lgN p n)=dec s.2.2:=by
 intro more s hm h
 have h1:6≤more:=Nat.le_trans (by decide) hm
 have:=digs_lgN (p:=p) (n:=n) (more:=more) ho hn h1 h
 rw [this]
theorem log_any (w:World) (p n:Nat) (hp:p=2∨p∈oddP) (hn:n≤1056) (L:Laid w):Gives Tryz.prog 212 #[.int .i64 p,.int .i64 n] w (.string (dec (lgN p n))):=by
 unfold Gives
 by_cases h2:p=2
 ·subst h2
  have Hp:=hd_ (wpow2 w n (by omega) L)
  rw [show ((2:Nat):Int)=2 from rfl,lgN_two]
  clear L hp
  generalize dec (2 ^ n)=s at *
  go_enter Tryz.func212,Tryz.ntmps212
  go_wp2_with fail
  refine cm_ Hp.out ?_
  rintro e w1 ⟨rfl,hb⟩
  have B1:=hd_ hb
  clear hb Hp
  go_wp2_with fail
  go_ret
  exact ⟨rfl,B1.out⟩
 ·have ho:=hp.resolve_left h2
  have hodd:=oddP_odd ho
  have h2':((p:Int) == 2)=false:=by rw [beq_eq_false_iff_ne]; omega
  have HL:=hd_ L
  have Hdg:Hid (∀ (more:Nat) W,64≤more→more≤4000→Below w.heap.size w W→Gives Tryz.prog 242 #[.int .i64 p,.int .i64 n,.int .i64 more] W (digitsV p n more)):=fun more W h1 h2 hW =>
   sdigits_any W p n more (by omega) (by omega) (by omega) h1 h2 (HL.out.below hW)
  have Hok:Hid (∀ more:Nat,1120≤more→(digs p more n).isSome=true):=hd_ (digs_ok_all ho hn)
  have Hlg:Hid (∀ (more:Nat) s,64≤more→digs p more n=some s→dec (lgN p n)=dec s.2.2):=hd_ (dec_lgN ho hn)
  have hw1:IntKind.i64.wrap ((n:Int) + 64)=((n + 64:Nat):Int):=by rw [show (n:Int) + 64=((n + 64:Nat):Int) by omega]; exact iw_ _ (by omega)
  have B0:=hd_ (Below.refl w.heap.size w)
  clear L hp ho h2 hodd
  generalize dec (lgN p n)=vv at *
  go_enter Tryz.func212,Tryz.ntmps212
  go_wp2_with fail
  go_loopw [7] (fun a wr=>∃ (more:Nat),Hid (64≤more)∧more≤4000∧a = .int .i64 more∧Hid (Below w.heap.size w wr)) (fun a _=>4000 - (intOf a).toNat)
  case atStart=>exact ⟨n + 64,by show _≤_; omega,by omega,rfl,B0⟩
  case round =>
   clear B0
   obtain ⟨more,H64,h4000,rfl,B1⟩:=hrel
   have Hd:=hd_ (Hdg.out more wr H64.out h4000 B1.out)
   cases hd:digs p more n with
   | some s =>
    have Hs:Hid (digitsV p n more = .tuple #[.string (dec s.2.2),.bool true]):=by show _=_; unfold digitsV; rw [hd]
    have Hv:Hid (vv=dec s.2.2):=Hlg.out more s H64.out hd
    rw [Hs.out] at Hd
    clear hd Hs Hlg Hok Hdg
    go_wp2_with fail
    refine cm_ Hd.out ?_
    rintro e w1 ⟨rfl,hb⟩
    have B2:=hd_ (B1.out.trans (hb.mono B1.out.size))
    clear hb Hd
    go_wp2_with fail
    go_ret
    exact ⟨by rw [Hv.out]; rfl,B2.out⟩
   | none =>
    have Hs:Hid (digitsV p n more = .tuple #[.string ⟨#[]⟩,.bool false]):=by show _=_; unfold digitsV; rw [hd]
    rw [Hs.out] at Hd
    have hlt:more < 1120:=by
     refine Nat.lt_of_not_le fun h=>?_
     have:=Hok.out more h
     rw [hd] at this
     cases this
    have hw2:IntKind.i64.wrap ((more:Int) * 2)=((more * 2:Nat):Int):=by rw [show (more:Int) * 2=((more * 2:Nat):Int) by omega]; exact iw_ _ (by omega)
    clear hd Hs Hlg Hok Hdg
    go_wp2_with fail
    refine cm_ Hd.out ?_
    rintro e w1 ⟨rfl,hb⟩
    have B2:=hd_ (B1.out.trans (hb.mono B1.out.size))
    clear hb Hd
    go_wp2_with fail
    go_roundw
    case rel=>exact ⟨more * 2,by have:=H64.out; show _≤_; omega,by omega,rfl,B2⟩
    case measure=>have:=H64.out; simp [intOf]; omega
end Go.Proofs.YtnjedhgcfeoemaaGreatDoor

namespace Go.Proofs.YtnjedhgcfeoemaaGreatDoor.LN
theorem sg_one:sg 1=0:=by decide
theorem sg_pos {x:Rat}:sg x=1↔1 < x:=by
 unfold sg
 by_cases h:1 < x
 ·simp [h]
 ·rw [if_neg h]; split <;> simp [h]
theorem sg_low {x:Rat}:sg x = -1↔x < 1:=by
 unfold sg
 by_cases h:1 < x
 ·rw [if_pos h]
  constructor
  ·intro h2; cases h2
  ·intro h2; exact absurd h2 (by grind)
 ·rw [if_neg h]; split <;> simp_all
theorem sg_ge {x:Rat}:0≤sg x↔1≤x:=by
 constructor
 ·intro h
  refine Rat.not_lt.1 fun h2=>?_
  rw [sg_low.2 h2] at h; omega
 ·intro h
  unfold sg
  split
  ·decide
  ·split
   ·rename_i h2; exact absurd h (Rat.not_le.2 h2)
   ·decide
theorem sg_le {x:Rat}:sg x≤0↔x≤1:=by
 constructor
 ·intro h
  refine Rat.not_lt.1 fun h2=>?_
  rw [sg_pos.2 h2] at h; omega
 ·intro h
  unfold sg
  split
  ·rename_i h2; exact absurd h (Rat.not_le.2 h2)
  ·split <;> decide
theorem sg_zero {x:Rat}:sg x=0↔x=1:=by
 constructor
 ·intro h
  exact Rat.le_antisymm (sg_le.1 (by omega)) (sg_ge.1 (by omega))
 ·rintro rfl; exact sg_one
theorem sg_cases (x:Rat):sg x=1∨sg x=0∨sg x = -1:=by
 unfold sg
 split
 ·exact .inl rfl
 ·split
  ·exact .inr (.inr rfl)
  ·exact .inr (.inl rfl)
theorem mul_le_one {x y:Rat} (h0:0 < x) (hx:x≤1) (hy:y≤1):x * y≤1:=by
 have h:=Rat.mul_le_mul_of_nonneg_left hy (show 0≤x by grind)
 rw [Rat.mul_one] at h
 grind
theorem mul_lt_one {x y:Rat} (h0:0 < x) (hx:x < 1) (hy:y≤1):x * y < 1:=by
 have h:=Rat.mul_le_mul_of_nonneg_left hy (show 0≤x by grind)
 rw [Rat.mul_one] at h
 grind
theorem pow_le_one {x:Rat} (h0:0 < x) (hx:x≤1):∀ m:Nat,x ^ m≤1
 | 0=>by rw [Rat.pow_zero]; exact Rat.le_refl
 | m + 1=>by rw [Rat.pow_succ]; exact mul_le_one (Rat.pow_pos h0) (pow_le_one h0 hx m) hx
theorem pow_lt_one {x:Rat} (h0:0 < x) (hx:x < 1) (m:Nat) (hm:0 < m):x ^ m < 1:=by
 obtain ⟨k,rfl⟩:=Nat.exists_eq_succ_of_ne_zero (by omega:m≠0)
 rw [Rat.pow_succ,Rat.mul_comm]
 exact mul_lt_one h0 hx (pow_le_one h0 (by grind) k)
theorem sg_pow {x:Rat} (h0:0 < x) {m:Nat} (hm:0 < m):sg (x ^ m)=sg x:=by
 rcases sg_cases x with h | h | h
 ·rw [h]; exact sg_pos.2 (pow_one_lt (sg_pos.1 h) m hm)
 ·rw [h]
  rw [sg_zero.1 h]
  have:(1:Rat) ^ m=1:=by
   clear hm
   induction m with
   | zero=>rfl
   | succ m ih=>rw [Rat.pow_succ,ih,Rat.mul_one]
  rw [this]; exact sg_one
 ·rw [h]; exact sg_low.2 (pow_lt_one h0 (sg_low.1 h) m hm)
theorem vp_pos:∀ (ps ks:List Int),(∀ p∈ps,0 < p)→0 < vp ps ks
 | [],_,_=>by simp only [vp]; decide
 | _ :: _,[],_=>by simp only [vp]; decide
 | p :: ps,k :: ks,h=>by
  simp only [vp]
  exact Rat.mul_pos (Rat.zpow_pos (by have:=h p List.mem_cons_self; exact Rat.intCast_pos.2 this)) (vp_pos ps ks fun q hq=>h q (List.mem_cons_of_mem _ hq))
theorem vp_add:∀ (ps ks ms:List Int),(∀ p∈ps,0 < p)→ks.length=ms.length→vp ps (List.zipWith (· + ·) ks ms)=vp ps ks * vp ps ms
 | [],_,_,_,_=>by simp only [vp]; rw [Rat.mul_one]
 | _ :: _,[],[],_,_=>by simp [vp]
 | p :: ps,k :: ks,m :: ms,h,hl=>by
  have ih:=vp_add ps ks ms (fun q hq=>h q (List.mem_cons_of_mem _ hq)) (by simpa using hl)
  have hp:=h p List.mem_cons_self
  have hp0:(p:Rat)≠0:=by have:=Rat.intCast_pos.2 hp; grind
  simp only [List.zipWith_cons_cons,vp]
  rw [ih,Rat.zpow_add hp0]
  grind
theorem vp_zero:∀ (ps ks:List Int),(∀ k∈ks,k=0)→vp ps ks=1
 | [],_,_=>rfl
 | _ :: _,[],_=>rfl
 | p :: ps,k :: ks,h=>by
  simp only [vp]
  rw [h k List.mem_cons_self,vp_zero ps ks fun x hx=>h x (List.mem_cons_of_mem _ hx),Rat.zpow_zero,Rat.mul_one]
theorem vp_nsmul (ps ks:List Int) (h:∀ p∈ps,0 < p):∀ m:Nat,vp ps (ks.map fun k=>(m:Int) * k)=vp ps ks ^ m
 | 0=>by
  rw [Rat.pow_zero]
  refine vp_zero _ _ fun k hk=>?_
  obtain ⟨x,_,rfl⟩:=List.mem_map.1 hk
  simp
 | m + 1=>by
  have ih:=vp_nsmul ps ks h m
  have e:=vp_add ps (ks.map fun k=>(m:Int) * k) ks h (by simp)
  rw [Rat.pow_succ,← ih,← e]
  congr 1
  rw [List.zipWith_map_left]
  refine List.ext_getElem (by simp) fun i h1 h2=>?_
  simp
  rw [Int.add_mul,Int.one_mul]
def vt:List (Int×Int)→Rat
 | []=>1
 | x :: l=>(x.1:Rat) ^ x.2 * vt l
theorem vt_up:∀ l:List (Int×Int),(∀ x∈l,0 < x.1)→((upT l:Nat):Rat)=vt l * ((upT (negT l):Nat):Rat)
 | [],_=>by simp [upT,negT,vt]
 | x :: l,h=>by
  have ih:=vt_up l fun y hy=>h y (List.mem_cons_of_mem _ hy)
  have hx:=h x List.mem_cons_self
  have e:negT (x :: l)=(x.1,-x.2) :: negT l:=rfl
  rw [e]
  simp only [upT,vt]
  rw [Rat.natCast_mul,Rat.natCast_mul,ih,natCast_pow,natCast_pow]
  have hp:((x.1.toNat:Nat):Rat)=(x.1:Rat):=by
   rw [← Rat.intCast_natCast,Int.toNat_of_nonneg (by omega)]
  rw [hp]
  have hp0:(x.1:Rat)≠0:=by have:=Rat.intCast_pos.2 hx; grind
  have key:(x.1:Rat) ^ x.2.toNat=(x.1:Rat) ^ x.2 * (x.1:Rat) ^ (-x.2).toNat:=by
   rw [← Rat.zpow_natCast,← Rat.zpow_natCast,← Rat.zpow_add hp0]
   congr 1
   omega
  rw [key]
  grind
theorem up_pos':∀ l:List (Int×Int),(∀ x∈l,0 < x.1)→0 < upT l
 | [],_=>by simp [upT]
 | x :: l,h=>by
  have hx:=h x List.mem_cons_self
  exact Nat.mul_pos (Nat.pow_pos (by omega)) (up_pos' l fun y hy=>h y (List.mem_cons_of_mem _ hy))
theorem signT_sg (l:List (Int×Int)) (h:∀ x∈l,0 < x.1):signT l=sg (vt l):=by
 have e:=vt_up l h
 have hd:(0:Rat) < ((upT (negT l):Nat):Rat):=by
  have:=up_pos' (negT l) (by
   intro x hx
   obtain ⟨y,hy,rfl⟩:=List.mem_map.1 hx
   exact h y hy)
  exact Rat.natCast_pos.2 this
 have c1:upT (negT l) < upT l↔1 < vt l:=by
  rw [← Rat.natCast_lt_natCast,e]
  constructor
  ·intro h1
   refine Rat.lt_of_mul_lt_mul_right (c:=((upT (negT l):Nat):Rat)) ?_ (Rat.le_of_lt hd)
   rw [Rat.one_mul]; exact h1
  ·intro h1
   have:=Rat.mul_lt_mul_of_pos_right h1 hd
   rw [Rat.one_mul] at this
   exact this
 have c2:upT l < upT (negT l)↔vt l < 1:=by
  rw [← Rat.natCast_lt_natCast,e]
  constructor
  ·intro h1
   refine Rat.lt_of_mul_lt_mul_right (c:=((upT (negT l):Nat):Rat)) ?_ (Rat.le_of_lt hd)
   rw [Rat.one_mul]; exact h1
  ·intro h1
   have:=Rat.mul_lt_mul_of_pos_right h1 hd
   rw [Rat.one_mul] at this
   exact this
 unfold signT sg
 simp only [c1,c2]
theorem ex_zero {D:Nat} (a:Rat) (h:a.num=0):ex D a=0:=by unfold ex; rw [h]; simp
theorem vt_tlist (D:Nat):∀ (ps:List Int) (l:List Rat),vt (tlist D ps l)=vp ps (l.map (ex D))
 | [],_=>rfl
 | _ :: _,[]=>rfl
 | p :: ps,q :: l=>by
  have ih:=vt_tlist D ps l
  unfold tlist at ih ⊢
  rw [List.zip_cons_cons,List.filterMap_cons]
  by_cases h:q.num=0
  ·simp only [h,if_true,List.map_cons,vp]
   rw [ih,ex_zero q h,Rat.zpow_zero,Rat.one_mul]
  ·simp only [h,if_false,List.map_cons,vp,vt]
   rw [ih]; rfl
theorem tlist_pos {D:Nat} {ps:List Int} {l:List Rat} (hp:∀ p∈ps,0 < p):∀ x∈tlist D ps l,0 < x.1:=by
 intro x hx
 unfold tlist at hx
 obtain ⟨y,hy,he⟩:=List.mem_filterMap.1 hx
 have h1:=(List.of_mem_zip hy).1
 split at he
 ·cases he
 ·cases he; exact hp _ h1
theorem sz_eq {ps:List Int} {l:List Rat} {D:Nat} (hp:∀ p∈ps,0 < p) (hD:0 < D) (h:∀ q∈l,q.den ∣ D):sz ps l=sg (vp ps (l.map (ex D))):=by
 unfold sz
 rw [signT_sg _ (tlist_pos hp),vt_tlist]
 obtain ⟨m,rfl⟩:=tden_min h
 have hm:0 < m:=Nat.pos_of_mul_pos_left hD
 have e:l.map (ex (tden l * m))=(l.map (ex (tden l))).map fun k=>(m:Int) * k:=by
  rw [List.map_map]
  refine List.map_congr_left fun q hq=>?_
  rw [Nat.mul_comm,ex_mul (tden_dvd hq)]; rfl
 rw [e,vp_nsmul _ _ hp,sg_pow (vp_pos _ _ hp) hm]
theorem sz_zero {ps:List Int} {l:List Rat} (hp:∀ p∈ps,0 < p) (h:∀ q∈l,q=0):sz ps l=0:=by
 rw [sz_eq hp (tden_pos' l) fun q hq=>tden_dvd hq,vp_zero,sg_one]
 intro k hk
 obtain ⟨q,hq,rfl⟩:=List.mem_map.1 hk
 exact ex_zero q (by rw [h q hq]; rfl)
end Go.Proofs.YtnjedhgcfeoemaaGreatDoor.LN

namespace Go.Proofs.YtnjedhgcfeoemaaGreatDoor
open Go.RowKit Go.Shelf
attribute [local go_sem] Oper.semAt_some
theorem ends_kt {B:Nat} {W0 W W4:World} (hB:W0.heap.size=B) (hb:Below W0.heap.size W0 W) (hsz:B + 4 < W.heap.size) (h:Below W.heap.size W W4) (v5 v6:Value) :
  KT B (B + 4) W ((W4.setCell ⟨B + 1 + 1,0,none⟩ v5).setCell ⟨B + 1 + 1 + 1,0,none⟩ v6):=by
 subst hB
 refine ⟨((h.mono hb.size).setCell (p:=⟨W0.heap.size + 1 + 1,0,none⟩) (by show _≤W0.heap.size + 1 + 1; omega) _).setCell (p:=⟨W0.heap.size + 1 + 1 + 1,0,none⟩) (by show _≤W0.heap.size + 1 + 1 + 1; omega) _,?_⟩
 rw [obj_other (g:=W0.heap.size + 1 + 1 + 1) (k:=W0.heap.size + 4) (by omega),obj_other (g:=W0.heap.size + 1 + 1) (k:=W0.heap.size + 4) (by omega),h.block _ hsz]
theorem boxes4 (w:World) (o1:Obj) (v2 v3 v4:Value) (t2 t3 t4:TypeId) (W:World) (hW:(((w.alloc o1).alloc (.cells #[v2] t2)).alloc (.cells #[v3] t3)).alloc (.cells #[v4] t4)=W) :
  W.heap[w.heap.size + 1]?=some (.cells #[v2] t2 (0,0))∧W.heap[w.heap.size + 1 + 1]?=some (.cells #[v3] t3 (0,0))∧W.heap[w.heap.size + 1 + 1 + 1]?=some (.cells #[v4] t4 (0,0)):=by
 subst hW
 exact ⟨heap_old (heap_old (heap_at _ _ _ _ (by simp)) _) _,heap_old (heap_at _ _ _ _ (by simp)) _,heap_at _ _ _ _ (by simp)⟩
theorem eLo_snoc (f:Int→Nat) (l:List (Int×Int)) (x:Int×Int):LN.eLo f (l ++ [x])=LN.eLo f l + (if x.2 < 0 then x.2 * (LN.hiL f x.1:Int) else x.2 * (f x.1:Int)):=by simp [LN.eLo]
theorem eHi_snoc (f:Int→Nat) (l:List (Int×Int)) (x:Int×Int):LN.eHi f (l ++ [x])=LN.eHi f l + (if x.2 < 0 then x.2 * (f x.1:Int) else x.2 * (LN.hiL f x.1:Int)):=by simp [LN.eHi]
theorem abs_mul_lt {k:Int} {a E F:Nat} (hk:k.natAbs < 2 ^ E) (ha:a < 2 ^ F):(k * (a:Int)).natAbs < 2 ^ (E + F):=by
 rw [Int.natAbs_mul,Int.natAbs_natCast,Nat.pow_add]
 exact Nat.mul_lt_mul'' hk ha
theorem eSum_le {n E:Nat} (hn:n≤1056):∀ l:List (Int×Int),PrT l→(∀ x∈l,x.2.natAbs < 2 ^ E)→(LN.eLo (lf n) l).natAbs≤l.length * 2 ^ (E + (n + 3))∧(LN.eHi (lf n) l).natAbs≤l.length * 2 ^ (E + (n + 3))
 | [],_,_=>by simp [LN.eLo,LN.eHi]
 | x :: l,hp,hk=>by
  have ih:=eSum_le hn l (fun y hy=>hp y (List.mem_cons_of_mem _ hy)) (fun y hy=>hk y (List.mem_cons_of_mem _ hy))
  obtain ⟨h1,h2⟩:=lf_lt (hp x List.mem_cons_self) hn
  have hx:=hk x List.mem_cons_self
  have a1:=abs_mul_lt hx h1
  have a2:=abs_mul_lt hx h2
  have e1:LN.eLo (lf n) (x :: l)=(if x.2 < 0 then x.2 * (LN.hiL (lf n) x.1:Int) else x.2 * (lf n x.1:Int)) + LN.eLo (lf n) l:=by simp [LN.eLo]
  have e2:LN.eHi (lf n) (x :: l)=(if x.2 < 0 then x.2 * (lf n x.1:Int) else x.2 * (LN.hiL (lf n) x.1:Int)) + LN.eHi (lf n) l:=by simp [LN.eHi]
  rw [e1,e2,List.length_cons,Nat.add_mul,Nat.one_mul]
  generalize 2 ^ (E + (n + 3))=T at *
  generalize l.length * T=S at *
  constructor
  ·refine Nat.le_trans (Int.natAbs_add_le _ _) ?_
   split <;> omega
  ·refine Nat.le_trans (Int.natAbs_add_le _ _) ?_
   split <;> omega
theorem eSum_num {n E:Nat} (hn:n≤1056) (l:List (Int×Int)) (hl:l.length≤1000) (hp:PrT l) (hk:∀ x∈l,x.2.natAbs < 2 ^ E) :
  (LN.eLo (lf n) l).natAbs < 2 ^ (E + (n + 3) + 10)∧(LN.eHi (lf n) l).natAbs < 2 ^ (E + (n + 3) + 10):=by
 obtain ⟨h1,h2⟩:=eSum_le hn l hp hk
 have h3:l.length * 2 ^ (E + (n + 3))≤1000 * 2 ^ (E + (n + 3)):=Nat.mul_le_mul_right _ hl
 have e:2 ^ (E + (n + 3) + 10)=1024 * 2 ^ (E + (n + 3)):=by rw [Nat.pow_add _ _ 10,Nat.mul_comm]
 have h4:=Nat.two_pow_pos (E + (n + 3))
 rw [e]
 constructor <;> omega
theorem addZ (w:World) (a b:Int) (K:Nat) (hK:K < 90000) (ha:a.natAbs < 2 ^ K) (hb:b.natAbs < 2 ^ K) (L:Laid w):Gives Tryz.prog 20 #[.string (itx a),.string (itx b)] w (.string (itx (a + b))) :=
 addz_any w a b (num_two ha (by omega)) (num_two hb (by omega)) (num_two (K:=K + 1) (by rw [Nat.pow_succ]; omega) (by omega)) L
theorem mulZ (w:World) (a b:Int) (K M:Nat) (hK:K + M < 90000) (ha:a.natAbs < 2 ^ K) (hb:b.natAbs < 2 ^ M) (L:Laid w):Gives Tryz.prog 115 #[.string (itx a),.string (itx b)] w (.string (itx (a * b))) :=
 mulz_any w a b (num_two ha (by omega)) (num_two hb (by omega)) (num_two (K:=K + M) (by rw [Int.natAbs_mul,Nat.pow_add]; exact Nat.mul_lt_mul'' ha hb) (by omega)) L
def endsAct (w:World) (b1 b2:Option Addr) (d1 d2 D m:Nat) (n:Int) (p:Int) (k:ByteArray):Act:={ tmps := #[.agg (tcells b1 d1 b2 d2 m D),.int .i64 n,.pointer (some ⟨w.heap.size,0,none⟩),.pointer (some ⟨w.heap.size + 1,0,none⟩),.pointer (some ⟨w.heap.size + 1 + 1,0,none⟩),.pointer (some ⟨w.heap.size + 1 + 1 + 1,0,none⟩),.int .i64 p,.string k,undef,undef,.agg #[.slice b1 m d1,.slice b2 m d2,.string (dec D)],.func (.func 241) #[] #[.pointer (some ⟨w.heap.size + 1 + 1 + 1 + 1,0,none⟩)],.int .i64 p,.string k,undef,undef,undef,undef,undef,undef,undef,undef,undef,undef,undef,undef,undef,undef,undef,undef,undef,undef,undef,undef,undef,undef,undef,undef,undef,undef,undef],defers:=[] }
theorem ends_any (w:World) (b1 b2:Option Addr) (d1 d2 D n E:Nat) (tl:List (Int×Int)) (T:TermsAt w tl b1 b2) (hP:PrT tl) (hE:E≤20000) (hK:∀ x∈tl,x.2.natAbs < 2 ^ E) (hn:n≤1056) (L:Laid w) :
  Gives Tryz.prog 172 #[.agg (tcells b1 d1 b2 d2 tl.length D),.int .i64 n] w (.tuple #[.string (itx (LN.eLo (lf n) tl)),.string (itx (LN.eHi (lf n) tl))]):=by
 unfold Gives
 have hr1:=T.r1
 have hr2:=T.r2
 have hl:=T.len
 refine (callsIn_wide (n:=3)).1 ?_
 refine callsIn_of_wp_marks Tryz.func172 rfl trivial ?_ rfl
 simp only [Tryz.ntmps172,List.size_toArray,List.length_cons,List.length_nil,Nat.reduceAdd,Nat.reduceSub,Array.replicate_succ,Array.replicate_zero,List.push_toArray,List.append_toArray,List.nil_append,List.cons_append]
 have HT:=hd_ T
 have HL:=hd_ L
 have Hn:=hd_ hn
 have HE:=hd_ hE
 have HP:=hd_ hP
 have HK:=hd_ hK
 have H0:Hid (itx 0=⟨#[48]⟩):=by show _=_; rw [show (0:Int)=((0:Nat):Int) from rfl,itx_nat,dec_zero]
 clear L T hn hE hK hP
 gi_wp2_with fail
 obtain ⟨w0,hw0⟩:∃ w0,(((w.alloc (Obj.cells (tcells b1 d1 b2 d2 tl.length D) 163)).alloc (Obj.cells #[Value.int IntKind.i64 n] 3)).alloc (Obj.cells #[Value.string ⟨#[48]⟩] 25)).alloc (Obj.cells #[Value.string ⟨#[48]⟩] 25)=w0:=⟨_,rfl⟩
 have hsz0:w0.heap.size=w.heap.size + 4:=by rw [← hw0]; simp
 have hB0:Below w.heap.size w w0:=by rw [← hw0]; exact ((((Below.refl _ w).alloc nr_ _).alloc (by simp) _).alloc (by simp; omega) _).alloc (by simp; omega) _
 have hbox:=boxes4 w _ _ _ _ _ _ _ w0 hw0
 rw [hw0]
 refine ⟨trivial,?_⟩
 refine (callsIn_wide.2 (all_any w0 b1 b2 d1 d2 tl.length D)).mono ?_
 rintro e w' ⟨rfl,rfl⟩
 rw [hsz0]
 have hB5:(w0.alloc (.cells (tcells b1 d1 b2 d2 tl.length D) 163)).heap[w.heap.size + 4]?=some (.cells (tcells b1 d1 b2 d2 tl.length D) 163 (0,0)):=by
  rw [← hsz0]; exact Go.heap_alloc_new w0 _
 have hB1:Below w.heap.size w (w0.alloc (.cells (tcells b1 d1 b2 d2 tl.length D) 163)):=hB0.alloc (by omega) _
 have hsz1:(w0.alloc (.cells (tcells b1 d1 b2 d2 tl.length D) 163)).heap.size=w.heap.size + 5:=by rw [World.size_alloc,hsz0]
 have hI1:EndI w.heap.size n (itx (LN.eLo (lf n) [])) (itx (LN.eHi (lf n) [])) (w0.alloc (.cells (tcells b1 d1 b2 d2 tl.length D) 163)):=by
  obtain ⟨h1,h2,h3⟩:=hbox
  have h1:=heap_old h1 (.cells (tcells b1 d1 b2 d2 tl.length D) 163)
  have h2:=heap_old h2 (.cells (tcells b1 d1 b2 d2 tl.length D) 163)
  have h3:=heap_old h3 (.cells (tcells b1 d1 b2 d2 tl.length D) 163)
  have e1:itx (LN.eLo (lf n) [])=⟨#[48]⟩:=H0.out
  have e2:itx (LN.eHi (lf n) [])=⟨#[48]⟩:=H0.out
  rw [e1,e2]
  exact ⟨(one_cell h1).1,(one_cell h2).1,(one_cell h3).1,(one_cell h2).2,(one_cell h3).2,by rw [hsz1]; omega⟩
 clear hB0 hw0 hbox H0
 generalize w0.alloc (.cells (tcells b1 d1 b2 d2 tl.length D) 163)=w1 at *
 gi_wp2_with fail
 refine wpIn_rangeFunc_ownF rfl (by decide) (gf:=241) (lb := #[.pointer (some ⟨w.heap.size + 4,0,none⟩)]) rfl trivial (enters_of Tryz.func241 (by kernel_rfl) rfl)
  (all_stops 2 (by decide) w w1 hB1 (w.heap.size + 4) b1 b2 d1 d2 D tl hl hB5 hr1 hr2) kt_t (kt_b (by rw [hsz1]; omega) (by rw [hsz1]; omega)) (Below.refl _ _) (fun _=>rfl)
  (fun pre W=>EndI w.heap.size n (itx (LN.eLo (lf n) (pre.map Subtype.val))) (itx (LN.eHi (lf n) (pre.map Subtype.val))) W∧Below w.heap.size w W)
  (fun _ _ W=>False∧Below w.heap.size w W)
  (OwnFrom.and (Own.from (fun s A B row hs hg hr=>hs.kept hg hr) _) (ownFrom_below nr_ (by rw [hsz1]; omega)))
  (fun c=>OwnFrom.and (Own.from (fun s A B row hs hg hr=>hs.elim) _) (ownFrom_below nr_ (by rw [hsz1]; omega)))
  ⟨hI1,hB1⟩
  (fun x=>endsAct w b1 b2 d1 d2 D tl.length n x.1.1 (itx x.1.2)) ?assign ?body ?done ?stop
 case assign =>
  intro l x W K hK
  unfold endsAct at hK
  gi_wp2
  exact hK
 case body =>
  rintro l pre ⟨⟨p,k⟩,hmem⟩ W0 ⟨hI,hB⟩ hlen
  have HI:=hd_ hI
  have HB:=hd_ hB
  have hpp:=HP.out _ hmem
  have hkk:=HK.out _ hmem
  simp only at hpp hkk
  have hn:=Hn.out
  have hE:=HE.out
  obtain ⟨g1,g2⟩:=lf_lt hpp hn
  have hsub:∀ x∈pre.map Subtype.val,x∈tl:=fun x hx=>by
   obtain ⟨y,_,rfl⟩:=List.mem_map.1 hx
   exact y.2
  have hpl:(pre.map Subtype.val).length≤1000:=by rw [List.length_map]; omega
  obtain ⟨s1,s2⟩:=eSum_num hn (pre.map Subtype.val) hpl (fun x hx=>HP.out x (hsub x hx)) (fun x hx=>HK.out x (hsub x hx))
  have e1:LN.eLo (lf n) ((pre ++ [(⟨(p,k),hmem⟩:{x // x∈tl})]).map Subtype.val)=LN.eLo (lf n) (pre.map Subtype.val) + (if k < 0 then (LN.hiL (lf n) p:Int) * k else (lf n p:Int) * k):=by
   rw [List.map_append]
   have:=eLo_snoc (lf n) (pre.map Subtype.val) (p,k)
   simp only at this
   rw [Int.mul_comm k,Int.mul_comm k] at this
   exact this
  have e2:LN.eHi (lf n) ((pre ++ [(⟨(p,k),hmem⟩:{x // x∈tl})]).map Subtype.val)=LN.eHi (lf n) (pre.map Subtype.val) + (if k < 0 then (lf n p:Int) * k else (LN.hiL (lf n) p:Int) * k):=by
   rw [List.map_append]
   have:=eHi_snoc (lf n) (pre.map Subtype.val) (p,k)
   simp only at this
   rw [Int.mul_comm k,Int.mul_comm k] at this
   exact this
  have Hlog:Hid (∀ W,Below w.heap.size w W→Gives Tryz.prog 212 #[.int .i64 p,.int .i64 n] W (.string (dec (lf n p)))):=fun W hW=>by
   obtain ⟨q,rfl,hq⟩:=hpp
   exact log_any W q n hq hn (HL.out.below hW)
  have Hm1:Hid (∀ W,Below w.heap.size w W→Gives Tryz.prog 115 #[.string (dec (lf n p)),.string (itx k)] W (.string (itx ((lf n p:Int) * k)))):=fun W hW=>by
   have:=mulZ W (lf n p:Int) k (n + 3) E (by omega) (by rw [Int.natAbs_natCast]; exact g1) hkk (HL.out.below hW)
   rw [itx_nat] at this; exact this
  have Hm2:Hid (∀ W,Below w.heap.size w W→Gives Tryz.prog 115 #[.string (dec (LN.hiL (lf n) p)),.string (itx k)] W (.string (itx ((LN.hiL (lf n) p:Int) * k)))):=fun W hW=>by
   have:=mulZ W (LN.hiL (lf n) p:Int) k (n + 3) E (by omega) (by rw [Int.natAbs_natCast]; exact g2) hkk (HL.out.below hW)
   rw [itx_nat] at this; exact this
  have Hsg:Hid (∀ W,Below w.heap.size w W→Gives Tryz.prog 84 #[.string (itx k)] W (.int .i64 k.sign)):=fun W _=>sign_any W k
  have t1:((lf n p:Int) * k).natAbs < 2 ^ (E + (n + 3) + 10):=by
   have:=abs_mul_lt hkk g1
   rw [Int.mul_comm] at this
   exact Nat.lt_of_lt_of_le this (Nat.pow_le_pow_right (by decide) (by omega))
  have t2:((LN.hiL (lf n) p:Int) * k).natAbs < 2 ^ (E + (n + 3) + 10):=by
   have:=abs_mul_lt hkk g2
   rw [Int.mul_comm] at this
   exact Nat.lt_of_lt_of_le this (Nat.pow_le_pow_right (by decide) (by omega))
  have hF:E + (n + 3) + 10 < 90000:=by omega
  have one:1 < 2 ^ (n + 3):=Nat.one_lt_two_pow (by omega)
  have Had:Hid (∀ W,Below w.heap.size w W→Gives Tryz.prog 20 #[.string (dec (lf n p)),.string ⟨#[49]⟩] W (.string (dec (lf n p + 1)))):=fun W hW=>by
   have:=addD W (lf n p) 1 (n + 3) (by omega) g1 one (HL.out.below hW)
   rw [dec_one] at this; exact this
  generalize E + (n + 3) + 10=F at *
  unfold endsAct
  have Hk0:=hd_ (Below.refl W0.heap.size W0)
  have HI0:=HI
  have HB0:=HB
  have hw2:(k.sign = -1∧k < 0)∨(0≤k.sign∧k.sign≤1∧¬ k < 0):=by
   rcases Int.lt_trichotomy k 0 with h | h | h
   ·exact .inl ⟨Int.sign_eq_neg_one_of_neg h,h⟩
   ·subst h; exact .inr ⟨by decide,by decide,by decide⟩
   ·rw [Int.sign_eq_one_of_pos h]; exact .inr ⟨by decide,by decide,by omega⟩
  clear hI hB hr1 hr2 hI1 hB1 hB5 hpp hkk hsub g1 g2 one
  have hc3:=HI0.out.c3
  have hc4:=HI0.out.c4
  have hc5:=HI0.out.c5
  have hf4:=HI0.out.f4
  have hf5:=HI0.out.f5
  have HLL:Hid (∀ W,Below w.heap.size w W→Laid W):=fun W hW=>HL.out.below hW
  by_cases hp2:p=2
  ·subst hp2
   have hH:LN.hiL (lf n) 2=lf n 2:=by unfold LN.hiL; rw [if_pos rfl]
   rw [hH] at Hm2 e1 e2 t2
   clear hH
   rcases hw2 with ⟨hs,hk⟩ | ⟨hs1,hs2,hk⟩
   ·rw [if_pos hk] at e1 e2
    rw [hs] at Hsg
    clear hs
    have Ha1:Hid (∀ W,Below w.heap.size w W→Gives Tryz.prog 20 #[.string (itx (LN.eLo (lf n) (pre.map Subtype.val))),.string (itx ((lf n 2:Int) * k))] W (.string (itx ((LN.eLo (lf n) (pre.map Subtype.val)) + (lf n 2:Int) * k)))):=fun W hW=>addZ W _ _ F hF s1 t2 (HLL.out W hW)
    have Ha2:Hid (∀ W,Below w.heap.size w W→Gives Tryz.prog 20 #[.string (itx (LN.eHi (lf n) (pre.map Subtype.val))),.string (itx ((lf n 2:Int) * k))] W (.string (itx ((LN.eHi (lf n) (pre.map Subtype.val)) + (lf n 2:Int) * k)))):=fun W hW=>addZ W _ _ F hF s2 t1 (HLL.out W hW)
    rw [← e1] at Ha1
    rw [← e2] at Ha2
    clear e1 e2 s1 s2 t1 t2 HLL hlen hpl hF
    obtain ⟨slo2,hq1⟩:∃ s,itx (LN.eLo (lf n) ((pre ++ [(⟨(2,k),hmem⟩:{x // x∈tl})]).map Subtype.val))=s:=⟨_,rfl⟩
    obtain ⟨shi2,hq2⟩:∃ s,itx (LN.eHi (lf n) ((pre ++ [(⟨(2,k),hmem⟩:{x // x∈tl})]).map Subtype.val))=s:=⟨_,rfl⟩
    rw [hq1] at Ha1
    rw [hq2] at Ha2
    have Hf1:=hd_ hq1
    have Hf2:=hd_ hq2
    clear hq1 hq2
    generalize itx (LN.eLo (lf n) (pre.map Subtype.val))=slo at *
    generalize itx (LN.eHi (lf n) (pre.map Subtype.val))=shi at *
    generalize itx k=sk at *
    generalize itx ((lf n 2:Int) * k)=sa at *
    generalize dec (lf n 2)=sL at *
    clear Had
    gi_wp2_with fail
    refine ⟨trivial,?_⟩
    refine (CallsIn.inRound l (callsIn_wide.2 (Hlog.out W0 HB0.out))).mono ?_
    rintro e W1 ⟨rfl,hb⟩
    have HI1:=hd_ (HI0.out.below hb)
    have HB1:=hd_ (HB0.out.trans (hb.mono HB0.out.size))
    have Hk1:=hd_ (Hk0.out.trans (hb.mono Hk0.out.size))
    clear hb hc3 hc4 hc5 hf4 hf5 Hlog HI0 HB0 Hk0
    have hc3:=HI1.out.c3
    have hc4:=HI1.out.c4
    have hc5:=HI1.out.c5
    have hf4:=HI1.out.f4
    have hf5:=HI1.out.f5
    gi_wp2_with fail
    refine ⟨trivial,?_⟩
    refine (CallsIn.inRound l (callsIn_wide.2 (Hm1.out W1 HB1.out))).mono ?_
    rintro e W2 ⟨rfl,hb⟩
    have HI2:=hd_ (HI1.out.below hb)
    have HB2:=hd_ (HB1.out.trans (hb.mono HB1.out.size))
    have Hk2:=hd_ (Hk1.out.trans (hb.mono Hk1.out.size))
    clear hb hc3 hc4 hc5 hf4 hf5 Hm1 HI1 HB1 Hk1
    have hc3:=HI2.out.c3
    have hc4:=HI2.out.c4
    have hc5:=HI2.out.c5
    have hf4:=HI2.out.f4
    have hf5:=HI2.out.f5
    gi_wp2_with fail
    refine ⟨trivial,?_⟩
    refine (CallsIn.inRound l (callsIn_wide.2 (Hm2.out W2 HB2.out))).mono ?_
    rintro e W3 ⟨rfl,hb⟩
    have HI3:=hd_ (HI2.out.below hb)
    have HB3:=hd_ (HB2.out.trans (hb.mono HB2.out.size))
    have Hk3:=hd_ (Hk2.out.trans (hb.mono Hk2.out.size))
    clear hb hc3 hc4 hc5 hf4 hf5 Hm2 HI2 HB2 Hk2
    have hc3:=HI3.out.c3
    have hc4:=HI3.out.c4
    have hc5:=HI3.out.c5
    have hf4:=HI3.out.f4
    have hf5:=HI3.out.f5
    gi_wp2_with fail
    refine ⟨trivial,?_⟩
    refine (CallsIn.inRound l (callsIn_wide.2 (Hsg.out W3 HB3.out))).mono ?_
    rintro e W4 ⟨rfl,hb⟩
    have HI4:=hd_ (HI3.out.below hb)
    have HB4:=hd_ (HB3.out.trans (hb.mono HB3.out.size))
    have Hk4:=hd_ (Hk3.out.trans (hb.mono Hk3.out.size))
    clear hb hc3 hc4 hc5 hf4 hf5 Hsg HI3 HB3 Hk3
    have hc3:=HI4.out.c3
    have hc4:=HI4.out.c4
    have hc5:=HI4.out.c5
    have hf4:=HI4.out.f4
    have hf5:=HI4.out.f5
    gi_wp2_with fail
    have q0:=@CellW.h
    have q9:Nonempty (CellW ⟨w.heap.size + 1 + 1,0,none⟩ (.string slo)):=⟨⟨W4,HI4.out.c4⟩⟩
    have q8:Nonempty (CellW ⟨w.heap.size + 1 + 1 + 1,0,none⟩ (.string shi)):=⟨⟨W4,HI4.out.c5⟩⟩
    refine wpIn_region_readers2 [(8,0),(1,1),(9,3),(1,4),(0,2),(0,5),(0,6),(0,7)]
     [(6,fun w'=>∃ p:CellW ⟨w.heap.size + 1 + 1,0,none⟩ (.string slo),w'=p.w),(7,fun w'=>∃ p:CellW ⟨w.heap.size + 1 + 1 + 1,0,none⟩ (.string shi),w'=p.w)]
     (by kernel_rfl) (by kernel_rfl) ⟨.inr ⟨⟨{ W4 with drawn:=W4.drawn + 1 },HI4.out.c4⟩,rfl⟩,.inr ⟨⟨{ W4 with drawn:=W4.drawn + 1 },HI4.out.c5⟩,rfl⟩,trivial⟩ ?_
    refine walkR2_read (s:=6) _ (List.mem_cons_self ..) rfl ?_
    simp only [dz_,tsc_,tz_]
    go_big_quiet_step (fail)
    refine wpQuiet_nil ?_
    refine walkR2_any ?_
    simp only [dsc_,dz_,tsc_,tz_]
    go_big_quiet_step (fail)
    refine wpQuiet_nil ?_
    refine walkR2_read (s:=7) _ (List.mem_cons_of_mem _ (List.mem_cons_self ..)) rfl ?_
    simp only [dsc_,dz_,tsc_,tz_]
    go_big_quiet_step (fail)
    refine wpQuiet_nil ?_
    refine walkR2_any ?_
    simp only [dsc_,dz_,tsc_,tz_]
    go_big_quiet_step (fail)
    refine wpQuiet_nil ?_
    clear q0 q8 q9 hc3 hc4 hc5 hf4 hf5
    obtain ⟨V0,hV0⟩:∃ V0:World,{ heap:=W4.heap,tape:=W4.tape,drawn:=W4.drawn + 1,os:=W4.os,output:=W4.output }=V0:=⟨_,rfl⟩
    rw [hV0]
    have hdr:Below W4.heap.size W4 V0:=by rw [← hV0]; exact ⟨rfl,rfl,rfl,Nat.le_refl _,fun _ _=>rfl⟩
    have HJ0:=hd_ (HI4.out.below hdr)
    have HC0:=hd_ (HB4.out.trans (hdr.mono HB4.out.size))
    have Hl0:=hd_ (Hk4.out.trans (hdr.mono Hk4.out.size))
    clear hV0 hdr HI4 HB4 Hk4
    refine walkR2_move ?_
    simp only [dsc_,dz_,tsc_,tz_]
    go_wp2_with fail
    refine cm_ (Ha1.out V0 HC0.out) ?_
    rintro e V1 ⟨rfl,hb⟩
    have HJ1:=hd_ (HJ0.out.below hb)
    have HC1:=hd_ (HC0.out.trans (hb.mono HC0.out.size))
    have Hl1:=hd_ (Hl0.out.trans (hb.mono Hl0.out.size))
    clear hb HJ0 HC0 Hl0 Ha1
    go_wp2_with fail
    refine ⟨⟨.inr ⟨⟨V1,HJ1.out.c4⟩,rfl⟩,.inr ⟨⟨V1,HJ1.out.c5⟩,rfl⟩,trivial⟩,?_⟩
    refine walkR2_move ?_
    simp only [dsc_,dz_,tsc_,tz_]
    go_wp2_with fail
    refine cm_ (Ha2.out V1 HC1.out) ?_
    rintro e V2 ⟨rfl,hb⟩
    have HJ2:=hd_ (HJ1.out.below hb)
    have HC2:=hd_ (HC1.out.trans (hb.mono HC1.out.size))
    have Hl2:=hd_ (Hl1.out.trans (hb.mono Hl1.out.size))
    clear hb HJ1 HC1 Hl1 Ha2
    go_wp2_with fail
    refine ⟨⟨.inr ⟨⟨V2,HJ2.out.c4⟩,rfl⟩,.inr ⟨⟨V2,HJ2.out.c5⟩,rfl⟩,trivial⟩,?_⟩
    have hc4:=HJ2.out.c4
    have hc5:=HJ2.out.c5
    have hf4:=HJ2.out.f4
    have hf5:=HJ2.out.f5
    refine walkR2_move ?_
    simp only [dsc_,dz_,tsc_,tz_]
    go_wp2_with fail
    have hc52:(V2.setCell ⟨w.heap.size + 1 + 1,0,none⟩ (.string slo2)).cell? ⟨w.heap.size + 1 + 1 + 1,0,none⟩=some (.string shi):=by
     rw [World.cell?_setCell_other _ _ _ _ (by simp)]; exact HJ2.out.c5
    have hf52:(V2.setCell ⟨w.heap.size + 1 + 1,0,none⟩ (.string slo2)).frozen? ⟨w.heap.size + 1 + 1 + 1,0,none⟩=false:=by rw [World.frozen?_setCell]; exact HJ2.out.f5
    refine ⟨⟨.inl rfl,.inr ⟨⟨V2.setCell ⟨w.heap.size + 1 + 1,0,none⟩ (.string slo2),hc52⟩,rfl⟩,trivial⟩,?_⟩
    clear hc4 hc5 hf4 hf5
    refine walkR2_move ?_
    simp only [dsc_,dz_,tsc_,tz_]
    go_wp2_with fail
    refine ⟨⟨.inl rfl,.inl rfl,trivial⟩,?_⟩
    simp only [walkR2]
    exact ⟨(keeps_of_below Hl2.out).trans ((KeepsOthers.setCell _ _ _).trans (KeepsOthers.setCell _ _ _)),ends_kt rfl HB.out HI.out.sz Hl2.out _ _,(HJ2.out.stored _ _).cast Hf1.out Hf2.out,near_below HC2.out _ _⟩
   ·rw [if_neg hk] at e1 e2
    have hs':¬ k.sign < 0:=by omega
    have Ha1:Hid (∀ W,Below w.heap.size w W→Gives Tryz.prog 20 #[.string (itx (LN.eLo (lf n) (pre.map Subtype.val))),.string (itx ((lf n 2:Int) * k))] W (.string (itx ((LN.eLo (lf n) (pre.map Subtype.val)) + (lf n 2:Int) * k)))):=fun W hW=>addZ W _ _ F hF s1 t1 (HLL.out W hW)
    have Ha2:Hid (∀ W,Below w.heap.size w W→Gives Tryz.prog 20 #[.string (itx (LN.eHi (lf n) (pre.map Subtype.val))),.string (itx ((lf n 2:Int) * k))] W (.string (itx ((LN.eHi (lf n) (pre.map Subtype.val)) + (lf n 2:Int) * k)))):=fun W hW=>addZ W _ _ F hF s2 t2 (HLL.out W hW)
    generalize k.sign=sg at *
    rw [← e1] at Ha1
    rw [← e2] at Ha2
    clear e1 e2 s1 s2 t1 t2 HLL hlen hpl hF
    obtain ⟨slo2,hq1⟩:∃ s,itx (LN.eLo (lf n) ((pre ++ [(⟨(2,k),hmem⟩:{x // x∈tl})]).map Subtype.val))=s:=⟨_,rfl⟩
    obtain ⟨shi2,hq2⟩:∃ s,itx (LN.eHi (lf n) ((pre ++ [(⟨(2,k),hmem⟩:{x // x∈tl})]).map Subtype.val))=s:=⟨_,rfl⟩
    rw [hq1] at Ha1
    rw [hq2] at Ha2
    have Hf1:=hd_ hq1
    have Hf2:=hd_ hq2
    clear hq1 hq2
    generalize itx (LN.eLo (lf n) (pre.map Subtype.val))=slo at *
    generalize itx (LN.eHi (lf n) (pre.map Subtype.val))=shi at *
    generalize itx k=sk at *
    generalize itx ((lf n 2:Int) * k)=sa at *
    generalize dec (lf n 2)=sL at *
    clear Had
    gi_wp2_with fail
    refine ⟨trivial,?_⟩
    refine (CallsIn.inRound l (callsIn_wide.2 (Hlog.out W0 HB0.out))).mono ?_
    rintro e W1 ⟨rfl,hb⟩
    have HI1:=hd_ (HI0.out.below hb)
    have HB1:=hd_ (HB0.out.trans (hb.mono HB0.out.size))
    have Hk1:=hd_ (Hk0.out.trans (hb.mono Hk0.out.size))
    clear hb hc3 hc4 hc5 hf4 hf5 Hlog HI0 HB0 Hk0
    have hc3:=HI1.out.c3
    have hc4:=HI1.out.c4
    have hc5:=HI1.out.c5
    have hf4:=HI1.out.f4
    have hf5:=HI1.out.f5
    gi_wp2_with fail
    refine ⟨trivial,?_⟩
    refine (CallsIn.inRound l (callsIn_wide.2 (Hm1.out W1 HB1.out))).mono ?_
    rintro e W2 ⟨rfl,hb⟩
    have HI2:=hd_ (HI1.out.below hb)
    have HB2:=hd_ (HB1.out.trans (hb.mono HB1.out.size))
    have Hk2:=hd_ (Hk1.out.trans (hb.mono Hk1.out.size))
    clear hb hc3 hc4 hc5 hf4 hf5 Hm1 HI1 HB1 Hk1
    have hc3:=HI2.out.c3
    have hc4:=HI2.out.c4
    have hc5:=HI2.out.c5
    have hf4:=HI2.out.f4
    have hf5:=HI2.out.f5
    gi_wp2_with fail
    refine ⟨trivial,?_⟩
    refine (CallsIn.inRound l (callsIn_wide.2 (Hm2.out W2 HB2.out))).mono ?_
    rintro e W3 ⟨rfl,hb⟩
    have HI3:=hd_ (HI2.out.below hb)
    have HB3:=hd_ (HB2.out.trans (hb.mono HB2.out.size))
    have Hk3:=hd_ (Hk2.out.trans (hb.mono Hk2.out.size))
    clear hb hc3 hc4 hc5 hf4 hf5 Hm2 HI2 HB2 Hk2
    have hc3:=HI3.out.c3
    have hc4:=HI3.out.c4
    have hc5:=HI3.out.c5
    have hf4:=HI3.out.f4
    have hf5:=HI3.out.f5
    gi_wp2_with fail
    refine ⟨trivial,?_⟩
    refine (CallsIn.inRound l (callsIn_wide.2 (Hsg.out W3 HB3.out))).mono ?_
    rintro e W4 ⟨rfl,hb⟩
    have HI4:=hd_ (HI3.out.below hb)
    have HB4:=hd_ (HB3.out.trans (hb.mono HB3.out.size))
    have Hk4:=hd_ (Hk3.out.trans (hb.mono Hk3.out.size))
    clear hb hc3 hc4 hc5 hf4 hf5 Hsg HI3 HB3 Hk3
    have hc3:=HI4.out.c3
    have hc4:=HI4.out.c4
    have hc5:=HI4.out.c5
    have hf4:=HI4.out.f4
    have hf5:=HI4.out.f5
    gi_wp2_with fail
    have q0:=@CellW.h
    have q9:Nonempty (CellW ⟨w.heap.size + 1 + 1,0,none⟩ (.string slo)):=⟨⟨W4,HI4.out.c4⟩⟩
    have q8:Nonempty (CellW ⟨w.heap.size + 1 + 1 + 1,0,none⟩ (.string shi)):=⟨⟨W4,HI4.out.c5⟩⟩
    refine wpIn_region_readers2 [(8,0),(1,1),(9,3),(1,4),(0,2),(0,5),(0,6),(0,7)]
     [(6,fun w'=>∃ p:CellW ⟨w.heap.size + 1 + 1,0,none⟩ (.string slo),w'=p.w),(7,fun w'=>∃ p:CellW ⟨w.heap.size + 1 + 1 + 1,0,none⟩ (.string shi),w'=p.w)]
     (by kernel_rfl) (by kernel_rfl) ⟨.inr ⟨⟨{ W4 with drawn:=W4.drawn + 1 },HI4.out.c4⟩,rfl⟩,.inr ⟨⟨{ W4 with drawn:=W4.drawn + 1 },HI4.out.c5⟩,rfl⟩,trivial⟩ ?_
    refine walkR2_read (s:=6) _ (List.mem_cons_self ..) rfl ?_
    simp only [dz_,tsc_,tz_]
    go_big_quiet_step (fail)
    refine wpQuiet_nil ?_
    refine walkR2_any ?_
    simp only [dsc_,dz_,tsc_,tz_]
    go_big_quiet_step (fail)
    refine wpQuiet_nil ?_
    refine walkR2_read (s:=7) _ (List.mem_cons_of_mem _ (List.mem_cons_self ..)) rfl ?_
    simp only [dsc_,dz_,tsc_,tz_]
    go_big_quiet_step (fail)
    refine wpQuiet_nil ?_
    refine walkR2_any ?_
    simp only [dsc_,dz_,tsc_,tz_]
    go_big_quiet_step (fail)
    refine wpQuiet_nil ?_
    clear q0 q8 q9 hc3 hc4 hc5 hf4 hf5
    obtain ⟨V0,hV0⟩:∃ V0:World,{ heap:=W4.heap,tape:=W4.tape,drawn:=W4.drawn + 1,os:=W4.os,output:=W4.output }=V0:=⟨_,rfl⟩
    rw [hV0]
    have hdr:Below W4.heap.size W4 V0:=by rw [← hV0]; exact ⟨rfl,rfl,rfl,Nat.le_refl _,fun _ _=>rfl⟩
    have HJ0:=hd_ (HI4.out.below hdr)
    have HC0:=hd_ (HB4.out.trans (hdr.mono HB4.out.size))
    have Hl0:=hd_ (Hk4.out.trans (hdr.mono Hk4.out.size))
    clear hV0 hdr HI4 HB4 Hk4
    refine walkR2_move ?_
    simp only [dsc_,dz_,tsc_,tz_]
    go_wp2_with fail
    refine cm_ (Ha1.out V0 HC0.out) ?_
    rintro e V1 ⟨rfl,hb⟩
    have HJ1:=hd_ (HJ0.out.below hb)
    have HC1:=hd_ (HC0.out.trans (hb.mono HC0.out.size))
    have Hl1:=hd_ (Hl0.out.trans (hb.mono Hl0.out.size))
    clear hb HJ0 HC0 Hl0 Ha1
    go_wp2_with fail
    refine ⟨⟨.inr ⟨⟨V1,HJ1.out.c4⟩,rfl⟩,.inr ⟨⟨V1,HJ1.out.c5⟩,rfl⟩,trivial⟩,?_⟩
    refine walkR2_move ?_
    simp only [dsc_,dz_,tsc_,tz_]
    go_wp2_with fail
    refine cm_ (Ha2.out V1 HC1.out) ?_
    rintro e V2 ⟨rfl,hb⟩
    have HJ2:=hd_ (HJ1.out.below hb)
    have HC2:=hd_ (HC1.out.trans (hb.mono HC1.out.size))
    have Hl2:=hd_ (Hl1.out.trans (hb.mono Hl1.out.size))
    clear hb HJ1 HC1 Hl1 Ha2
    go_wp2_with fail
    refine ⟨⟨.inr ⟨⟨V2,HJ2.out.c4⟩,rfl⟩,.inr ⟨⟨V2,HJ2.out.c5⟩,rfl⟩,trivial⟩,?_⟩
    have hc4:=HJ2.out.c4
    have hc5:=HJ2.out.c5
    have hf4:=HJ2.out.f4
    have hf5:=HJ2.out.f5
    refine walkR2_move ?_
    simp only [dsc_,dz_,tsc_,tz_]
    go_wp2_with fail
    have hc52:(V2.setCell ⟨w.heap.size + 1 + 1,0,none⟩ (.string slo2)).cell? ⟨w.heap.size + 1 + 1 + 1,0,none⟩=some (.string shi):=by
     rw [World.cell?_setCell_other _ _ _ _ (by simp)]; exact HJ2.out.c5
    have hf52:(V2.setCell ⟨w.heap.size + 1 + 1,0,none⟩ (.string slo2)).frozen? ⟨w.heap.size + 1 + 1 + 1,0,none⟩=false:=by rw [World.frozen?_setCell]; exact HJ2.out.f5
    refine ⟨⟨.inl rfl,.inr ⟨⟨V2.setCell ⟨w.heap.size + 1 + 1,0,none⟩ (.string slo2),hc52⟩,rfl⟩,trivial⟩,?_⟩
    clear hc4 hc5 hf4 hf5
    refine walkR2_move ?_
    simp only [dsc_,dz_,tsc_,tz_]
    go_wp2_with fail
    refine ⟨⟨.inl rfl,.inl rfl,trivial⟩,?_⟩
    simp only [walkR2]
    exact ⟨(keeps_of_below Hl2.out).trans ((KeepsOthers.setCell _ _ _).trans (KeepsOthers.setCell _ _ _)),ends_kt rfl HB.out HI.out.sz Hl2.out _ _,(HJ2.out.stored _ _).cast Hf1.out Hf2.out,near_below HC2.out _ _⟩
  ·have hH:LN.hiL (lf n) p=lf n p + 1:=by unfold LN.hiL; rw [if_neg hp2]
   rw [hH] at Hm2 e1 e2 t2
   have hp2':(p == 2)=false:=by rw [beq_eq_false_iff_ne]; exact hp2
   clear hH
   rcases hw2 with ⟨hs,hk⟩ | ⟨hs1,hs2,hk⟩
   ·rw [if_pos hk] at e1 e2
    rw [hs] at Hsg
    clear hs
    have Ha1:Hid (∀ W,Below w.heap.size w W→Gives Tryz.prog 20 #[.string (itx (LN.eLo (lf n) (pre.map Subtype.val))),.string (itx (((lf n p + 1:Nat):Int) * k))] W (.string (itx ((LN.eLo (lf n) (pre.map Subtype.val)) + ((lf n p + 1:Nat):Int) * k)))):=fun W hW=>addZ W _ _ F hF s1 t2 (HLL.out W hW)
    have Ha2:Hid (∀ W,Below w.heap.size w W→Gives Tryz.prog 20 #[.string (itx (LN.eHi (lf n) (pre.map Subtype.val))),.string (itx ((lf n p:Int) * k))] W (.string (itx ((LN.eHi (lf n) (pre.map Subtype.val)) + (lf n p:Int) * k)))):=fun W hW=>addZ W _ _ F hF s2 t1 (HLL.out W hW)
    rw [← e1] at Ha1
    rw [← e2] at Ha2
    clear e1 e2 s1 s2 t1 t2 HLL hlen hpl hF
    obtain ⟨slo2,hq1⟩:∃ s,itx (LN.eLo (lf n) ((pre ++ [(⟨(p,k),hmem⟩:{x // x∈tl})]).map Subtype.val))=s:=⟨_,rfl⟩
    obtain ⟨shi2,hq2⟩:∃ s,itx (LN.eHi (lf n) ((pre ++ [(⟨(p,k),hmem⟩:{x // x∈tl})]).map Subtype.val))=s:=⟨_,rfl⟩
    rw [hq1] at Ha1
    rw [hq2] at Ha2
    have Hf1:=hd_ hq1
    have Hf2:=hd_ hq2
    clear hq1 hq2
    generalize itx (LN.eLo (lf n) (pre.map Subtype.val))=slo at *
    generalize itx (LN.eHi (lf n) (pre.map Subtype.val))=shi at *
    generalize itx k=sk at *
    generalize itx ((lf n p:Int) * k)=sa at *
    generalize itx (((lf n p + 1:Nat):Int) * k)=sb at *
    generalize dec (lf n p + 1)=sH at *
    generalize dec (lf n p)=sL at *
    gi_wp2_with fail
    refine ⟨trivial,?_⟩
    refine (CallsIn.inRound l (callsIn_wide.2 (Hlog.out W0 HB0.out))).mono ?_
    rintro e W1 ⟨rfl,hb⟩
    have HI1:=hd_ (HI0.out.below hb)
    have HB1:=hd_ (HB0.out.trans (hb.mono HB0.out.size))
    have Hk1:=hd_ (Hk0.out.trans (hb.mono Hk0.out.size))
    clear hb hc3 hc4 hc5 hf4 hf5 Hlog HI0 HB0 Hk0
    have hc3:=HI1.out.c3
    have hc4:=HI1.out.c4
    have hc5:=HI1.out.c5
    have hf4:=HI1.out.f4
    have hf5:=HI1.out.f5
    gi_wp2_with fail
    refine ⟨trivial,?_⟩
    refine (CallsIn.inRound l (callsIn_wide.2 (Had.out W1 HB1.out))).mono ?_
    rintro e W2 ⟨rfl,hb⟩
    have HI2:=hd_ (HI1.out.below hb)
    have HB2:=hd_ (HB1.out.trans (hb.mono HB1.out.size))
    have Hk2:=hd_ (Hk1.out.trans (hb.mono Hk1.out.size))
    clear hb hc3 hc4 hc5 hf4 hf5 Had HI1 HB1 Hk1
    have hc3:=HI2.out.c3
    have hc4:=HI2.out.c4
    have hc5:=HI2.out.c5
    have hf4:=HI2.out.f4
    have hf5:=HI2.out.f5
    gi_wp2_with fail
    refine ⟨trivial,?_⟩
    refine (CallsIn.inRound l (callsIn_wide.2 (Hm1.out W2 HB2.out))).mono ?_
    rintro e W3 ⟨rfl,hb⟩
    have HI3:=hd_ (HI2.out.below hb)
    have HB3:=hd_ (HB2.out.trans (hb.mono HB2.out.size))
    have Hk3:=hd_ (Hk2.out.trans (hb.mono Hk2.out.size))
    clear hb hc3 hc4 hc5 hf4 hf5 Hm1 HI2 HB2 Hk2
    have hc3:=HI3.out.c3
    have hc4:=HI3.out.c4
    have hc5:=HI3.out.c5
    have hf4:=HI3.out.f4
    have hf5:=HI3.out.f5
    gi_wp2_with fail
    refine ⟨trivial,?_⟩
    refine (CallsIn.inRound l (callsIn_wide.2 (Hm2.out W3 HB3.out))).mono ?_
    rintro e W4 ⟨rfl,hb⟩
    have HI4:=hd_ (HI3.out.below hb)
    have HB4:=hd_ (HB3.out.trans (hb.mono HB3.out.size))
    have Hk4:=hd_ (Hk3.out.trans (hb.mono Hk3.out.size))
    clear hb hc3 hc4 hc5 hf4 hf5 Hm2 HI3 HB3 Hk3
    have hc3:=HI4.out.c3
    have hc4:=HI4.out.c4
    have hc5:=HI4.out.c5
    have hf4:=HI4.out.f4
    have hf5:=HI4.out.f5
    gi_wp2_with fail
    refine ⟨trivial,?_⟩
    refine (CallsIn.inRound l (callsIn_wide.2 (Hsg.out W4 HB4.out))).mono ?_
    rintro e W5 ⟨rfl,hb⟩
    have HI5:=hd_ (HI4.out.below hb)
    have HB5:=hd_ (HB4.out.trans (hb.mono HB4.out.size))
    have Hk5:=hd_ (Hk4.out.trans (hb.mono Hk4.out.size))
    clear hb hc3 hc4 hc5 hf4 hf5 Hsg HI4 HB4 Hk4
    have hc3:=HI5.out.c3
    have hc4:=HI5.out.c4
    have hc5:=HI5.out.c5
    have hf4:=HI5.out.f4
    have hf5:=HI5.out.f5
    gi_wp2_with fail
    have q0:=@CellW.h
    have q9:Nonempty (CellW ⟨w.heap.size + 1 + 1,0,none⟩ (.string slo)):=⟨⟨W5,HI5.out.c4⟩⟩
    have q8:Nonempty (CellW ⟨w.heap.size + 1 + 1 + 1,0,none⟩ (.string shi)):=⟨⟨W5,HI5.out.c5⟩⟩
    refine wpIn_region_readers2 [(8,0),(1,1),(9,3),(1,4),(0,2),(0,5),(0,6),(0,7)]
     [(6,fun w'=>∃ p:CellW ⟨w.heap.size + 1 + 1,0,none⟩ (.string slo),w'=p.w),(7,fun w'=>∃ p:CellW ⟨w.heap.size + 1 + 1 + 1,0,none⟩ (.string shi),w'=p.w)]
     (by kernel_rfl) (by kernel_rfl) ⟨.inr ⟨⟨{ W5 with drawn:=W5.drawn + 1 },HI5.out.c4⟩,rfl⟩,.inr ⟨⟨{ W5 with drawn:=W5.drawn + 1 },HI5.out.c5⟩,rfl⟩,trivial⟩ ?_
    refine walkR2_read (s:=6) _ (List.mem_cons_self ..) rfl ?_
    simp only [dz_,tsc_,tz_]
    go_big_quiet_step (fail)
    refine wpQuiet_nil ?_
    refine walkR2_any ?_
    simp only [dsc_,dz_,tsc_,tz_]
    go_big_quiet_step (fail)
    refine wpQuiet_nil ?_
    refine walkR2_read (s:=7) _ (List.mem_cons_of_mem _ (List.mem_cons_self ..)) rfl ?_
    simp only [dsc_,dz_,tsc_,tz_]
    go_big_quiet_step (fail)
    refine wpQuiet_nil ?_
    refine walkR2_any ?_
    simp only [dsc_,dz_,tsc_,tz_]
    go_big_quiet_step (fail)
    refine wpQuiet_nil ?_
    clear q0 q8 q9 hc3 hc4 hc5 hf4 hf5
    obtain ⟨V0,hV0⟩:∃ V0:World,{ heap:=W5.heap,tape:=W5.tape,drawn:=W5.drawn + 1,os:=W5.os,output:=W5.output }=V0:=⟨_,rfl⟩
    rw [hV0]
    have hdr:Below W5.heap.size W5 V0:=by rw [← hV0]; exact ⟨rfl,rfl,rfl,Nat.le_refl _,fun _ _=>rfl⟩
    have HJ0:=hd_ (HI5.out.below hdr)
    have HC0:=hd_ (HB5.out.trans (hdr.mono HB5.out.size))
    have Hl0:=hd_ (Hk5.out.trans (hdr.mono Hk5.out.size))
    clear hV0 hdr HI5 HB5 Hk5
    refine walkR2_move ?_
    simp only [dsc_,dz_,tsc_,tz_]
    go_wp2_with fail
    refine cm_ (Ha1.out V0 HC0.out) ?_
    rintro e V1 ⟨rfl,hb⟩
    have HJ1:=hd_ (HJ0.out.below hb)
    have HC1:=hd_ (HC0.out.trans (hb.mono HC0.out.size))
    have Hl1:=hd_ (Hl0.out.trans (hb.mono Hl0.out.size))
    clear hb HJ0 HC0 Hl0 Ha1
    go_wp2_with fail
    refine ⟨⟨.inr ⟨⟨V1,HJ1.out.c4⟩,rfl⟩,.inr ⟨⟨V1,HJ1.out.c5⟩,rfl⟩,trivial⟩,?_⟩
    refine walkR2_move ?_
    simp only [dsc_,dz_,tsc_,tz_]
    go_wp2_with fail
    refine cm_ (Ha2.out V1 HC1.out) ?_
    rintro e V2 ⟨rfl,hb⟩
    have HJ2:=hd_ (HJ1.out.below hb)
    have HC2:=hd_ (HC1.out.trans (hb.mono HC1.out.size))
    have Hl2:=hd_ (Hl1.out.trans (hb.mono Hl1.out.size))
    clear hb HJ1 HC1 Hl1 Ha2
    go_wp2_with fail
    refine ⟨⟨.inr ⟨⟨V2,HJ2.out.c4⟩,rfl⟩,.inr ⟨⟨V2,HJ2.out.c5⟩,rfl⟩,trivial⟩,?_⟩
    have hc4:=HJ2.out.c4
    have hc5:=HJ2.out.c5
    have hf4:=HJ2.out.f4
    have hf5:=HJ2.out.f5
    refine walkR2_move ?_
    simp only [dsc_,dz_,tsc_,tz_]
    go_wp2_with fail
    have hc52:(V2.setCell ⟨w.heap.size + 1 + 1,0,none⟩ (.string slo2)).cell? ⟨w.heap.size + 1 + 1 + 1,0,none⟩=some (.string shi):=by
     rw [World.cell?_setCell_other _ _ _ _ (by simp)]; exact HJ2.out.c5
    have hf52:(V2.setCell ⟨w.heap.size + 1 + 1,0,none⟩ (.string slo2)).frozen? ⟨w.heap.size + 1 + 1 + 1,0,none⟩=false:=by rw [World.frozen?_setCell]; exact HJ2.out.f5
    refine ⟨⟨.inl rfl,.inr ⟨⟨V2.setCell ⟨w.heap.size + 1 + 1,0,none⟩ (.string slo2),hc52⟩,rfl⟩,trivial⟩,?_⟩
    clear hc4 hc5 hf4 hf5
    refine walkR2_move ?_
    simp only [dsc_,dz_,tsc_,tz_]
    go_wp2_with fail
    refine ⟨⟨.inl rfl,.inl rfl,trivial⟩,?_⟩
    simp only [walkR2]
    exact ⟨(keeps_of_below Hl2.out).trans ((KeepsOthers.setCell _ _ _).trans (KeepsOthers.setCell _ _ _)),ends_kt rfl HB.out HI.out.sz Hl2.out _ _,(HJ2.out.stored _ _).cast Hf1.out Hf2.out,near_below HC2.out _ _⟩
   ·rw [if_neg hk] at e1 e2
    have hs':¬ k.sign < 0:=by omega
    have Ha1:Hid (∀ W,Below w.heap.size w W→Gives Tryz.prog 20 #[.string (itx (LN.eLo (lf n) (pre.map Subtype.val))),.string (itx ((lf n p:Int) * k))] W (.string (itx ((LN.eLo (lf n) (pre.map Subtype.val)) + (lf n p:Int) * k)))):=fun W hW=>addZ W _ _ F hF s1 t1 (HLL.out W hW)
    have Ha2:Hid (∀ W,Below w.heap.size w W→Gives Tryz.prog 20 #[.string (itx (LN.eHi (lf n) (pre.map Subtype.val))),.string (itx (((lf n p + 1:Nat):Int) * k))] W (.string (itx ((LN.eHi (lf n) (pre.map Subtype.val)) + ((lf n p + 1:Nat):Int) * k)))):=fun W hW=>addZ W _ _ F hF s2 t2 (HLL.out W hW)
    generalize k.sign=sg at *
    rw [← e1] at Ha1
    rw [← e2] at Ha2
    clear e1 e2 s1 s2 t1 t2 HLL hlen hpl hF
    obtain ⟨slo2,hq1⟩:∃ s,itx (LN.eLo (lf n) ((pre ++ [(⟨(p,k),hmem⟩:{x // x∈tl})]).map Subtype.val))=s:=⟨_,rfl⟩
    obtain ⟨shi2,hq2⟩:∃ s,itx (LN.eHi (lf n) ((pre ++ [(⟨(p,k),hmem⟩:{x // x∈tl})]).map Subtype.val))=s:=⟨_,rfl⟩
    rw [hq1] at Ha1
    rw [hq2] at Ha2
    have Hf1:=hd_ hq1
    have Hf2:=hd_ hq2
    clear hq1 hq2
    generalize itx (LN.eLo (lf n) (pre.map Subtype.val))=slo at *
    generalize itx (LN.eHi (lf n) (pre.map Subtype.val))=shi at *
    generalize itx k=sk at *
    generalize itx ((lf n p:Int) * k)=sa at *
    generalize itx (((lf n p + 1:Nat):Int) * k)=sb at *
    generalize dec (lf n p + 1)=sH at *
    generalize dec (lf n p)=sL at *
    gi_wp2_with fail
    refine ⟨trivial,?_⟩
    refine (CallsIn.inRound l (callsIn_wide.2 (Hlog.out W0 HB0.out))).mono ?_
    rintro e W1 ⟨rfl,hb⟩
    have HI1:=hd_ (HI0.out.below hb)
    have HB1:=hd_ (HB0.out.trans (hb.mono HB0.out.size))
    have Hk1:=hd_ (Hk0.out.trans (hb.mono Hk0.out.size))
    clear hb hc3 hc4 hc5 hf4 hf5 Hlog HI0 HB0 Hk0
    have hc3:=HI1.out.c3
    have hc4:=HI1.out.c4
    have hc5:=HI1.out.c5
    have hf4:=HI1.out.f4
    have hf5:=HI1.out.f5
    gi_wp2_with fail
    refine ⟨trivial,?_⟩
    refine (CallsIn.inRound l (callsIn_wide.2 (Had.out W1 HB1.out))).mono ?_
    rintro e W2 ⟨rfl,hb⟩
    have HI2:=hd_ (HI1.out.below hb)
    have HB2:=hd_ (HB1.out.trans (hb.mono HB1.out.size))
    have Hk2:=hd_ (Hk1.out.trans (hb.mono Hk1.out.size))
    clear hb hc3 hc4 hc5 hf4 hf5 Had HI1 HB1 Hk1
    have hc3:=HI2.out.c3
    have hc4:=HI2.out.c4
    have hc5:=HI2.out.c5
    have hf4:=HI2.out.f4
    have hf5:=HI2.out.f5
    gi_wp2_with fail
    refine ⟨trivial,?_⟩
    refine (CallsIn.inRound l (callsIn_wide.2 (Hm1.out W2 HB2.out))).mono ?_
    rintro e W3 ⟨rfl,hb⟩
    have HI3:=hd_ (HI2.out.below hb)
    have HB3:=hd_ (HB2.out.trans (hb.mono HB2.out.size))
    have Hk3:=hd_ (Hk2.out.trans (hb.mono Hk2.out.size))
    clear hb hc3 hc4 hc5 hf4 hf5 Hm1 HI2 HB2 Hk2
    have hc3:=HI3.out.c3
    have hc4:=HI3.out.c4
    have hc5:=HI3.out.c5
    have hf4:=HI3.out.f4
    have hf5:=HI3.out.f5
    gi_wp2_with fail
    refine ⟨trivial,?_⟩
    refine (CallsIn.inRound l (callsIn_wide.2 (Hm2.out W3 HB3.out))).mono ?_
    rintro e W4 ⟨rfl,hb⟩
    have HI4:=hd_ (HI3.out.below hb)
    have HB4:=hd_ (HB3.out.trans (hb.mono HB3.out.size))
    have Hk4:=hd_ (Hk3.out.trans (hb.mono Hk3.out.size))
    clear hb hc3 hc4 hc5 hf4 hf5 Hm2 HI3 HB3 Hk3
    have hc3:=HI4.out.c3
    have hc4:=HI4.out.c4
    have hc5:=HI4.out.c5
    have hf4:=HI4.out.f4
    have hf5:=HI4.out.f5
    gi_wp2_with fail
    refine ⟨trivial,?_⟩
    refine (CallsIn.inRound l (callsIn_wide.2 (Hsg.out W4 HB4.out))).mono ?_
    rintro e W5 ⟨rfl,hb⟩
    have HI5:=hd_ (HI4.out.below hb)
    have HB5:=hd_ (HB4.out.trans (hb.mono HB4.out.size))
    have Hk5:=hd_ (Hk4.out.trans (hb.mono Hk4.out.size))
    clear hb hc3 hc4 hc5 hf4 hf5 Hsg HI4 HB4 Hk4
    have hc3:=HI5.out.c3
    have hc4:=HI5.out.c4
    have hc5:=HI5.out.c5
    have hf4:=HI5.out.f4
    have hf5:=HI5.out.f5
    gi_wp2_with fail
    have q0:=@CellW.h
    have q9:Nonempty (CellW ⟨w.heap.size + 1 + 1,0,none⟩ (.string slo)):=⟨⟨W5,HI5.out.c4⟩⟩
    have q8:Nonempty (CellW ⟨w.heap.size + 1 + 1 + 1,0,none⟩ (.string shi)):=⟨⟨W5,HI5.out.c5⟩⟩
    refine wpIn_region_readers2 [(8,0),(1,1),(9,3),(1,4),(0,2),(0,5),(0,6),(0,7)]
     [(6,fun w'=>∃ p:CellW ⟨w.heap.size + 1 + 1,0,none⟩ (.string slo),w'=p.w),(7,fun w'=>∃ p:CellW ⟨w.heap.size + 1 + 1 + 1,0,none⟩ (.string shi),w'=p.w)]
     (by kernel_rfl) (by kernel_rfl) ⟨.inr ⟨⟨{ W5 with drawn:=W5.drawn + 1 },HI5.out.c4⟩,rfl⟩,.inr ⟨⟨{ W5 with drawn:=W5.drawn + 1 },HI5.out.c5⟩,rfl⟩,trivial⟩ ?_
    refine walkR2_read (s:=6) _ (List.mem_cons_self ..) rfl ?_
    simp only [dz_,tsc_,tz_]
    go_big_quiet_step (fail)
    refine wpQuiet_nil ?_
    refine walkR2_any ?_
    simp only [dsc_,dz_,tsc_,tz_]
    go_big_quiet_step (fail)
    refine wpQuiet_nil ?_
    refine walkR2_read (s:=7) _ (List.mem_cons_of_mem _ (List.mem_cons_self ..)) rfl ?_
    simp only [dsc_,dz_,tsc_,tz_]
    go_big_quiet_step (fail)
    refine wpQuiet_nil ?_
    refine walkR2_any ?_
    simp only [dsc_,dz_,tsc_,tz_]
    go_big_quiet_step (fail)
    refine wpQuiet_nil ?_
    clear q0 q8 q9 hc3 hc4 hc5 hf4 hf5
    obtain ⟨V0,hV0⟩:∃ V0:World,{ heap:=W5.heap,tape:=W5.tape,drawn:=W5.drawn + 1,os:=W5.os,output:=W5.output }=V0:=⟨_,rfl⟩
    rw [hV0]
    have hdr:Below W5.heap.size W5 V0:=by rw [← hV0]; exact ⟨rfl,rfl,rfl,Nat.le_refl _,fun _ _=>rfl⟩
    have HJ0:=hd_ (HI5.out.below hdr)
    have HC0:=hd_ (HB5.out.trans (hdr.mono HB5.out.size))
    have Hl0:=hd_ (Hk5.out.trans (hdr.mono Hk5.out.size))
    clear hV0 hdr HI5 HB5 Hk5
    refine walkR2_move ?_
    simp only [dsc_,dz_,tsc_,tz_]
    go_wp2_with fail
    refine cm_ (Ha1.out V0 HC0.out) ?_
    rintro e V1 ⟨rfl,hb⟩
    have HJ1:=hd_ (HJ0.out.below hb)
    have HC1:=hd_ (HC0.out.trans (hb.mono HC0.out.size))
    have Hl1:=hd_ (Hl0.out.trans (hb.mono Hl0.out.size))
    clear hb HJ0 HC0 Hl0 Ha1
    go_wp2_with fail
    refine ⟨⟨.inr ⟨⟨V1,HJ1.out.c4⟩,rfl⟩,.inr ⟨⟨V1,HJ1.out.c5⟩,rfl⟩,trivial⟩,?_⟩
    refine walkR2_move ?_
    simp only [dsc_,dz_,tsc_,tz_]
    go_wp2_with fail
    refine cm_ (Ha2.out V1 HC1.out) ?_
    rintro e V2 ⟨rfl,hb⟩
    have HJ2:=hd_ (HJ1.out.below hb)
    have HC2:=hd_ (HC1.out.trans (hb.mono HC1.out.size))
    have Hl2:=hd_ (Hl1.out.trans (hb.mono Hl1.out.size))
    clear hb HJ1 HC1 Hl1 Ha2
    go_wp2_with fail
    refine ⟨⟨.inr ⟨⟨V2,HJ2.out.c4⟩,rfl⟩,.inr ⟨⟨V2,HJ2.out.c5⟩,rfl⟩,trivial⟩,?_⟩
    have hc4:=HJ2.out.c4
    have hc5:=HJ2.out.c5
    have hf4:=HJ2.out.f4
    have hf5:=HJ2.out.f5
    refine walkR2_move ?_
    simp only [dsc_,dz_,tsc_,tz_]
    go_wp2_with fail
    have hc52:(V2.setCell ⟨w.heap.size + 1 + 1,0,none⟩ (.string slo2)).cell? ⟨w.heap.size + 1 + 1 + 1,0,none⟩=some (.string shi):=by
     rw [World.cell?_setCell_other _ _ _ _ (by simp)]; exact HJ2.out.c5
    have hf52:(V2.setCell ⟨w.heap.size + 1 + 1,0,none⟩ (.string slo2)).frozen? ⟨w.heap.size + 1 + 1 + 1,0,none⟩=false:=by rw [World.frozen?_setCell]; exact HJ2.out.f5
    refine ⟨⟨.inl rfl,.inr ⟨⟨V2.setCell ⟨w.heap.size + 1 + 1,0,none⟩ (.string slo2),hc52⟩,rfl⟩,trivial⟩,?_⟩
    clear hc4 hc5 hf4 hf5
    refine walkR2_move ?_
    simp only [dsc_,dz_,tsc_,tz_]
    go_wp2_with fail
    refine ⟨⟨.inl rfl,.inl rfl,trivial⟩,?_⟩
    simp only [walkR2]
    exact ⟨(keeps_of_below Hl2.out).trans ((KeepsOthers.setCell _ _ _).trans (KeepsOthers.setCell _ _ _)),ends_kt rfl HB.out HI.out.sz Hl2.out _ _,(HJ2.out.stored _ _).cast Hf1.out Hf2.out,near_below HC2.out _ _⟩
 case done =>
  rintro D' ys W hD rfl ⟨hI,hB⟩ hK
  rw [List.attach_map_subtype_val] at hI
  have HI:=hd_ hI
  have HB:=hd_ hB
  have HK:=hd_ hK
  clear hI hB hK hr1 hr2 hI1 hB1 hB5
  have Hv:Hid (∀ s t,itx (LN.eLo (lf n) tl)=s→itx (LN.eHi (lf n) tl)=t→Ending.returned (.tuple #[.string s,.string t])=Ending.returned (.tuple #[.string (itx (LN.eLo (lf n) tl)),.string (itx (LN.eHi (lf n) tl))])):=by
   intro s t h1 h2
   rw [h1,h2]
  obtain ⟨lo,hlo⟩:∃ s,itx (LN.eLo (lf n) tl)=s:=⟨_,rfl⟩
  obtain ⟨hi,hhi⟩:∃ s,itx (LN.eHi (lf n) tl)=s:=⟨_,rfl⟩
  have Hr:=hd_ (Hv.out lo hi hlo hhi)
  rw [hlo,hhi] at HI
  clear Hv hlo hhi
  have hc4:=HI.out.c4
  have hc5:=HI.out.c5
  have hf4:=HI.out.f4
  have hf5:=HI.out.f5
  gi_wp2_with fail
  gi_region
  gi_wp2
  clear hc4 hc5 hf4 hf5
  have e4:((W.setCell { block:=w.heap.size + 1 + 1,off:=0 } (Value.string lo)).setCell { block:=w.heap.size + 1 + 1 + 1,off:=0 } (Value.string hi)).drew.cell? ⟨w.heap.size + 1 + 1,0,none⟩=some (.string lo):=by
   show World.cell? ((W.setCell { block:=w.heap.size + 1 + 1,off:=0 } (Value.string lo)).setCell { block:=w.heap.size + 1 + 1 + 1,off:=0 } (Value.string hi)) _=_
   rw [World.cell?_setCell_other _ _ _ _ (by simp),World.cell?_setCell_same _ _ _ HI.out.c4]
  have e5:((W.setCell { block:=w.heap.size + 1 + 1,off:=0 } (Value.string lo)).setCell { block:=w.heap.size + 1 + 1 + 1,off:=0 } (Value.string hi)).drew.cell? ⟨w.heap.size + 1 + 1 + 1,0,none⟩=some (.string hi):=by
   show World.cell? ((W.setCell { block:=w.heap.size + 1 + 1,off:=0 } (Value.string lo)).setCell { block:=w.heap.size + 1 + 1 + 1,off:=0 } (Value.string hi)) _=_
   rw [World.cell?_setCell_same _ _ _ (by rw [World.cell?_setCell_other _ _ _ _ (by simp)]; exact HI.out.c5)]
  have hk9:=((KeepsOthers.setCell W ⟨w.heap.size + 1 + 1,0,none⟩ (.string lo)).trans (KeepsOthers.setCell _ ⟨w.heap.size + 1 + 1 + 1,0,none⟩ (.string hi))).trans (KeepsOthers.drew _)
  have hK9:=hk9.same D' _ HK.out rfl
  have hb9:=((HB.out.setCell (p:=⟨w.heap.size + 1 + 1,0,none⟩) (by show _≤w.heap.size + 1 + 1; omega) (.string lo)).setCell (p:=⟨w.heap.size + 1 + 1 + 1,0,none⟩) (by show _≤w.heap.size + 1 + 1 + 1; omega) (.string hi)).drew
  generalize ((W.setCell { block:=w.heap.size + 1 + 1,off:=0 } (Value.string lo)).setCell { block:=w.heap.size + 1 + 1 + 1,off:=0 } (Value.string hi)).drew=w9 at *
  have g4:=cell_kept e4 (grownBy_putObj' _ D' (.deferred none)) (fun r e=>by cases e; exact ⟨_,hK9,rfl⟩)
  have g5:=cell_kept e5 (grownBy_putObj' _ D' (.deferred none)) (fun r e=>by cases e; exact ⟨_,hK9,rfl⟩)
  refine ⟨by simp,.inl ⟨_,_,rfl,run_takeDeferred hK9,?_⟩⟩
  refine ⟨.tuple #[.string lo,.string hi],?_,Hr.out,hb9.trans (belowK_b (w:=w) nr_ w9 D' _ _ (by rw [hsz1] at hD; omega) hK9 rfl rfl)⟩
  simp [results,Tryz.results172,go_sem,g4,g5]
 case stop =>
  rintro D' c pre W hD hSp ⟨hf,_⟩ hK
  exact hf.elim
end Go.Proofs.YtnjedhgcfeoemaaGreatDoor

namespace Go.Proofs.YtnjedhgcfeoemaaGreatDoor
open Go.RowKit
theorem lf_at {n:Nat} {tl:List (Int×Int)} (h:PrT tl) (hn:n≤1056):∀ x∈tl,LN.LogAt n x.1 (lf n x.1):=fun x hx=>by
 obtain ⟨q,e,hq⟩:=h x hx
 rw [e]
 exact lgN_at hq hn
theorem sign_of_lo {n:Nat} {tl:List (Int×Int)} (h:TrT tl) (hn:n≤1056) (hne:tl≠[]) (h0:0≤LN.eLo (lf n) tl):LN.signT tl=1:=by
 rw [LN.eLo_eq] at h0
 exact LN.sign_low n (lf n) tl (lf_at h.p hn) h.nz hne h.nd (by omega)
theorem sign_of_hi {n:Nat} {tl:List (Int×Int)} (h:TrT tl) (hn:n≤1056) (hne:tl≠[]) (h0:LN.eHi (lf n) tl≤0):LN.signT tl = -1:=by
 rw [LN.eHi_eq] at h0
 exact LN.sign_high n (lf n) tl (lf_at h.p hn) h.nz hne h.nd (by omega)
theorem isLg_two (N:Nat):IsLg 2 N N:=⟨Nat.le_refl _,Nat.pow_lt_pow_right (by decide) (by omega)⟩
theorem digs_two (more n:Nat) (hm:1≤more) {s:Nat×Nat×Nat} (h:digs 2 more n=some s):s.2.2=2 ^ n :=
 isLg_one (digs_inv 2 more (by decide) hm n s h).lg (isLg_two _)
theorem lgA_lf {p:Int} (hp:∃ q:Nat,p=q∧(q=2∨q∈oddP)) (h:(digs p.toNat 62 26).isSome=true):lgA p=(lf 26 p:Int)∧lgB p=(LN.hiL (lf 26) p:Int):=by
 obtain ⟨q,rfl,hq⟩:=hp
 obtain ⟨s,hs⟩:=Option.isSome_iff_exists.1 h
 rw [Int.toNat_natCast] at hs
 have e:lgA q=(lf 26 q:Int):=by
  unfold lgA
  rw [Int.toNat_natCast,hs]
  show ((s.2.2:Nat):Int)=((lgN q 26:Nat):Int)
  rcases hq with rfl | hq
  ·rw [digs_two 62 26 (by decide) hs]
   rw [show ((2:Nat):Int)=2 from rfl,lgN_two]
  ·rw [digs_lgN hq (by decide) (by decide) hs]
 refine ⟨e,?_⟩
 unfold lgB LN.hiL
 rw [e]
 split
 ·rfl
 ·rfl
theorem lowT_eq {most:Int}:∀ tl:List (Int×Int),PrT tl→(∀ x∈tl,okT most x)→lowT tl=LN.eLo (lf 26) tl∧highT tl=LN.eHi (lf 26) tl
 | [],_,_=>⟨rfl,rfl⟩
 | x :: l,hp,ho=>by
  obtain ⟨i1,i2⟩:=lowT_eq l (fun y hy=>hp y (List.mem_cons_of_mem _ hy)) (fun y hy=>ho y (List.mem_cons_of_mem _ hy))
  obtain ⟨a1,a2⟩:=lgA_lf (hp x List.mem_cons_self) (ho x List.mem_cons_self).2
  have e1:lowT (x :: l)=min (x.2 * lgA x.1) (x.2 * lgB x.1) + lowT l:=by simp [lowT]
  have e2:highT (x :: l)=max (x.2 * lgA x.1) (x.2 * lgB x.1) + highT l:=by simp [highT]
  have f1:LN.eLo (lf 26) (x :: l)=(if x.2 < 0 then x.2 * (LN.hiL (lf 26) x.1:Int) else x.2 * (lf 26 x.1:Int)) + LN.eLo (lf 26) l:=by simp [LN.eLo]
  have f2:LN.eHi (lf 26) (x :: l)=(if x.2 < 0 then x.2 * (lf 26 x.1:Int) else x.2 * (LN.hiL (lf 26) x.1:Int)) + LN.eHi (lf 26) l:=by simp [LN.eHi]
  have hle:lf 26 x.1≤LN.hiL (lf 26) x.1:=by unfold LN.hiL; split <;> omega
  rw [e1,e2,f1,f2,i1,i2,a1,a2]
  by_cases hk:x.2 < 0
  ·have h1:x.2 * (LN.hiL (lf 26) x.1:Int)≤x.2 * (lf 26 x.1:Int):=Int.mul_le_mul_of_nonpos_left (by omega) (by omega)
   rw [if_pos hk,if_pos hk,Int.min_eq_right h1,Int.max_eq_left h1]
   exact ⟨rfl,rfl⟩
  ·have h1:x.2 * (lf 26 x.1:Int)≤x.2 * (LN.hiL (lf 26) x.1:Int):=Int.mul_le_mul_of_nonneg_left (by omega) (by omega)
   rw [if_neg hk,if_neg hk,Int.min_eq_left h1,Int.max_eq_right h1]
   exact ⟨rfl,rfl⟩
theorem quick_sign {tl:List (Int×Int)} (h:TrT tl) (hne:tl≠[]) (hq:quickV tl≠0):quickV tl=LN.signT tl:=by
 unfold quickV at hq ⊢
 split at hq
 ·rename_i ho
  obtain ⟨e1,e2⟩:=lowT_eq tl h.p ho
  rw [if_pos ho]
  rw [e1,e2] at hq ⊢
  split
  ·rename_i h1; rw [sign_of_lo h (by decide) hne h1]
  ·rename_i h1
   rw [if_neg h1] at hq
   split
   ·rename_i h2; rw [sign_of_hi h (by decide) hne h2]
   ·rename_i h2; rw [if_neg h2] at hq; exact absurd rfl hq
 ·exact absurd rfl hq
def Pw (n:Nat):Prop:=n=64∨n=128∨n=256∨n=512∨n=1024
theorem sign_dec (w:World) (b1 b2:Option Addr) (d1 d2 D E:Nat) (tl:List (Int×Int)) (T:TermsAt w tl b1 b2) (R:TrT tl) (hE:E≤20000) (hK:∀ x∈tl,x.2.natAbs < 2 ^ E) (hd:tl≠[]→Dec tl) (L:Laid w) :
  Gives Tryz.prog 101 #[.agg (tcells b1 d1 b2 d2 tl.length D)] w (.int .i64 (LN.signT tl)):=by
 by_cases h0:tl=[]
 ·have:=sign_quick w b1 b2 d1 d2 D tl T L (.inl h0)
  rw [if_pos h0] at this
  rw [h0] at this ⊢
  exact this
 by_cases hq:quickV tl≠0
 ·have:=sign_quick w b1 b2 d1 d2 D tl T L (.inr hq)
  rw [if_neg h0,quick_sign R h0 hq] at this
  exact this
 ·have hq0:quickV tl=0:=by omega
  unfold Gives
  have Hb0:=hd_ ((Below.refl w.heap.size w).alloc nr_ (.cells (tcells b1 d1 b2 d2 tl.length D) 163))
  have Hn:=hd_ (quick_any _ b1 b2 d1 d2 D tl (T.below Hb0.out) (L.below Hb0.out))
  rw [hq0] at Hn
  have hl0:((tl.length:Int) == 0)=false:=by
   rw [beq_eq_false_iff_ne]
   intro h
   exact h0 (List.eq_nil_of_length_eq_zero (by omega))
  have He:Hid (∀ (n:Nat) W,n≤1056→Below w.heap.size w W→Gives Tryz.prog 172 #[.agg (tcells b1 d1 b2 d2 tl.length D),.int .i64 n] W (.tuple #[.string (itx (LN.eLo (lf n) tl)),.string (itx (LN.eHi (lf n) tl))])) :=
   fun n W hn hW=>ends_any W b1 b2 d1 d2 D n E tl (T.below hW) R.p hE hK hn (L.below hW)
  have Hlo:Hid (∀ n:Nat,n≤1056→0≤LN.eLo (lf n) tl→LN.signT tl=1):=fun n hn h=>sign_of_lo R hn h0 h
  have Hhi:Hid (∀ n:Nat,n≤1056→LN.eHi (lf n) tl≤0→LN.signT tl = -1):=fun n hn h=>sign_of_hi R hn h0 h
  have Hdec:=hd_ (hd h0)
  clear T L hq h0 hq0 R hE hK hd
  generalize LN.signT tl=sv at *
  generalize hm:tl.length=m at *
  clear hm
  have Hob:=hd_ (heap_at w (tcells b1 d1 b2 d2 m D) 163 w.heap.size rfl)
  obtain ⟨m0,m1,m2,m3⟩:=obj_cells3 Hob.out
  clear m3
  go_enter Tryz.func101,Tryz.ntmps101
  go_wp2_with fail
  go_step3
  go_wp2_with fail
  refine cm_ Hn.out ?_
  rintro e w1 ⟨rfl,hb1⟩
  have Hb1:=hd_ (Hb0.out.trans (hb1.mono Hb0.out.size))
  have Hk1:=hd_ (heap_kept Hob.out hb1 nr_)
  clear hb1 Hn Hb0 Hob m0 m1 m2
  go_wp2_with fail
  go_step3
  go_wp2_with fail
  go_loopw [4] (fun a wr=>∃ (n:Nat),Hid (Pw n)∧n≤1024∧a = .int .i64 n∧Hid (Below w.heap.size w wr)∧Hid (wr.heap[w.heap.size]?=some (.cells (tcells b1 d1 b2 d2 m D) 163 (0,0)))) (fun a _=>1024 - (intOf a).toNat)
  case atStart=>exact ⟨64,.inl rfl,by decide,rfl,Hb1,Hk1⟩
  case round =>
   clear Hb1 Hk1
   obtain ⟨n,Hp,hn,rfl,Hb,Hk⟩:=hrel
   obtain ⟨m0,m1,m2,m3⟩:=obj_cells3 Hk.out
   clear m3
   have Hen:=hd_ (He.out n wr (by omega) Hb.out)
   have hlo:=Hlo.out n (by omega)
   have hhi:=Hhi.out n (by omega)
   have hlast:n=1024→0≤LN.eLo (lf n) tl∨LN.eHi (lf n) tl≤0:=fun h=>by rw [h]; exact Hdec.out
   clear He Hlo Hhi Hdec
   generalize LN.eLo (lf n) tl=lo at *
   generalize LN.eHi (lf n) tl=hi at *
   have Hs1:Hid (∀ W,Gives Tryz.prog 84 #[.string (itx lo)] W (.int .i64 lo.sign)):=fun W=>sign_any W lo
   have Hs2:Hid (∀ W,Gives Tryz.prog 84 #[.string (itx hi)] W (.int .i64 hi.sign)):=fun W=>sign_any W hi
   have c1:=sign_cases lo
   have c2:=sign_cases hi
   have hw:IntKind.i64.wrap ((n:Int) * 2)=((n * 2:Nat):Int):=by rw [show (n:Int) * 2=((n * 2:Nat):Int) by omega]; exact iw_ _ (by omega)
   by_cases h1:0≤lo
   ·have Hv:=hd_ (hlo h1)
    have h1':0≤lo.sign:=by omega
    generalize lo.sign=sl at *
    clear c1 c2 hlo hhi hlast Hs2 h1
    generalize itx lo=slo at *
    generalize itx hi=shi at *
    have B1:=Hb
    have K1:=Hk
    clear Hb Hk
    go_wp2_with fail
    refine cm_ (Hen.out) ?_
    rintro e w2 ⟨rfl,hb⟩
    have B2:=hd_ (B1.out.trans (hb.mono B1.out.size))
    have K2:=hd_ (heap_kept K1.out hb nr_)
    clear hb B1 K1
    go_wp2_with fail
    refine cm_ (Hs1.out _) ?_
    rintro e w3 ⟨rfl,hb⟩
    have B3:=hd_ (B2.out.trans (hb.mono B2.out.size))
    have K3:=hd_ (heap_kept K2.out hb nr_)
    clear hb B2 K2
    go_wp2_with fail
    rw [Exit.noGoto_ret]
    go_ret
    exact ⟨by rw [Hv.out]; rfl,B3.out⟩
   ·have h1':lo.sign < 0:=by omega
    by_cases h2:hi≤0
    ·have Hv:=hd_ (hhi h2)
     have h2':hi.sign≤0:=by omega
     generalize lo.sign=sl at *
     generalize hi.sign=sh at *
     clear c1 c2 hlo hhi hlast h1 h2
     generalize itx lo=slo at *
     generalize itx hi=shi at *
     have B1:=Hb
     have K1:=Hk
     clear Hb Hk
     go_wp2_with fail
     refine cm_ (Hen.out) ?_
     rintro e w2 ⟨rfl,hb⟩
     have B2:=hd_ (B1.out.trans (hb.mono B1.out.size))
     have K2:=hd_ (heap_kept K1.out hb nr_)
     clear hb B1 K1
     go_wp2_with fail
     refine cm_ (Hs1.out _) ?_
     rintro e w3 ⟨rfl,hb⟩
     have B3:=hd_ (B2.out.trans (hb.mono B2.out.size))
     have K3:=hd_ (heap_kept K2.out hb nr_)
     clear hb B2 K2
     go_wp2_with fail
     refine cm_ (Hs2.out _) ?_
     rintro e w4 ⟨rfl,hb⟩
     have B4:=hd_ (B3.out.trans (hb.mono B3.out.size))
     have K4:=hd_ (heap_kept K3.out hb nr_)
     clear hb B3 K3
     go_wp2_with fail
     rw [Exit.noGoto_ret]
     go_ret
     exact ⟨by rw [Hv.out]; rfl,B4.out⟩
    ·have h2':0 < hi.sign:=by omega
     have hn2:n * 2≤1024:=by
      rcases Hp.out with h | h | h | h | h
      ·omega
      ·omega
      ·omega
      ·omega
      ·have:=hlast h; omega
     have hp2:Hid (Pw (n * 2)):=by
      rcases Hp.out with h | h | h | h | h
      ·subst h; exact .inr (.inl rfl)
      ·subst h; exact .inr (.inr (.inl rfl))
      ·subst h; exact .inr (.inr (.inr (.inl rfl)))
      ·subst h; exact .inr (.inr (.inr (.inr rfl)))
      ·have:=hlast h; omega
     have hn0:0 < n:=by rcases Hp.out with h | h | h | h | h <;> omega
     generalize lo.sign=sl at *
     generalize hi.sign=sh at *
     clear c1 c2 hlo hhi hlast h1 h2
     generalize itx lo=slo at *
     generalize itx hi=shi at *
     have B1:=Hb
     have K1:=Hk
     clear Hb Hk
     go_wp2_with fail
     refine cm_ (Hen.out) ?_
     rintro e w2 ⟨rfl,hb⟩
     have B2:=hd_ (B1.out.trans (hb.mono B1.out.size))
     have K2:=hd_ (heap_kept K1.out hb nr_)
     clear hb B1 K1
     go_wp2_with fail
     refine cm_ (Hs1.out _) ?_
     rintro e w3 ⟨rfl,hb⟩
     have B3:=hd_ (B2.out.trans (hb.mono B2.out.size))
     have K3:=hd_ (heap_kept K2.out hb nr_)
     clear hb B2 K2
     go_wp2_with fail
     refine cm_ (Hs2.out _) ?_
     rintro e w4 ⟨rfl,hb⟩
     have B4:=hd_ (B3.out.trans (hb.mono B3.out.size))
     have K4:=hd_ (heap_kept K3.out hb nr_)
     clear hb B3 K3
     go_wp2_with fail
     go_roundw
     case rel=>exact ⟨n * 2,hp2,hn2,rfl,B4,K4⟩
     case measure=>simp [intOf]; omega
end Go.Proofs.YtnjedhgcfeoemaaGreatDoor

namespace Go.Proofs.YtnjedhgcfeoemaaGreatDoor
open Go.RowKit
theorem Good.trt {ps:List Int} {l:List Rat} (h:Good ps l):TrT (tlQ ps l):=trt_of h.pr h.nd
theorem compare_dec (w:World) (ps:List Int) (a0 a1 a2:Option Addr) (c0 c1 c2 D:Nat) (la lb:List Rat) (A:SizeOk w ps a0 a1 la D) (B:SizeOk w ps a0 a2 lb D) (L:Laid w) (hD:D≤400)
  (hq:Good ps (sumQ ps.length [la,lb] [1,-1])) :
  Gives Tryz.prog 108 #[.slice a0 ps.length c0,.slice a1 la.length c1,.slice a2 lb.length c2] w (.int .i64 (LN.sz ps (sumQ ps.length [la,lb] [1,-1]))):=by
 unfold Gives
 have HL:=hd_ L
 have HA:=hd_ A
 have HB:=hd_ B
 have HD:=hd_ hD
 have Hq:=hd_ hq
 have Hn:=hd_ A.n
 have Hr0:Hid (LN.sz ps (sumQ ps.length [la,lb] [1,-1])=LN.signT (tlQ ps (sumQ ps.length [la,lb] [1,-1]))):=hd_ rfl
 have Hnum1:Hid (∀ W,Below w.heap.size w W→Gives Tryz.prog 98 #[.int .i64 1] W (.agg #[.string (itx 1),.string (dec 1)])):=fun W hW=>number_any W 1 (by decide) (by decide) (HL.out.below hW)
 have Hnum2:Hid (∀ W,Below w.heap.size w W→Gives Tryz.prog 98 #[.int .i64 (-1)] W (.agg #[.string (itx (-1)),.string (dec 1)])):=fun W hW=>number_any W (-1) (by decide) (by decide) (HL.out.below hW)
 clear hq hD A B L
 obtain ⟨r,hr⟩:∃ r,LN.sz ps (sumQ ps.length [la,lb] [1,-1])=r:=⟨_,rfl⟩
 have Hsg:Hid (LN.signT (tlQ ps (sumQ ps.length [la,lb] [1,-1]))=r):=by show _=_; rw [← Hr0.out,hr]
 rw [hr]
 clear hr Hr0
 go_enter Tryz.func108,Tryz.ntmps108
 go_wp2_with fail
 have K1:=hd_ (heap_at w #[.slice a1 la.length c1,.slice a2 lb.length c2] 38 _ rfl)
 have B1:=hd_ ((Below.refl w.heap.size w).alloc nr_ (.cells #[.slice a1 la.length c1,.slice a2 lb.length c2] 38))
 generalize hw1:w.alloc (.cells #[.slice a1 la.length c1,.slice a2 lb.length c2] 38)=w1 at *
 clear hw1
 refine cm_ (Hnum1.out _ B1.out) ?_
 rintro e w2 ⟨rfl,hb⟩
 have K2:=hd_ (heap_kept K1.out hb nr_)
 have B2:=hd_ (B1.out.trans (hb.mono B1.out.size))
 clear hb
 go_wp2_with fail
 refine cm_ (Hnum2.out _ B2.out) ?_
 rintro e w3 ⟨rfl,hb⟩
 have K3:=hd_ (heap_kept K2.out hb nr_)
 have B3:=hd_ (B2.out.trans (hb.mono B2.out.size))
 clear hb
 go_wp2_with fail
 have K4:=hd_ (heap_old K3.out (.cells #[.string (itx 1),.string (dec 1),.string (itx (-1)),.string (dec 1)] 42))
 have B4:=hd_ (B3.out.alloc B3.out.size (.cells #[.string (itx 1),.string (dec 1),.string (itx (-1)),.string (dec 1)] 42))
 have M4:=hd_ (heap_at w3 #[.string (itx 1),.string (dec 1),.string (itx (-1)),.string (dec 1)] 42 _ rfl)
 generalize hw4:w3.alloc (.cells #[.string (itx 1),.string (dec 1),.string (itx (-1)),.string (dec 1)] 42)=w4 at *
 clear hw4
 have Hs:=hd_ (sum_pair w4 _ _ a1 a2 c1 c2 ps.length D la lb 1 (-1) K4.out M4.out (HA.out.below B4.out).rl (HB.out.below B4.out).rl HA.out.len HB.out.len HA.out.sm HB.out.sm Sm.one Sm.minus Hn.out HD.out (HL.out.below B4.out))
 refine cm_ Hs.out ?_
 rintro e w5 ⟨a5,c5,rfl,ho,hb⟩
 have Hr5:=hd_ ho.rd
 have B5:=hd_ (B4.out.trans (hb.mono B4.out.size))
 clear hb ho
 have S5:Hid (SizeOk w5 ps a0 a5 (sumQ ps.length [la,lb] [1,-1]) (2 * D + 5)) :=
  ⟨(HA.out.below B5.out).rp,Hr5.out,sum_pair_len HA.out.len HB.out.len,Hn.out,HA.out.pr,sum_pair_sm HA.out.sm HB.out.sm Sm.one Sm.minus,by have:=HD.out; omega⟩
 have Ht:=hd_ (terms_ok (c0:=c0) (c:=c5) S5.out (HL.out.below B5.out))
 go_wp2_with fail
 refine cm_ Ht.out ?_
 rintro e w6 ⟨b1,d1,b2,d2,rfl,T,hb⟩
 have B6:=hd_ (B5.out.trans (hb.mono B5.out.size))
 have Hg:Hid (Gives Tryz.prog 101 #[.agg (tcells b1 d1 b2 d2 (tlQ ps (sumQ ps.length [la,lb] [1,-1])).length (tden (sumQ ps.length [la,lb] [1,-1])))] w6 (.int .i64 r)):=by
  rw [← Hsg.out]; exact sign_dec w6 b1 b2 d1 d2 _ 101 _ T Hq.out.trt (by decide) Hq.out.lt (Hq.out.dec Hn.out) (HL.out.below B6.out)
 clear hb T
 go_wp2_with fail
 refine cm_ Hg.out ?_
 rintro e w7 ⟨rfl,hb⟩
 have B7:=hd_ (B6.out.trans (hb.mono B6.out.size))
 clear hb
 go_wp2_with fail
 go_ret
 exact ⟨rfl,B7.out⟩
theorem Compare_dec (w:World) (ps:List Int) (a0 a1 a2:Option Addr) (c0 c1 c2:Nat) (la lb:List Rat) (A:SizeOk w ps a0 a1 la 30) (B:SizeOk w ps a0 a2 lb 30) (hp:pcode ps=0) (L:Laid w)
  (hq:Good ps (sumQ ps.length [la,lb] [1,-1])) :
  Gives Tryz.prog 40 #[.slice a0 ps.length c0,.slice a1 la.length c1,.slice a2 lb.length c2] w (.tuple #[.int .i64 (LN.sz ps (sumQ ps.length [la,lb] [1,-1])),.int .i64 0]):=by
 unfold Gives
 have Hc:Hid (∀ W,Below w.heap.size w W→Gives Tryz.prog 108 #[.slice a0 ps.length c0,.slice a1 la.length c1,.slice a2 lb.length c2] W (.int .i64 (LN.sz ps (sumQ ps.length [la,lb] [1,-1])))):=fun W hW =>
  compare_dec W ps a0 a1 a2 c0 c1 c2 30 la lb (A.below hW) (B.below hW) (L.below hW) (by decide) hq
 have Hk:Hid (∀ W g,Below w.heap.size w W→W.heap[g]?=some (.cells #[.slice a1 la.length c1,.slice a2 lb.length c2] 38 (0,0))→Gives Tryz.prog 107 #[.slice a0 ps.length c0,.slice (some ⟨g,0,none⟩) 2 2] W (.int .i64 0)):=fun W g hW hg =>
  checkAll_two W ps g a0 a1 a2 c0 c1 c2 la lb (A.below hW) (B.below hW) hp (L.below hW) hg
 clear A B hp L hq
 generalize LN.sz ps (sumQ ps.length [la,lb] [1,-1])=r at *
 go_enter Tryz.func40,Tryz.ntmps40
 go_wp2_with fail
 have B1:=hd_ ((Below.refl w.heap.size w).alloc nr_ (.cells #[.slice a1 la.length c1,.slice a2 lb.length c2] 38))
 refine cm_ (Hk.out _ _ B1.out (heap_at w _ _ _ rfl)) ?_
 rintro e w1 ⟨rfl,hb⟩
 have B2:=hd_ (B1.out.trans (hb.mono B1.out.size))
 clear hb Hk B1
 go_wp2_with fail
 refine cm_ (Hc.out _ B2.out) ?_
 rintro e w2 ⟨rfl,hb⟩
 have B3:=hd_ (B2.out.trans (hb.mono B2.out.size))
 clear hb Hc
 go_wp2_with fail
 go_ret2
 exact ⟨rfl,B3.out⟩
end Go.Proofs.YtnjedhgcfeoemaaGreatDoor

namespace Go.Proofs.YtnjedhgcfeoemaaGreatDoor.LN
def certUA:List (List Int):=[[-366529374168471219660881757358854260481923030538463758512084751101165368965868765205518464276730954796387849320760092003290978986056594420337668804669660390847296384235094022086060948701662963664934088,-580935313469820489357723708887992875975689317799722319968227917127004220401059446167908003738785161849085057587212055801154189465721391265515547715657450481761809163011041834238441228669635065435171806,-851054851483255579986619935921254623946135405184991169839844036714179802753564227536018136581505010985024626073713747935726101681220476643360310109292342860397445298392796570176857912662379824214212428,-1028978042650550933180557961791804634001687170962595617951843945534299615961811396215365672195135717430497342047021033550456041299722351370459721079097633451186518552531381815947617167080378348777188427,-1267983306157749960491913991920202373914735078848290751537723188288310121539334060048543157182367081618594539795290234456246801447720245906387734928146856258237643822140566901866332816390400807879641334,-1356319854038408545823350647938967626976607133879995615741509594652744283164889573336582873328136688637698168278195208207533495601294393541238278375020123336023081647326330565528757662434961234144641163],[-1718401069850792460240258230821930567214047360477444484934168160760012536549082670317841794151605935601205277948056466224498914201930188615215741543655963695297701916056210109851007922408846622017843562,-2723601256912622198503167503332459736128246855944626649426607748060259403045308583053870784798624560976981875108908514926538800755743190605637005632377802276333319754542104865226360301007933135917855169,-3990003722371055809520901552035376433894268408214365745214896102329202389552955187024376099031880904240019660858445649326443356377196996730595942050104985656218249469868625414473711957139195741302739258,-4824161701514674978712058317335834309400755952858694762671616454297815660206694830177371412360521397384815585960113298220525055095282039434754004909626449183004703142693475869417555563356162338732285081,-5944690994541990266177117237309050550368317444862611835426988555586185975139002038425391466444839954944863971795983536494006501040385684161540190197774991607031374590079536027927069987737796836055527690,-6358839570572017673021429855441932654144869871150536294632504974800951077226243229323792743102336939886825614906779487053485218442474456432475274228831461944927853673435067313883192377527780696898853122],[2523054275763633756034117596825892211814980148994729313794263473670261462212204104655381420441413811102291135532002341973597593237103962243622476518678388482336475121962354397311002582075781208526021593,3998946414369534554158456072351422329968508384263181734534688376670806948524961517536443060219466684749729045098283420529383308189167277051416112571277064215454815005801009005907958806763715392444027670,5858350607821267887608226095426036601271642659323424343596626521506610662566618874316532993472510720648050760209759367205803530267170815420885060596236821595906164786000829539360421620296390717393288930,7083108839683520823190735676565485861166419213118995858267469929887991984345794266118589113371168493558414375877153442850437415237741587171371282477055018145989399262972525725951687891903992275484282339,8728333737114741277382759585969961574857860234185406047877598745479532283551635093967510453932218178748264460611292734029153943592996777844600946202606138641690999572165951471790700040770702500083747401,9336410253061458309400077518464479089480315893657746156725053413936599589892662611396941200344431417059104407757984973895188286553835687051219124092419118149191569419748171610942384190881317723705500861],[1648290219614100417935338380391359245499167092472603052851181057888891680409718999047683882798501106931900232457638242696169114297122147415982828022127943019750446415919608776968407214443049758943896568,2612478188393788314366288172447008732397654643362646396239248686791722033388758241920166975558146253746710293486030372165738144955445552308701562221172348092719223373053815140046817653809939663554802259,3827211369450040278189656245547424022973785665101318384514513270336551658803658233459689743981087506037705438655623898566371701170691650076742057214228549851912026966442003408837539734079986401364711731,4627335661013054035799227122073431035040091964127323044919864061684443676406963280356332329787681184927699497000482765122532743073776461832653135794328566131665321262960788706285665641749713247664483274,5702147302423633578812835607984017162296119582935116277611003407812212003468587398654336614715925469516932332607899071756663398094397466688854135259574919324582738688462558509849853122464532656452099247,6099398595683520647414615910023799230001578433837547879649011536816074359124278454913021831959621412198174909087366118567982698705474547013239627116425011695873380779785225975580687426804065798605029545],[-2081359363911009964232050833377229255150589631552976619622594890552243909232856777020653185145124345364611221533836759295962814276631121585431974770983709168817096764157605324806571044877031493185919446,-3298876542323789301545188838412069873122606472101882125392993792200873393289956339261164915647668777334051699542631404373831349967668082542960664481491008082901933495539346809129393318201353755780806478,-4832766782621863683786282360417470411567844028077479483690219658019191554675172566244827891408399461064200397984724078921001031843470650652499700223762653104157384687293120669236469732237850165630460539,-5843114454846257841501970590675282408284598925631530229223817892102074059922047843781580167138991132163659748299662602940766513499394001801104644241771165566836046835526041725661290253861502869956807133,-7200320393260560620362743964482738140129661136579283523697833573270546562672764136247395874477639683654562086331697381360266302964420530853136884262453181748296071170287219328926377553217524590274630310,-7701944857941180578354380449714675677093345005216541905874729650660631859896131092119032083366831011973981538842921251665414236579013882275351030112414548486055649663621767711909419820154940743662071584],[-3027041613133531992803828667403620014182872940975299778990376438873134232672969793644745090975477284630252379638749645424550759122546026644205584270923790233623239539961228411504855529682849070065884640,-4797747444939125471973282334060742388594829436083820187091964198553023672645508821667047381033552419333201950966634736335686480046834516621362644577977179841690341948883025966327290614968640744463019982,-7028572965927910060470345716924058757256892197548999776416305228901067563866468687612919973137735167951488821414200113187810668159367983719815860749969833895270983239839015112770576925967393932361132229,-8497980171903610913556553087070615453620725175261006975900336989781831474863821489668118733602857865424132030713306445006776527237856762131537873446004564481394851533715639340871236094669778169930865883,-10471843467404989946371407102633040832090113055138551993947426613871414557518549089739018805997777303342483304318745110349439135422090417452194435476870511549864075631383898003692857338665528684942265076,-11201385013705204064603040597674147807439825268295585818685322442379692939809003813858307194576318018694233470004123675640431084701175604069838247259970648119673435757713353826683249252538472722215285359]]
def certVA:List (List Int):=[[-58511276111547751058168340505158583244481,-12917127164239769595412160054276741078749,8119370437989125804172669197469859570767,-32879729998891917400085655941464628942717,-75088223772348561039095337994745480464340,54911289762118827524876671098812005678557],[6588341751174671131037557833380308099751,19726274763795916871828877104191073712815,4292762141734063785937090246465369495956,417898744252221810430174663152082810426,-9455208260428995524944155879460438855487,-1689139612388653139919800730624489733811],[207434427815531667652808356861907749609,6308798339842725333695468720600261156270,10854568364980320818740970307916580266740,8950868240922710932565128104522310963886,12585653403184345436959143342541602019176,1661011032111891872176625980829274361741],[4121061610838069244392956914742633778165,-4652926719185522981882508694327945998400,-13785355387455489946853221741023099690914,16298363115007132632408508115631225727646,933150251415826560021310299270902609041,-1114581383711958247797221448389517335997],[-12921692917413360408764856356378142461600,2416717437086177329125143444123825030131,-5630958495640984204460423177058035115542,-8717679415302532043971337145211999675181,9895116286354708238555547111964592434534,-16051474868078554108559107000437081914455],[21813565485209550244542259630564024934278,-7646363369989309612689812812616083868684,4878754374016373159535427357903662319758,-1124993433517499239813487816370622082312,6485777852877863067301668975571185203977,693752746741528719277279537474047493357]]
def KA:Nat:=2 ^ 130
def SA:Nat:=2 ^ 354
theorem certA_ok:certOk (2 ^ 1024) certL certUA certVA 1 KA SA=true:=by decide +kernel
end Go.Proofs.YtnjedhgcfeoemaaGreatDoor.LN

namespace Go.Proofs.YtnjedhgcfeoemaaGreatDoor
open Go.RowKit
theorem ends_near (f:Int→Nat) (K:Nat) (l:List (Int×Int)) (h:∀ x∈l,x.2.natAbs≤K) :
  LN.eLo f l≤LN.sumT f l∧LN.sumT f l≤LN.eHi f l∧LN.eHi f l≤LN.sumT f l + (l.length * K:Nat)∧LN.sumT f l≤LN.eLo f l + (l.length * K:Nat):=by
 have h1:=LN.hiS_le f K l h
 have h2:=LN.hiS_le f K (LN.negT l) (by
  intro x hx
  obtain ⟨y,hy,rfl⟩:=List.mem_map.1 hx
  have:=h y hy
  show (-y.2).natAbs≤K
  omega)
 have e:(LN.negT l).length=l.length:=by simp [LN.negT]
 rw [e] at h2
 have h3:∀ l:List (Int×Int),LN.loS f l≤LN.hiS f l:=by
  intro l
  induction l with
  | nil=>exact Nat.le_refl _
  | cons x l ih =>
   rw [LN.loS,LN.hiS]
   refine Nat.add_le_add (Nat.mul_le_mul_left _ ?_) ih
   unfold LN.hiL; split <;> omega
 have h4:=h3 l
 have h5:=h3 (LN.negT l)
 rw [LN.eLo_eq,LN.eHi_eq,LN.sumT_eq]
 omega
end Go.Proofs.YtnjedhgcfeoemaaGreatDoor

namespace Go.Proofs.YtnjedhgcfeoemaaGreatDoor
open Go.RowKit
theorem primesL_small:∀ k,k < 10→(∀ p∈primesL k,p∈smallP)∧(primesL k).Nodup:=by decide +kernel
theorem smallP_pos {ps:List Int} (h:∀ p∈ps,p∈smallP):∀ p∈ps,0 < p:=fun p hp=>by
 have key:∀ q∈smallP,0 < q:=by decide
 exact key p (h p hp)
theorem Sml.good {N M:Nat} {ps:List Int} {l:List Rat} (hM:0 < M) (h:Sml N M l) (hN:N≤Kb) (h1:∀ p∈ps,p∈smallP) (h2:ps.Nodup):Good ps l:=by
 refine Good.small h1 h2 fun x hx=>?_
 obtain ⟨_,q,hq,_,he⟩:=tlist_mem hx
 have e:x.2=LN.ex (tden l) q:=he
 obtain ⟨m,hm⟩:=LN.tden_min (fun q hq=>(h q hq).1)
 have h3:=(h q hq).2
 rw [hm,Nat.mul_comm,LN.ex_mul (LN.tden_dvd hq),Int.natAbs_mul,Int.natAbs_natCast] at h3
 have hm0:0 < m:=by
  rcases Nat.eq_zero_or_pos m with h0 | h0
  ·rw [h0,Nat.mul_zero] at hm; omega
  ·exact h0
 rw [e]
 have h4:1 * (LN.ex (tden l) q).natAbs≤m * (LN.ex (tden l) q).natAbs:=Nat.mul_le_mul_right _ hm0
 omega
def difQ (la lb:List Rat):List Rat:=combineQ la lb ((1:Int):Rat) ((-1:Int):Rat)
theorem difQ_length (la lb:List Rat) (h:la.length=lb.length):(difQ la lb).length=la.length:=combineQ_length _ _ _ _ h
end Go.Proofs.YtnjedhgcfeoemaaGreatDoor

namespace Go.Proofs.YtnjedhgcfeoemaaGreatDoor
open Go.RowKit
theorem smallP_nd:smallP.Nodup:=by decide
theorem sum_far' {a dd:Int} {U V:List (List Int)} {K S:Nat} (hb:LN.certOk a LN.certL U V dd K S=true) {ty:List (Int×Int)} (my:∀ x∈ty,x.1∈smallP) (ny:(ty.map Prod.fst).Nodup) (h0:∀ x∈ty,x.2≠0) (hne:ty≠[]) (hky:∀ x∈ty,x.2.natAbs≤K):S≤(LN.sumT (lf 1024) ty).natAbs:=by
 refine Nat.le_of_not_lt fun hc=>?_
 rw [← certL_eq] at hb
 rw [← LN.dotI_coef (lf 1024) smallP smallP_nd ty my] at hc
 have hz:=LN.cert_zero hb (smallP.map fun p=>LN.coefP p ty) (by simp) (by
  intro x hx
  obtain ⟨p,_,rfl⟩:=List.mem_map.1 hx
  exact LN.coefP_le _ ty ny hky p) hc
 match ty,hne with
 | x :: l,_ =>
  have h5:=hz _ (List.mem_map.2 ⟨x.1,my x List.mem_cons_self,rfl⟩)
  rw [LN.coefP_mem _ ny x List.mem_cons_self] at h5
  exact h0 x List.mem_cons_self h5
end Go.Proofs.YtnjedhgcfeoemaaGreatDoor

namespace Go.Proofs.YtnjedhgcfeoemaaGreatDoor
open Go.RowKit
def RB:Nat:=2 ^ 104
theorem tlQ_ne {ps:List Int} {l:List Rat} (hl:l.length=ps.length) (h:∃ q∈l,q≠0):tlQ ps l≠[]:=by
 obtain ⟨q,hq,h0⟩:=h
 obtain ⟨i,hi,rfl⟩:=List.mem_iff_getElem.1 hq
 intro e
 have hm:(ps[i]'(by omega),l[i].num * ((tden l / l[i].den:Nat):Int))∈tlQ ps l:=by
  unfold tlQ tlist
  refine List.mem_filterMap.2 ⟨(ps[i]'(by omega),l[i]),?_,?_⟩
  ·exact List.mem_iff_getElem.2 ⟨i,by simp; omega,by simp⟩
  ·rw [if_neg]
   intro hz
   exact h0 (Rat.num_eq_zero.1 hz)
 rw [e] at hm
 cases hm
end Go.Proofs.YtnjedhgcfeoemaaGreatDoor

namespace Go.Proofs.YtnjedhgcfeoemaaGreatDoor
open Go.RowKit
theorem ex_one (x:Int):LN.ex 1 (x:Rat)=x:=by
 unfold LN.ex
 rw [Rat.num_intCast,Rat.den_intCast]
 simp
end Go.Proofs.YtnjedhgcfeoemaaGreatDoor

namespace Go.Proofs.YtnjedhgcfeoemaaGreatDoor
open Go.RowKit
def subI (x y:List Int):List Int:=List.zipWith (fun a b=>a - b) x y
theorem Bd.sml {N:Nat} {x:List Int} (h:Bd N x):Sml N 1 (rq x):=fun q hq=>by
 obtain ⟨a,ha,rfl⟩:=List.mem_map.1 hq
 refine ⟨by rw [Rat.den_intCast]; exact Nat.dvd_refl 1,?_⟩
 rw [ex_one]
 exact h a ha
theorem Bd.sub {N K:Nat} {x y:List Int} (h:Bd N x) (k:Bd K y):Bd (N + K) (subI x y):=fun a ha=>by
 obtain ⟨i,hi,rfl⟩:=List.mem_iff_getElem.1 ha
 have hi':i < x.length∧i < y.length:=by simp [subI] at hi; omega
 simp only [subI,List.getElem_zipWith]
 have h1:=h _ (List.getElem_mem hi'.1)
 have h2:=k _ (List.getElem_mem hi'.2)
 omega
theorem Sml.goodA {N M:Nat} {ps:List Int} {l:List Rat} (hM:0 < M) (h:Sml N M l) (hN:N≤Ke) (P:PrOk ps):Good ps l :=
 Good.all P.all P.nd fun x hx=>Nat.le_trans (h.kb hM x hx) hN
theorem Bd.good {N:Nat} {x ps:List Int} (h:Bd N x) (hN:N≤Ke) (P:PrOk ps):Good ps (rq x):=(h.sml).goodA (by decide) hN P
end Go.Proofs.YtnjedhgcfeoemaaGreatDoor

namespace Go.Proofs.YtnjedhgcfeoemaaGreatDoor
open Go.RowKit
theorem densL_dvd:∀ d,d < 6→0 < densL d∧densL d ∣ 12:=by decide
theorem rat_one_int:((1:Int):Rat)=1:=rfl
theorem rat_mone_int:((-1:Int):Rat) = -1:=by decide +kernel
theorem fracQ_twelve (n:Int) (d:Nat):∃ z:Int,fracQ n d * ((12:Nat):Rat)=(z:Rat)∧z.natAbs≤480:=by
 obtain ⟨h1,m,hm⟩:=densL_dvd (d % 6) (Nat.mod_lt _ (by decide))
 have t1:=Int.tmod_lt_of_pos n (show (0:Int) < 41 by decide)
 have t2:=Int.lt_tmod_of_pos n (show (0:Int) < 41 by decide)
 refine ⟨n.tmod 41 * m,?_,?_⟩
 ·unfold fracQ
  have e:=mkRat_mul_den (n.tmod 41) (densL (d % 6)) h1
  rw [hm,Rat.natCast_mul,← Rat.mul_assoc,e,Rat.intCast_mul,Rat.intCast_natCast]
 ·have hm2:m≤12:=by
   have:1 * m≤densL (d % 6) * m:=Nat.mul_le_mul_right _ h1
   omega
  rw [Int.natAbs_mul,Int.natAbs_natCast]
  exact Nat.le_trans (Nat.mul_le_mul (show (n.tmod 41).natAbs≤40 by omega) hm2) (by decide)
theorem partsQ_sml (nu:Nat→Int) (de:Nat→Nat) (m:Nat):Sml 480 12 (partsQ nu de m):=by
 intro q hq
 obtain ⟨i,_,rfl⟩:=List.mem_map.1 hq
 obtain ⟨z,h,hz⟩:=fracQ_twelve (nu i) (de i)
 obtain ⟨r1,r2⟩:=ex_den z (by decide) h
 exact ⟨r1,by rw [r2]; exact hz⟩
theorem cmp_ok {W:World} {ps:List Int} {a0 a1 a2:Option Addr} (c0 c1 c2:Nat) {la lb:List Rat} (hp:pcode ps=0) (h13:∀ p∈ps,2≤p∧p≤13) (hn:ps.length≤100) (rp:Rd W a0 (ints ps)) (r1:Rd W a1 (cellsQ la)) (r2:Rd W a2 (cellsQ lb))
  (l1:la.length=ps.length) (l2:lb.length=ps.length) (s1:∀ q∈la,Sm 30 q) (s2:∀ q∈lb,Sm 30 q) (g:Good ps (difQ la lb)) (L:Laid W) :
  Gives Tryz.prog 40 #[.slice a0 ps.length c0,.slice a1 ps.length c1,.slice a2 ps.length c2] W (.tuple #[.int .i64 (LN.sz ps (difQ la lb)),.int .i64 0]):=by
 have e:sumQ ps.length [la,lb] [1,-1]=difQ la lb:=by
  rw [sumQ_two _ _ _ _ _ l1 l2]
  unfold difQ
  rw [rat_one_int,rat_mone_int]
 have h97:∀ p∈ps,2≤p∧p≤97:=fun p hp=>by have:=h13 p hp; omega
 have h:=Compare_dec W ps a0 a1 a2 c0 c1 c2 la lb ⟨rp,r1,l1,hn,h97,s1,by decide⟩ ⟨rp,r2,l2,hn,h97,s2,by decide⟩ hp L (by rw [e]; exact g)
 rw [e,l1,l2] at h
 exact h
theorem pow_kb {a:Nat} (h:a≤1000000000):a≤Kb:=by
 have:(1000000000:Nat)≤Kb:=by decide
 omega
end Go.Proofs.YtnjedhgcfeoemaaGreatDoor

namespace Go.Proofs.YtnjedhgcfeoemaaGreatDoor
open Go.RowKit
theorem tlistE_cons (D:Nat) (p:Int) (ps:List Int) (c:Rat) (l:List Rat):tlist D (p :: ps) (c :: l)=if c.num=0 then tlist D ps l else (p,LN.ex D c) :: tlist D ps l:=by
 unfold tlist LN.ex
 rw [List.zip_cons_cons,List.filterMap_cons]
 by_cases h:c.num=0
 ·simp [h]
 ·simp [h]
theorem eLo_cons (f:Int→Nat) (x:Int×Int) (l:List (Int×Int)):LN.eLo f (x :: l)=(if x.2 < 0 then x.2 * (LN.hiL f x.1:Int) else x.2 * (f x.1:Int)) + LN.eLo f l:=by
 unfold LN.eLo; rw [List.map_cons,List.sum_cons]
theorem eHi_cons (f:Int→Nat) (x:Int×Int) (l:List (Int×Int)):LN.eHi f (x :: l)=(if x.2 < 0 then x.2 * (f x.1:Int) else x.2 * (LN.hiL f x.1:Int)) + LN.eHi f l:=by
 unfold LN.eHi; rw [List.map_cons,List.sum_cons]
theorem ends_rat {D:Nat} (hD:0 < D) (n:Nat):∀ (ps:List Int) (l:List Rat),(∀ q∈l,q.den ∣ D) →
  ((LN.eLo (lf n) (tlist D ps l):Int):Rat)=loE n ps l * D * 2 ^ n∧((LN.eHi (lf n) (tlist D ps l):Int):Rat)=hiE n ps l * D * 2 ^ n
 | [],_,_=>by
  simp [tlist,LN.eLo,LN.eHi,loE,hiE,Rat.zero_mul]
 | _ :: _,[],_=>by
  simp [tlist,LN.eLo,LN.eHi,loE,hiE,Rat.zero_mul]
 | p :: ps,c :: l,h=>by
  obtain ⟨i1,i2⟩:=ends_rat hD n ps l fun q hq=>h q (List.mem_cons_of_mem _ hq)
  have hc:=LN.ex_eq (h c List.mem_cons_self)
  have hx:xE p n * 2 ^ n=((lf n p:Nat):Rat):=xE_mul p n
  have hy:=yE_mul p n
  have hxy:=xE_le_yE p n
  rw [tlistE_cons]
  simp only [loE,hiE]
  by_cases h0:c.num=0
  ·rw [if_pos h0,i1,i2]
   have c0:c=0:=Rat.num_eq_zero.1 h0
   obtain ⟨m1,m2⟩:=min_pos hxy (show (0:Rat)≤c by rw [c0]; decide)
   rw [m1,m2,c0,Rat.zero_mul,Rat.zero_mul,Rat.zero_add,Rat.zero_add]
   exact ⟨rfl,rfl⟩
  ·rw [if_neg h0,eLo_cons,eHi_cons]
   dsimp only
   have hDr:(0:Rat) < (D:Rat):=Rat.natCast_pos.2 hD
   by_cases hn:LN.ex D c < 0
   ·have cn:c < 0:=by
     have:((LN.ex D c:Int):Rat) < 0:=by rw [← Rat.intCast_zero]; exact Rat.intCast_lt_intCast.2 hn
     rw [hc] at this
     refine Rat.not_le.1 fun h=>?_
     have:=Rat.mul_nonneg h (Rat.le_of_lt hDr)
     grind
    obtain ⟨m1,m2⟩:=min_neg hxy cn
    rw [if_pos hn,if_pos hn,m1,m2,Rat.intCast_add,Rat.intCast_add,i1,i2,Rat.intCast_mul,Rat.intCast_mul,hc,Rat.intCast_natCast,Rat.intCast_natCast,← hx,← hy]
    constructor <;> grind
   ·have cp:0≤c:=by
     refine Rat.not_lt.1 fun h=>hn ?_
     have h1:c * D < 0:=by
      have:=Rat.mul_pos (show (0:Rat) < -c by grind) hDr
      grind
     rw [← hc,← Rat.intCast_zero] at h1
     exact Rat.intCast_lt_intCast.1 h1
    obtain ⟨m1,m2⟩:=min_pos hxy cp
    rw [if_neg hn,if_neg hn,m1,m2,Rat.intCast_add,Rat.intCast_add,i1,i2,Rat.intCast_mul,Rat.intCast_mul,hc,Rat.intCast_natCast,Rat.intCast_natCast,← hx,← hy]
    constructor <;> grind
end Go.Proofs.YtnjedhgcfeoemaaGreatDoor

namespace Go.Proofs.YtnjedhgcfeoemaaGreatDoor
open Go.RowKit
theorem lgN_at_all {n:Nat} (hn:n≤1056) {p:Int} (hp:p∈allP):LN.LogAt n p (lgN p n):=by
 obtain ⟨q,rfl,hq⟩:=allP_pr hp
 exact lgN_at hq hn
theorem tlQ_log {n:Nat} (hn:n≤1056) {ps:List Int} {l:List Rat} (h1:∀ p∈ps,p∈allP):∀ x∈tlQ ps l,LN.LogAt n x.1 ((lf n) x.1):=fun x hx=>by
 have h:=(tlist_fst (tden l) ps l).subset (List.mem_map.2 ⟨x,hx,rfl⟩)
 exact lgN_at_all hn (h1 _ h)
theorem tlQ_nodup {ps:List Int} {l:List Rat} (h2:ps.Nodup):((tlQ ps l).map Prod.fst).Nodup:=(tlist_fst (tden l) ps l).nodup h2
theorem ends_int (n:Nat) (ps:List Int) (l:List Rat):(0≤loE n ps l↔0≤LN.eLo (lf n) (tlQ ps l))∧(hiE n ps l≤0↔LN.eHi (lf n) (tlQ ps l)≤0):=by
 have hD:=LN.tden_pos' l
 obtain ⟨e1,e2⟩:=ends_rat hD n ps l fun q hq=>LN.tden_dvd hq
 have hDr:(0:Rat) < (tden l:Rat):=Rat.natCast_pos.2 hD
 have h2:=two_pow_pos_rat n
 have hc:(0:Rat) < (tden l:Rat) * 2 ^ n:=Rat.mul_pos hDr h2
 rw [Rat.mul_assoc] at e1 e2
 unfold tlQ
 generalize (tden l:Rat) * 2 ^ n=c at *
 refine ⟨⟨fun h=>?_,fun h=>?_⟩,⟨fun h=>?_,fun h=>?_⟩⟩
 ·have h3:=Rat.mul_nonneg h (Rat.le_of_lt hc)
  rw [← e1,← Rat.intCast_zero] at h3
  exact Rat.intCast_le_intCast.1 h3
 ·refine Rat.not_lt.1 fun h3=>?_
  have h4:=Rat.mul_pos (show 0 < -loE n ps l by grind) hc
  have h5:((0:Int):Rat)≤_:=Rat.intCast_le_intCast.2 h
  rw [e1,Rat.intCast_zero] at h5
  grind
 ·have h3:=Rat.mul_nonneg (show 0 ≤ -hiE n ps l by grind) (Rat.le_of_lt hc)
  have h4:hiE n ps l * c≤0:=by grind
  rw [← e2,← Rat.intCast_zero] at h4
  exact Rat.intCast_le_intCast.1 h4
 ·refine Rat.not_lt.1 fun h3=>?_
  have h4:=Rat.mul_pos h3 hc
  have h5:_≤((0:Int):Rat):=Rat.intCast_le_intCast.2 h
  rw [e2,Rat.intCast_zero] at h5
  grind
theorem loE_sign {n:Nat} (hn:n≤1056) {ps:List Int} {l:List Rat} (h1:∀ p∈ps,p∈allP) (h2:ps.Nodup) (hne:tlQ ps l≠[]) (h:0≤loE n ps l):LN.sz ps l=1:=by
 have h3:=(ends_int n ps l).1.1 h
 rw [LN.eLo_eq] at h3
 exact LN.sign_low n _ (tlQ ps l) (tlQ_log hn h1) (fun x hx=>tlQ_nz hx) hne (tlQ_nodup h2) (by omega)
theorem hiE_sign {n:Nat} (hn:n≤1056) {ps:List Int} {l:List Rat} (h1:∀ p∈ps,p∈allP) (h2:ps.Nodup) (hne:tlQ ps l≠[]) (h:hiE n ps l≤0):LN.sz ps l = -1:=by
 have h3:=(ends_int n ps l).2.1 h
 rw [LN.eHi_eq] at h3
 exact LN.sign_high n _ (tlQ ps l) (tlQ_log hn h1) (fun x hx=>tlQ_nz hx) hne (tlQ_nodup h2) (by omega)
theorem decE_sign {n:Nat} (hn:n≤1056) {ps:List Int} {l:List Rat} (h1:∀ p∈ps,p∈allP) (h2:ps.Nodup) (hne:tlQ ps l≠[]) (h:decE n ps l≠0):decE n ps l=LN.sz ps l:=by
 unfold decE at h ⊢
 split at h
 ·rename_i c
  rw [if_pos c,loE_sign hn h1 h2 hne c]
 ·rename_i c
  rw [if_neg c]
  split at h
  ·rename_i c2
   rw [if_pos c2,hiE_sign hn h1 h2 hne c2]
  ·exact absurd rfl h
end Go.Proofs.YtnjedhgcfeoemaaGreatDoor

namespace Go.Proofs.YtnjedhgcfeoemaaGreatDoor
open Go.RowKit
theorem Ins.stop {c:Nat→Nat→Int} {n i j:Nat} {F:Nat→Nat} (h:Ins c n i j F) (hs:j=0∨0≤c (F j) (F (j - 1))):Srt c n (i + 1) F:=by
 refine ⟨h.lt,h.inj,fun k h1 h2=>h.hi k (by omega) h2,fun k hk=>Nat.lt_succ_of_le (h.lo k (by omega)),fun k hk=>?_⟩
 have hji:=h.ji
 have hn:=h.n
 rcases Nat.lt_trichotomy (k + 1) j with h1 | h1 | h1
 ·exact h.a1 k h1
 ·rcases hs with h0 | h0
  ·omega
  ·have e:j - 1=k:=by omega
   rw [e] at h0
   rw [h1]
   refine ⟨h0,fun _=>?_⟩
   have hx:=h.x
   have h2:=h.lo k (by omega)
   have h3:F k≠F j:=fun e=>by have:=h.inj k j (by omega) (by omega) e; omega
   omega
 ·rcases Nat.lt_or_ge j k with h2 | h2
  ·exact h.a2 k h2 (by omega)
  ·have e:k=j:=by omega
   subst e
   rw [h.x]
   exact h.a4 (by omega)
end Go.Proofs.YtnjedhgcfeoemaaGreatDoor

namespace Go.Proofs.YtnjedhgcfeoemaaGreatDoor
open Go.RowKit
theorem cellsB_length (l:List (Int×Int×ByteArray)):(cellsB l).length=l.length * 3:=by
 unfold cellsB
 induction l with
 | nil=>rfl
 | cons x l ih=>rw [List.flatMap_cons,List.length_append,ih,List.length_cons]; simp; omega
theorem bndL_le (n:Nat) (ps:List Int) (l:List Rat):(bndL n ps l).length≤ps.length:=by
 unfold bndL
 refine Nat.le_trans (List.length_filterMap_le _ _) ?_
 rw [List.length_zip]; omega
end Go.Proofs.YtnjedhgcfeoemaaGreatDoor

namespace Go.Proofs.YtnjedhgcfeoemaaGreatDoor
open Go.RowKit
theorem sumT_cut {n d K:Nat} (hd:n + d≤1056):∀ tl:List (Int×Int),(∀ x∈tl,x.1∈allP)→(∀ x∈tl,x.2.natAbs≤K) →
  (LN.sumT (lf (n + d)) tl - 2 ^ d * LN.sumT (lf n) tl).natAbs≤tl.length * (K * 2 ^ d)
 | [],_,_=>by simp [LN.sumT]
 | x :: tl,h,hk=>by
  have ih:=sumT_cut hd tl (fun y hy=>h y (List.mem_cons_of_mem _ hy)) (fun y hy=>hk y (List.mem_cons_of_mem _ hy))
  have hx:=hk x List.mem_cons_self
  obtain ⟨q,hq,hq2⟩:=allP_pr (h x List.mem_cons_self)
  have hc:=lgN_cut hq2 d (n:=n) hd
  have hm:=Nat.div_add_mod (lgN (q:Int) (n + d)) (2 ^ d)
  have hlt:=Nat.mod_lt (lgN (q:Int) (n + d)) (Nat.two_pow_pos d)
  rw [hc] at hm
  generalize hr:lgN (q:Int) (n + d) % 2 ^ d=r at *
  have e:LN.sumT (lf (n + d)) (x :: tl) - 2 ^ d * LN.sumT (lf n) (x :: tl)=x.2 * (r:Int) + (LN.sumT (lf (n + d)) tl - 2 ^ d * LN.sumT (lf n) tl):=by
   simp only [LN.sumT]
   have e1:((lf (n + d) x.1:Nat):Int)=2 ^ d * ((lf n x.1:Nat):Int) + (r:Int):=by
    unfold lf
    rw [hq,← hm,Int.natCast_add,Int.natCast_mul,Int.natCast_pow]; rfl
   rw [e1]
   grind
  rw [e,List.length_cons,Nat.succ_mul]
  have h1:(x.2 * (r:Int)).natAbs≤K * 2 ^ d:=by
   rw [Int.natAbs_mul,Int.natAbs_natCast]
   exact Nat.mul_le_mul hx (Nat.le_of_lt hlt)
  have h2:=Int.natAbs_add_le (x.2 * (r:Int)) (LN.sumT (lf (n + d)) tl - 2 ^ d * LN.sumT (lf n) tl)
  omega
theorem near_small {T1 T0:Int} {m W K:Nat} (h:(T1 - m * T0).natAbs≤W) (h0:T0.natAbs≤K):T1.natAbs≤W + m * K:=by
 have h1:((m:Int) * T0).natAbs≤m * K:=by
  rw [Int.natAbs_mul,Int.natAbs_natCast]; exact Nat.mul_le_mul_left _ h0
 have h2:T1.natAbs≤(T1 - m * T0).natAbs + ((m:Int) * T0).natAbs:=by
  have:=Int.natAbs_add_le (T1 - m * T0) (m * T0)
  rwa [Int.sub_add_cancel] at this
 omega
theorem far_gap {K m S:Nat} {T1 T0:Int} (hfar:S≤T1.natAbs) (hcut:(T1 - m * T0).natAbs≤100 * (K * m)) (hT:T0.natAbs≤100 * K) (hbig:100 * (K * m) + m * (100 * K) < S):False:=by
 have key:=near_small hcut hT
 omega
theorem kb_big:100 * (Kb * 16777216) + 16777216 * (100 * Kb) < LN.SA:=by unfold Kb LN.SA; decide +kernel
theorem kb_ka:Kb≤LN.KA:=by unfold Kb LN.KA; exact Nat.pow_le_pow_right (by decide) (by decide)
theorem dec_thousand {tl:List (Int×Int)} (h1:∀ x∈tl,x.1∈smallP) (h0:∀ x∈tl,x.2≠0) (hd:(tl.map Prod.fst).Nodup) (hk:∀ x∈tl,x.2.natAbs≤Kb) (hl:tl.length≤100) (hne:tl≠[]) :
  0 < LN.eLo (lf 1000) tl∨LN.eHi (lf 1000) tl < 0:=by
 have hfar:=sum_far' LN.certA_ok h1 hd h0 hne fun x hx=>Nat.le_trans (hk x hx) kb_ka
 have hcut:=sumT_cut (n:=1000) (d:=24) (K:=Kb) (by decide) tl (fun x hx=>small_all (h1 x hx)) hk
 obtain ⟨n1,n2,n3,n4⟩:=ends_near (lf 1000) Kb tl hk
 have hb:=kb_big
 rw [show (1000:Nat) + 24=1024 from rfl] at hcut
 have e1:((2:Nat) ^ 24)=16777216:=by decide
 have e2:((2:Int) ^ 24)=((16777216:Nat):Int):=by decide
 rw [e1,e2] at hcut
 generalize Kb=K at *
 generalize LN.SA=S at *
 generalize LN.sumT (lf 1024) tl=T1 at *
 generalize (16777216:Nat)=m at *
 refine Decidable.byContradiction fun hc=>?_
 have c1:LN.eLo (lf 1000) tl≤0:=Int.not_lt.1 fun h=>hc (.inl h)
 have c2:0≤LN.eHi (lf 1000) tl:=Int.not_lt.1 fun h=>hc (.inr h)
 have hW:tl.length * K≤100 * K:=Nat.mul_le_mul_right _ hl
 have hW2:tl.length * (K * m)≤100 * (K * m):=Nat.mul_le_mul_right _ hl
 have hT:(LN.sumT (lf 1000) tl).natAbs≤100 * K:=by
  generalize LN.sumT (lf 1000) tl=T0 at *
  generalize LN.eLo (lf 1000) tl=lo at *
  generalize LN.eHi (lf 1000) tl=hi at *
  clear hcut hfar hb e1 e2 hW2
  omega
 exact far_gap hfar (Nat.le_trans hcut hW2) hT hb
theorem decE_some {ps:List Int} {l:List Rat} (h1:∀ p∈ps,p∈smallP) (h2:ps.Nodup) (hk:∀ x∈tlQ ps l,x.2.natAbs≤Kb) (hn:ps.length≤100) (hne:tlQ ps l≠[]):decE 1000 ps l≠0:=by
 have h:=dec_thousand (tl:=tlQ ps l) (fun x hx=>h1 _ (tlist_mem hx).1) (fun x hx=>tlQ_nz hx) (tlQ_nodup h2) hk (tlQ_len100 hn) hne
 obtain ⟨e1,e2⟩:=ends_int 1000 ps l
 unfold decE
 rcases h with h | h
 ·rw [if_pos (e1.2 (Int.le_of_lt h))]; decide
 ·split
  ·decide
  ·rw [if_pos (e2.2 (Int.le_of_lt h))]; decide
end Go.Proofs.YtnjedhgcfeoemaaGreatDoor

namespace Go.Proofs.YtnjedhgcfeoemaaGreatDoor
open Go.RowKit
structure TwoS (w:World) (ps:List Int) (a0 a1 a2:Option Addr) (l1 l2:Pairs):Prop where
 rp:Rd w a0 (ints ps)
 hi:I64s ps
 hl:ps.length≤1000
 r1:Rd w a1 (cellsS l1)
 r2:Rd w a2 (cellsS l2)
 n1:l1.length≤1000
 n2:l2.length≤1000
 s1:Ssz l1
 s2:Ssz l2
 L:Laid w
theorem TwoS.all {w W:World} {ps:List Int} {a0 a1 a2:Option Addr} {l1 l2:Pairs} (H:TwoS w ps a0 a1 a2 l1 l2) (hW:Below w.heap.size w W) {g c0 c1 c2:Nat} (hg:W.heap[g]?=some (.cells #[.slice a1 l1.length c1,.slice a2 l2.length c2] 38 (0,0))) :
  Gives Tryz.prog 107 #[.slice a0 ps.length c0,.slice (some ⟨g,0,none⟩) 2 2] W (.int .i64 (lcode ps [l1,l2])) :=
 checkAll_any W a0 _ c0 2 ps [l1,l2] (H.rp.below hW nr_) H.hi (Nat.le_trans H.hl (by decide)) (rdl_two hg (H.r1.below hW nr_) (H.r2.below hW nr_)) (by simp)
  (by intro l hl; simp only [List.mem_cons,List.not_mem_nil,or_false] at hl; rcases hl with rfl | rfl; exact ⟨Nat.le_trans H.n1 (by decide),H.s1⟩; exact ⟨Nat.le_trans H.n2 (by decide),H.s2⟩) (H.L.below hW)
end Go.Proofs.YtnjedhgcfeoemaaGreatDoor

namespace Go.Proofs.YtnjedhgcfeoemaaGreatDoor
open Go.RowKit
def okE (s:ByteArray):Prop:=s.size≤5∨(31 < s.size∧s.size≤40)
instance (s:ByteArray):Decidable (okE s):=inferInstanceAs (Decidable (_∨_))
end Go.Proofs.YtnjedhgcfeoemaaGreatDoor

namespace Go.Proofs.YtnjedhgcfeoemaaGreatDoor
open Go.RowKit
theorem cellsB_get (L:List (Int×Int×ByteArray)) (k:Nat) (h:k < L.length) :
  (cellsB L)[k * 3]?=some (.int .i64 L[k].1)∧(cellsB L)[k * 3 + 1]?=some (.int .i64 L[k].2.1)∧(cellsB L)[k * 3 + 2]?=some (.string L[k].2.2):=by
 induction L generalizing k with
 | nil=>exact absurd h (Nat.not_lt_zero _)
 | cons x l ih =>
  have e:cellsB (x :: l) = .int .i64 x.1 :: .int .i64 x.2.1 :: .string x.2.2 :: cellsB l:=rfl
  rw [e]
  cases k with
  | zero=>exact ⟨rfl,rfl,rfl⟩
  | succ k =>
   obtain ⟨h0,h1,h2⟩:=ih k (by simpa using h)
   refine ⟨?_,?_,?_⟩
   ·rw [show (k + 1) * 3=k * 3 + 3 by omega]; exact h0
   ·rw [show (k + 1) * 3 + 1=k * 3 + 1 + 3 by omega]; exact h1
   ·rw [show (k + 1) * 3 + 2=k * 3 + 2 + 3 by omega]; exact h2
theorem rdb_at {w wr:World} {a:Option Addr} {L:List (Int×Int×ByteArray)} {B:Nat} (h:Rd w a (cellsB L)) (hb:Below B w wr) (hB:w.heap.size≤B) (k:Nat) (hk:k < L.length) :
  ∃ b off,a=some ⟨b,off,none⟩∧wr.cell? ⟨b,off + k * 3,none⟩=some (.int .i64 L[k].1)∧wr.cell? ⟨b,off + k * 3 + 1,none⟩=some (.int .i64 L[k].2.1)∧wr.cell? ⟨b,off + k * 3 + 2,none⟩=some (.string L[k].2.2):=by
 obtain ⟨b,off,rfl,hbl,hcells⟩:=h.open (by rw [cellsB_length]; omega)
 obtain ⟨x0,x1,x2⟩:=cellsB_get L k hk
 have y0:=hcells _ _ x0
 have y1:=hcells _ _ x1
 have y2:=hcells _ _ x2
 rw [← hb.cell (p:=⟨b,off + k * 3,none⟩) (Nat.lt_of_lt_of_le hbl hB)] at y0
 rw [← Nat.add_assoc,← hb.cell (p:=⟨b,off + k * 3 + 1,none⟩) (Nat.lt_of_lt_of_le hbl hB)] at y1
 rw [← Nat.add_assoc,← hb.cell (p:=⟨b,off + k * 3 + 2,none⟩) (Nat.lt_of_lt_of_le hbl hB)] at y2
 exact ⟨b,off,rfl,y0,y1,y2⟩
theorem same14_eq (w:World) (sg n:Int) (a b:Option Addr) (c d:Nat) (L:List (Int×Int×ByteArray)) (ra:Rd w a (cellsB L)) (rb:Rd w b (cellsB L)) (hl:L.length≤1000) :
  Gives Tryz.prog 41 #[cmpV sg n a L.length c,cmpV sg n b L.length d] w (.bool true):=by
 unfold Gives cmpV
 obtain ⟨m,hm⟩:∃ m,L.length=m:=⟨_,rfl⟩
 rw [hm] at hl ⊢
 have Hm:=hd_ hm
 have RA:=hd_ ra
 have RB:=hd_ rb
 clear hm ra rb
 have Hb:=hd_ (((Below.refl w.heap.size w).alloc nr_ (.cells #[.int .i64 sg,.int .i64 n,.slice a m c] 51)).alloc (by simp) (.cells #[.int .i64 sg,.int .i64 n,.slice b m d] 51))
 have hz:(w.alloc (.cells #[.int .i64 sg,.int .i64 n,.slice a m c] 51)).heap.size=w.heap.size + 1:=by simp
 have F1:Hid (((w.alloc (.cells #[.int .i64 sg,.int .i64 n,.slice a m c] 51)).alloc (.cells #[.int .i64 sg,.int .i64 n,.slice b m d] 51)).heap[w.heap.size]?=some (.cells #[.int .i64 sg,.int .i64 n,.slice a m c] 51 (0,0))):=heap_old (heap_alloc_new w _) _
 have F2:Hid (((w.alloc (.cells #[.int .i64 sg,.int .i64 n,.slice a m c] 51)).alloc (.cells #[.int .i64 sg,.int .i64 n,.slice b m d] 51)).heap[w.heap.size + 1]?=some (.cells #[.int .i64 sg,.int .i64 n,.slice b m d] 51 (0,0))):=by
  show _=_
  rw [← hz]; exact heap_alloc_new _ _
 clear hz
 go_enter Tryz.func41,Tryz.ntmps41
 go_wp2_with fail
 generalize (w.alloc (.cells #[.int .i64 sg,.int .i64 n,.slice a m c] 51)).alloc (.cells #[.int .i64 sg,.int .i64 n,.slice b m d] 51)=W0 at *
 go_loopw [5] (fun i wr=>∃ k:Nat,k≤m∧i = .int .i64 k∧Hid (Below W0.heap.size W0 wr)) (fun i _=>m - (intOf i).toNat)
 case atStart=>exact ⟨0,Nat.zero_le _,rfl,Below.refl _ _⟩
 case round =>
  obtain ⟨k,hk,rfl,B⟩:=hrel
  obtain ⟨x0,x1,x2,-⟩:=three_cells (heap_kept F1.out B.out nr_)
  obtain ⟨y0,y1,y2,-⟩:=three_cells (heap_kept F2.out B.out nr_)
  have Bw:=hd_ (Hb.out.trans (B.out.mono Hb.out.size))
  by_cases hlt:k < m
  ·have hlt':(k:Int) < m:=by omega
   have h1:k < L.length:=by rw [Hm.out]; exact hlt
   obtain ⟨p,o,rfl,u0,u1,u2⟩:=rdb_at RA.out Bw.out nr_ k h1
   obtain ⟨q,r,rfl,v0,v1,v2⟩:=rdb_at RB.out Bw.out nr_ k h1
   have hkw:IntKind.i64.wrap ((k:Int) + 1)=((k + 1:Nat):Int):=by rw [← Int.natCast_succ]; exact iw_ _ (by omega)
   generalize L[k]=t at *
   obtain ⟨t0,t1,t2⟩:=t
   simp only at u0 u1 u2 v0 v1 v2
   have qx:=NW.cell x2
   have qy:=NW.cell y2
   have q0:=NW.cell u0
   have q1:=NW.cell u1
   have q2:=NW.cell u2
   have q3:=NW.cell v0
   have q4:=NW.cell v1
   have q5:=NW.cell v2
   have hnon:Nonempty (NW wr):=⟨⟨wr,Below.refl _ _⟩⟩
   have I:Hid (Below wr.heap.size wr wr.drew):=(Below.refl _ _).drew
   clear u0 u1 u2 v0 v1 v2 x0 x1 y0 y1
   go_wp2_with fail
   refine RP.wp_region_readers 10 [(2,0),(1,1),(2,2),(2,3),(1,4),(2,5),(1,6),(2,7),(2,8),(1,9),(0,10)] (fun w'=>∃ p:NW wr,w'=p.w) (by kernel_rfl) (by kernel_rfl) ?_ ?_
   ·exact ⟨⟨_,I.out⟩,rfl⟩
   iterate 1 (refine RP.walkR_any ?_; simp only [dz_,tsc_,tz_]; go_big_quiet_step (fail); refine wpQuiet_nil ?_)
   iterate 1 (refine RP.walkR_read ?_; simp only [dsc_,dz_,tsc_,tz_]; go_big_quiet_step (fail); refine wpQuiet_nil ?_)
   iterate 2 (refine RP.walkR_any ?_; simp only [dsc_,dz_,tsc_,tz_]; go_big_quiet_step (fail); refine wpQuiet_nil ?_)
   iterate 1 (refine RP.walkR_read ?_; simp only [dsc_,dz_,tsc_,tz_]; go_big_quiet_step (fail); refine wpQuiet_nil ?_)
   iterate 1 (refine RP.walkR_any ?_; simp only [dsc_,dz_,tsc_,tz_]; go_big_quiet_step (fail); refine wpQuiet_nil ?_)
   iterate 1 (refine RP.walkR_read ?_; simp only [dsc_,dz_,tsc_,tz_]; go_big_quiet_step (fail); refine wpQuiet_nil ?_)
   iterate 2 (refine RP.walkR_any ?_; simp only [dsc_,dz_,tsc_,tz_]; go_big_quiet_step (fail); refine wpQuiet_nil ?_)
   iterate 1 (refine RP.walkR_read ?_; simp only [dsc_,dz_,tsc_,tz_]; go_big_quiet_step (fail); refine wpQuiet_nil ?_)
   clear hnon q0 q1 q2 q3 q4 q5 qx qy
   refine RP.walkR_move ?_
   simp only [dsc_,dz_,tsc_,tz_]
   go_wp2_with fail
   simp only [RP.walkR]
   go_wp2_with fail
   refine ⟨⟨k + 1,by omega,by go_num,B.out.drew⟩,by simp [intOf]; omega⟩
  ·obtain rfl:k=m:=by omega
   have hlt':¬ (k:Int) < k:=by omega
   go_wp2_with fail
   go_ret
   exact ⟨rfl,Bw.out⟩
end Go.Proofs.YtnjedhgcfeoemaaGreatDoor

namespace Go.Proofs.YtnjedhgcfeoemaaGreatDoor
open Go.RowKit
theorem least_exists {T:Nat→Bool} (h:T 1000=true):∃ n,LeastN T n:=by
 have key:∀ k,k≤1000→T k=true→∃ n,LeastN T n:=by
  intro k
  induction k with
  | zero=>intro _ h; exact ⟨0,h,.inl rfl,by decide⟩
  | succ k ih =>
   intro hk h
   cases hT:T k
   ·exact ⟨k + 1,h,.inr (by simpa using hT),hk⟩
   ·exact ih (by omega) hT
 exact key 1000 nr_ h
theorem decide_zero (w:World) (a0 a1:Option Addr) (c0 c1:Nat) (ps:List Int) (l:List Rat) (rp:Rd w a0 (ints ps)) (rl:Rd w a1 (cellsQ l)) (hi:I64s ps) (hl:l.length=ps.length) (hn:ps.length≤100) (hs:∀ q∈l,Sm 30 q)
  (hp0:pcode ps=0) (hnz:l.any nzQ=false) (L:Laid w) :
  Gives Tryz.prog 26 #[.slice a0 ps.length c0,.slice a1 ps.length c1] w (.tuple #[cmpV 0 0 none 0 0,.int .i64 0]):=by
 unfold Gives cmpV
 have Hb0:=hd_ ((Below.refl w.heap.size w).alloc nr_ (.cells #[.int .i64 0,.int .i64 0,.slice none 0 0] 51))
 have Hnew:Hid ((w.alloc (.cells #[.int .i64 0,.int .i64 0,.slice none 0 0] 51)).heap[w.heap.size]?=some (.cells #[.int .i64 0,.int .i64 0,.slice none 0 0] 51 (0,0))):=heap_alloc_new w _
 have HC:=hd_ (fun W (hW:Below w.heap.size w W)=>check_sm W a0 a1 c0 c1 ps l (rp.below hW nr_) (rl.below hW nr_) hi hl hn hs hp0 (L.below hW))
 have HZ:=hd_ (fun W (hW:Below w.heap.size w W)=>ezero_ok W a1 c1 l (rl.below hW nr_) (by omega))
 rw [hnz,hl] at HZ
 clear rp rl hi hl hn hs hp0 hnz L
 generalize ps.length=n1 at *
 go_enter Tryz.func26,Tryz.ntmps26
 go_wp2_with fail
 generalize w.alloc (.cells #[.int .i64 0,.int .i64 0,.slice none 0 0] 51)=W0 at *
 refine cm_ (HC.out _ Hb0.out) ?_
 rintro e w1 ⟨rfl,hb⟩
 have Hcell:Hid (w1.heap[w.heap.size]?=some (.cells #[.int .i64 0,.int .i64 0,.slice none 0 0] 51 (0,0))):=by
  show _=_
  rw [hb.block _ (Array.getElem?_eq_some_iff.1 Hnew.out).1]; exact Hnew.out
 have Hbw:=hd_ (Hb0.out.trans (hb.mono Hb0.out.size))
 clear hb HC Hnew Hb0
 go_wp2_with fail
 refine cm_ (HZ.out _ Hbw.out) ?_
 rintro e w2 ⟨rfl,hb⟩
 obtain ⟨k0,k1,k2,kf⟩:=three_cells (heap_kept Hcell.out hb nr_)
 have Hbw2:=hd_ (Hbw.out.trans (hb.mono Hbw.out.size))
 have f0:=kf 0
 have f1:=kf 1
 have f2:=kf 2
 clear hb HZ kf Hcell Hbw
 go_wp2
 obtain ⟨c0,c1,c2,hb3⟩:=three_stored (.int .i64 0) (.int .i64 0) (.slice none 0 0) k0 k1 k2 nr_ Hbw2.out
 generalize ((w2.setCell ⟨w.heap.size,0,none⟩ (.int .i64 0)).setCell ⟨w.heap.size,1,none⟩ (.int .i64 0)).setCell ⟨w.heap.size,2,none⟩ (.slice none 0 0)=w9 at *
 exact bodyPost_ret (v := .tuple #[.agg #[.int .i64 0,.int .i64 0,.slice none 0 0],.int .i64 0]) (by simp [results,Tryz.results26,go_sem,c0,c1,c2]) rfl ⟨rfl,hb3⟩
def DecV (F:FuncId) (args:Array Value) (w:World) (sg n:Int) (BL:List (Int×Int×ByteArray)):Prop :=
 Calls Tryz.prog F args w fun e w'=>∃ a c,e = .returned (.tuple #[cmpV sg n a BL.length c,.int .i64 0])∧Rd w' a (cellsB BL)∧Below w.heap.size w w'
theorem nzQ_iff (q:Rat):nzQ q=true↔q≠0:=by
 unfold nzQ
 rw [bne_iff_ne]
 constructor
 ·intro h e; exact h (by rw [e]; rfl)
 ·intro h e; exact h (Rat.num_eq_zero.1 (Int.sign_eq_zero_iff_zero.1 e))
theorem decide_all (ps:List Int) (l:List Rat) (hi:I64s ps) (hl:l.length=ps.length) (hn:ps.length≤100) (hp:∀ p∈ps,∃ q:Nat,p=q∧(q=2∨q∈oddP)) (hpos:∀ p∈ps,0 < p) (hsm:∀ p∈ps,p∈smallP) (hs:∀ q∈l,Sm 30 q) (hp0:pcode ps=0) (g:Good ps l) :
  ∃ (n:Nat) (BL:List (Int×Int×ByteArray)),n≤1000∧BL.length≤100∧∀ W a0 a1 c0 c1,Rd W a0 (ints ps)→Rd W a1 (cellsQ l)→Laid W→DecV 26 #[.slice a0 ps.length c0,.slice a1 ps.length c1] W (LN.sz ps l) n BL:=by
 cases hnz:l.any nzQ
 ·have hz:LN.sz ps l=0:=LN.sz_zero hpos fun q hq=>by
   have h:=List.any_eq_false.1 hnz q hq
   by_cases e:q=0
   ·exact e
   ·exact absurd ((nzQ_iff q).2 e) h
  rw [hz]
  refine ⟨0,[],by decide,by decide,fun W a0 a1 c0 c1 rp rl L=>?_⟩
  unfold DecV
  refine cm_ (decide_zero W a0 a1 c0 c1 ps l rp rl hi hl hn hs hp0 hnz L) ?_
  rintro e w' ⟨rfl,hb⟩
  exact ⟨none,0,rfl,.inl rfl,hb⟩
 ·obtain ⟨q,hq,hq0⟩:=List.any_eq_true.1 hnz
  have hne:tlQ ps l≠[]:=tlQ_ne hl ⟨q,hq,(nzQ_iff q).1 hq0⟩
  have hend:=decE_some hsm g.nd g.kb hn hne
  obtain ⟨n,hN⟩:=least_exists (T:=fun b=>decE b ps l != 0) (by rw [bne_iff_ne]; exact hend)
  have hup:∀ b,b < 1000→(decE b ps l != 0)=true→(decE (b + 1) ps l != 0)=true:=fun b hb h=>by
   rw [bne_iff_ne] at h ⊢
   exact decE_up g.pr (by omega) h
  have hsg:decE n ps l=LN.sz ps l:=decE_sign (by have:=hN.le; omega) g.pr g.nd hne (by
   have:=hN.at_
   rw [bne_iff_ne] at this
   exact this)
  refine ⟨n,bndL n ps l,hN.le,Nat.le_trans (bndL_le n ps l) hn,fun W a0 a1 c0 c1 rp rl L=>?_⟩
  unfold DecV
  refine cm_ (decide_ok W a0 a1 c0 c1 30 ps l rp rl hi hl hn hp hs (by decide) hp0 hnz hend L) ?_
  rintro e w' ⟨m,a,c,rfl,hm,hr,hb⟩
  obtain rfl:m=n:=hm.uniq hup hN
  rw [hsg]
  exact ⟨a,c,rfl,hr,hb⟩
end Go.Proofs.YtnjedhgcfeoemaaGreatDoor
