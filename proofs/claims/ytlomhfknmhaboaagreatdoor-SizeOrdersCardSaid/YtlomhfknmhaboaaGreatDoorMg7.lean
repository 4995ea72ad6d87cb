/- For any three sizes with small coefficients over the primes of a number, the order is total and transitive, sums keep it, and multiples by a fraction keep it or turn it round. No condition: the statement holds for every input. -/
import Derived.Test.YtlomhfknmhaboaaGreatDoorCards
import Derived.Test.YtlomhfknmhaboaaGreatDoorTie
import Derived.SevenTiedAt
import Derived.Test.YtlomhfknmhaboaaGreatDoorMg6
/- The law SizeOrders: what its function returns. (Printed by wip/tools/gen_walkord.py.) -/
namespace Go.Proofs.YtlomhfknmhaboaaGreatDoor
open Go.RowKit

set_option maxRecDepth 100000 in
set_option maxHeartbeats 64000000 in
theorem lawOrders (w : World) (pn : Nat) (nA : Nat → Int) (dA : Nat → Nat) (nB : Nat → Int) (dB : Nat → Nat) (nC : Nat → Int) (dC : Nat → Nat) (kn : Int) (kd : Nat) (hpn : pn < 256) (hnA : ∀ k, -128 ≤ nA k ∧ nA k ≤ 127) (hdA : ∀ k, dA k < 256) (hnB : ∀ k, -128 ≤ nB k ∧ nB k ≤ 127) (hdB : ∀ k, dB k < 256) (hnC : ∀ k, -128 ≤ nC k ∧ nC k ≤ 127) (hdC : ∀ k, dC k < 256) (hkn : -128 ≤ kn ∧ kn ≤ 127) (hkd : kd < 256) (L : Laid w) :
    Gives Tryz.prog 4 #[.agg (pairV pn nA dA nB dB), .agg (partsV nC dC), .agg #[.int .i8 kn, .int .u8 kd]] w (.bool true) := by
  unfold Gives
  have hp := primesL_ok (pn % 10) (Nat.mod_lt _ (by decide))
  have hps := primesL_small (pn % 10) (Nat.mod_lt _ (by decide))
  have HPr := Lib.hid (fun W => primes_any W pn hpn)
  generalize primesL (pn % 10) = ps at *
  obtain ⟨hp0, hp4, hp1, hp2⟩ := hp
  obtain ⟨hq1, hq2⟩ := hps
  have hpos := smallP_pos hq1
  have hp100 : ps.length ≤ 100 := by omega
  have HK : Hid (∀ W, Below w.heap.size w W → Gives Tryz.prog 12 #[] W (.bool true)) := fun W hW => known_ok W (L.below hW)
  have HA : Hid (∀ W a0 c0, Below w.heap.size w W → Calls Tryz.prog 15 #[.slice a0 ps.length c0, .agg #[.int .i8 (nA 0), .int .u8 (dA 0), .int .i8 (nA 1), .int .u8 (dA 1), .int .i8 (nA 2), .int .u8 (dA 2), .int .i8 (nA 3), .int .u8 (dA 3)]] W fun e w' => ∃ a c, e = .returned (.slice a ps.length c) ∧ Rd w' a (cellsQ (partsQ nA dA ps.length)) ∧ Below W.heap.size W w') := fun W a0 c0 hW => by
    refine Calls.mono (make_any W a0 c0 ps.length hp4 nA dA hnA hdA (L.below hW)) ?_
    rintro e w' ⟨a, c, rfl, ho, hb⟩
    exact ⟨a, c, rfl, ho.rd, hb⟩
  have HB : Hid (∀ W a0 c0, Below w.heap.size w W → Calls Tryz.prog 15 #[.slice a0 ps.length c0, .agg #[.int .i8 (nB 0), .int .u8 (dB 0), .int .i8 (nB 1), .int .u8 (dB 1), .int .i8 (nB 2), .int .u8 (dB 2), .int .i8 (nB 3), .int .u8 (dB 3)]] W fun e w' => ∃ a c, e = .returned (.slice a ps.length c) ∧ Rd w' a (cellsQ (partsQ nB dB ps.length)) ∧ Below W.heap.size W w') := fun W a0 c0 hW => by
    refine Calls.mono (make_any W a0 c0 ps.length hp4 nB dB hnB hdB (L.below hW)) ?_
    rintro e w' ⟨a, c, rfl, ho, hb⟩
    exact ⟨a, c, rfl, ho.rd, hb⟩
  have HC : Hid (∀ W a0 c0, Below w.heap.size w W → Calls Tryz.prog 15 #[.slice a0 ps.length c0, .agg #[.int .i8 (nC 0), .int .u8 (dC 0), .int .i8 (nC 1), .int .u8 (dC 1), .int .i8 (nC 2), .int .u8 (dC 2), .int .i8 (nC 3), .int .u8 (dC 3)]] W fun e w' => ∃ a c, e = .returned (.slice a ps.length c) ∧ Rd w' a (cellsQ (partsQ nC dC ps.length)) ∧ Below W.heap.size W w') := fun W a0 c0 hW => by
    refine Calls.mono (make_any W a0 c0 ps.length hp4 nC dC hnC hdC (L.below hW)) ?_
    rintro e w' ⟨a, c, rfl, ho, hb⟩
    exact ⟨a, c, rfl, ho.rd, hb⟩
  have HFr : Hid (∀ W, Below w.heap.size w W → Gives Tryz.prog 24 #[.agg #[.int .i8 kn, .int .u8 kd]] W (fr (fracQ kn kd))) := fun W hW => fraction_any W kn kd hkn hkd (L.below hW)
  have HSg : Hid (∀ W, Gives Tryz.prog 25 #[fr (fracQ kn kd)] W (.int .i64 (fracQ kn kd).num.sign)) := fun W => signR W _
  obtain ⟨kz, hkz, hkb⟩ := fracQ_twelve kn kd
  have skk := fracQ_sm kn kd
  generalize fracQ kn kd = k at *
  have la1 := partsQ_length nA dA ps.length
  have lb1 := partsQ_length nB dB ps.length
  have lc1 := partsQ_length nC dC ps.length
  have sa := partsQ_sm nA dA ps.length
  have sb := partsQ_sm nB dB ps.length
  have sc := partsQ_sm nC dC ps.length
  have ma := partsQ_sml nA dA ps.length
  have mb := partsQ_sml nB dB ps.length
  have mc := partsQ_sml nC dC ps.length
  generalize partsQ nA dA ps.length = la at *
  generalize partsQ nB dB ps.length = lb at *
  generalize partsQ nC dC ps.length = lc at *
  have G := fun {l : List Rat} {N M : Nat} (hM : 0 < M) (h : Sml N M l) (hN : N ≤ Kb) => h.good (ps := ps) hM hN hq1 hq2
  have gab := G (by decide) (Sml.comb (by decide) ma mb 1 (-1)) (pow_kb (by decide))
  have gba := G (by decide) (Sml.comb (by decide) mb ma 1 (-1)) (pow_kb (by decide))
  have gbc := G (by decide) (Sml.comb (by decide) mb mc 1 (-1)) (pow_kb (by decide))
  have gac := G (by decide) (Sml.comb (by decide) ma mc 1 (-1)) (pow_kb (by decide))
  have gs : Good ps (difQ (combineQ la lc 1 1) (combineQ lb lc 1 1)) := by rw [dif_sum (by omega) (by omega)]; exact gab
  have gk : Good ps (difQ (combineQ la la k 0) (combineQ lb lb k 0)) := G (by decide) (scaled_dif k kz (by omega) hkz ma mb) (pow_kb (by have : (480 * 1 + 480 * 1) * kz.natAbs ≤ 960 * 480 := Nat.mul_le_mul (by decide) hkb; omega))
  have lu1 : (combineQ la lc 1 1).length = ps.length := (combineQ_length _ _ _ _ (by omega)).trans la1
  have lv1 : (combineQ lb lc 1 1).length = ps.length := (combineQ_length _ _ _ _ (by omega)).trans lb1
  have lx1 : (combineQ la la k 0).length = ps.length := (combineQ_length _ _ _ _ rfl).trans la1
  have ly1 : (combineQ lb lb k 0).length = ps.length := (combineQ_length _ _ _ _ rfl).trans lb1
  have su : ∀ q ∈ combineQ la lc 1 1, Sm 30 q := fun q hq => (combineQ_sm sa sc sm_one sm_one q hq).le (by decide)
  have sv : ∀ q ∈ combineQ lb lc 1 1, Sm 30 q := fun q hq => (combineQ_sm sb sc sm_one sm_one q hq).le (by decide)
  have sx : ∀ q ∈ combineQ la la k 0, Sm 30 q := fun q hq => (combineQ_sm sa sa skk Sm.zero q hq).le (by decide)
  have sy : ∀ q ∈ combineQ lb lb k 0, Sm 30 q := fun q hq => (combineQ_sm sb sb skk Sm.zero q hq).le (by decide)
  have s30 : ∀ {l : List Rat}, (∀ q ∈ l, Sm 2 q) → ∀ q ∈ l, Sm 30 q := fun h q hq => (h q hq).le (by decide)
  have eba := sz_swap hpos (la := la) (lb := lb) (by omega)
  have hzi := sz_zero_iff hpos gab hp100 la1 lb1
  have hord := ordS hpos (la := la) (lb := lb) (lc := lc) (by omega) (by omega)
  have esum : LN.sz ps (difQ (combineQ la lc 1 1) (combineQ lb lc 1 1)) = LN.sz ps (difQ la lb) := by rw [dif_sum (by omega) (by omega)]
  have etim : LN.sz ps (difQ (combineQ la la k 0) (combineQ lb lb k 0)) = k.num.sign * LN.sz ps (difQ la lb) := by rw [dif_scale k (by omega), LN.sz_mul hpos]
  have Hab : Hid (∀ (W : World) (a0 a1 a2 : Option Addr) (c0 c1 c2 : Nat), Below w.heap.size w W → Rd W a0 (ints ps) → Rd W a1 (cellsQ (la)) → Rd W a2 (cellsQ (lb)) → Gives Tryz.prog 21 #[.slice a0 ps.length c0, .slice a1 ps.length c1, .slice a2 ps.length c2] W (.tuple #[.int .i64 (LN.sz ps (difQ la lb)), .int .i64 0])) := fun W a0 a1 a2 c0 c1 c2 hW r0 r1 r2 => by
    have h := cmp_ok c0 c1 c2 hp0 hp2 hp100 r0 r1 r2 la1 lb1 (s30 sa) (s30 sb) gab (L.below hW)
    exact h
  have Hba : Hid (∀ (W : World) (a0 a1 a2 : Option Addr) (c0 c1 c2 : Nat), Below w.heap.size w W → Rd W a0 (ints ps) → Rd W a1 (cellsQ (lb)) → Rd W a2 (cellsQ (la)) → Gives Tryz.prog 21 #[.slice a0 ps.length c0, .slice a1 ps.length c1, .slice a2 ps.length c2] W (.tuple #[.int .i64 (-LN.sz ps (difQ la lb)), .int .i64 0])) := fun W a0 a1 a2 c0 c1 c2 hW r0 r1 r2 => by
    have h := cmp_ok c0 c1 c2 hp0 hp2 hp100 r0 r1 r2 lb1 la1 (s30 sb) (s30 sa) gba (L.below hW)
    rw [eba] at h; exact h
  have Hbc : Hid (∀ (W : World) (a0 a1 a2 : Option Addr) (c0 c1 c2 : Nat), Below w.heap.size w W → Rd W a0 (ints ps) → Rd W a1 (cellsQ (lb)) → Rd W a2 (cellsQ (lc)) → Gives Tryz.prog 21 #[.slice a0 ps.length c0, .slice a1 ps.length c1, .slice a2 ps.length c2] W (.tuple #[.int .i64 (LN.sz ps (difQ lb lc)), .int .i64 0])) := fun W a0 a1 a2 c0 c1 c2 hW r0 r1 r2 => by
    have h := cmp_ok c0 c1 c2 hp0 hp2 hp100 r0 r1 r2 lb1 lc1 (s30 sb) (s30 sc) gbc (L.below hW)
    exact h
  have Hac : Hid (∀ (W : World) (a0 a1 a2 : Option Addr) (c0 c1 c2 : Nat), Below w.heap.size w W → Rd W a0 (ints ps) → Rd W a1 (cellsQ (la)) → Rd W a2 (cellsQ (lc)) → Gives Tryz.prog 21 #[.slice a0 ps.length c0, .slice a1 ps.length c1, .slice a2 ps.length c2] W (.tuple #[.int .i64 (LN.sz ps (difQ la lc)), .int .i64 0])) := fun W a0 a1 a2 c0 c1 c2 hW r0 r1 r2 => by
    have h := cmp_ok c0 c1 c2 hp0 hp2 hp100 r0 r1 r2 la1 lc1 (s30 sa) (s30 sc) gac (L.below hW)
    exact h
  have Hsu : Hid (∀ (W : World) (a0 a1 a2 : Option Addr) (c0 c1 c2 : Nat), Below w.heap.size w W → Rd W a0 (ints ps) → Rd W a1 (cellsQ (combineQ la lc 1 1)) → Rd W a2 (cellsQ (combineQ lb lc 1 1)) → Gives Tryz.prog 21 #[.slice a0 ps.length c0, .slice a1 ps.length c1, .slice a2 ps.length c2] W (.tuple #[.int .i64 (LN.sz ps (difQ la lb)), .int .i64 0])) := fun W a0 a1 a2 c0 c1 c2 hW r0 r1 r2 => by
    have h := cmp_ok c0 c1 c2 hp0 hp2 hp100 r0 r1 r2 lu1 lv1 su sv gs (L.below hW)
    rw [esum] at h; exact h
  have Hti : Hid (∀ (W : World) (a0 a1 a2 : Option Addr) (c0 c1 c2 : Nat), Below w.heap.size w W → Rd W a0 (ints ps) → Rd W a1 (cellsQ (combineQ la la k 0)) → Rd W a2 (cellsQ (combineQ lb lb k 0)) → Gives Tryz.prog 21 #[.slice a0 ps.length c0, .slice a1 ps.length c1, .slice a2 ps.length c2] W (.tuple #[.int .i64 (k.num.sign * LN.sz ps (difQ la lb)), .int .i64 0])) := fun W a0 a1 a2 c0 c1 c2 hW r0 r1 r2 => by
    have h := cmp_ok c0 c1 c2 hp0 hp2 hp100 r0 r1 r2 lx1 ly1 sx sy gk (L.below hW)
    rw [etim] at h; exact h
  have HA1 : Hid (∀ (W : World) (a0 a1 a2 : Option Addr) (c0 c1 c2 : Nat), Below w.heap.size w W → Rd W a0 (ints ps) → Rd W a1 (cellsQ la) → Rd W a2 (cellsQ lc) → Calls Tryz.prog 22 #[.slice a0 ps.length c0, .slice a1 ps.length c1, .slice a2 ps.length c2] W fun e w' => ∃ a c, e = .returned (.tuple #[.slice a ps.length c, .int .i64 0]) ∧ Rd w' a (cellsQ (combineQ la lc 1 1)) ∧ Below W.heap.size W w') := fun W a0 a1 a2 c0 c1 c2 hW r0 r1 r2 => addR_ok c0 c1 c2 hp0 hp2 r0 r1 r2 la1 lc1 sa sc (L.below hW)
  have HA2 : Hid (∀ (W : World) (a0 a1 a2 : Option Addr) (c0 c1 c2 : Nat), Below w.heap.size w W → Rd W a0 (ints ps) → Rd W a1 (cellsQ lb) → Rd W a2 (cellsQ lc) → Calls Tryz.prog 22 #[.slice a0 ps.length c0, .slice a1 ps.length c1, .slice a2 ps.length c2] W fun e w' => ∃ a c, e = .returned (.tuple #[.slice a ps.length c, .int .i64 0]) ∧ Rd w' a (cellsQ (combineQ lb lc 1 1)) ∧ Below W.heap.size W w') := fun W a0 a1 a2 c0 c1 c2 hW r0 r1 r2 => addR_ok c0 c1 c2 hp0 hp2 r0 r1 r2 lb1 lc1 sb sc (L.below hW)
  have HS1 : Hid (∀ (W : World) (a0 a1 : Option Addr) (c0 c1 : Nat), Below w.heap.size w W → Rd W a0 (ints ps) → Rd W a1 (cellsQ la) → Calls Tryz.prog 23 #[.slice a0 ps.length c0, .slice a1 ps.length c1, .agg #[.string (itx k.num), .string (dec k.den)]] W fun e w' => ∃ a c, e = .returned (.tuple #[.slice a ps.length c, .int .i64 0]) ∧ Rd w' a (cellsQ (combineQ la la k 0)) ∧ Below W.heap.size W w') := fun W a0 a1 c0 c1 hW r0 r1 => scaleR_ok c0 c1 k hp0 hp2 r0 r1 la1 sa skk (L.below hW)
  have HS2 : Hid (∀ (W : World) (a0 a1 : Option Addr) (c0 c1 : Nat), Below w.heap.size w W → Rd W a0 (ints ps) → Rd W a1 (cellsQ lb) → Calls Tryz.prog 23 #[.slice a0 ps.length c0, .slice a1 ps.length c1, .agg #[.string (itx k.num), .string (dec k.den)]] W fun e w' => ∃ a c, e = .returned (.tuple #[.slice a ps.length c, .int .i64 0]) ∧ Rd w' a (cellsQ (combineQ lb lb k 0)) ∧ Below W.heap.size W w') := fun W a0 a1 c0 c1 hW r0 r1 => scaleR_ok c0 c1 k hp0 hp2 r0 r1 lb1 sb skk (L.below hW)
  have HE : Hid (∀ (W : World) (a1 a2 : Option Addr) (c1 c2 : Nat), Rd W a1 (cellsQ la) → Rd W a2 (cellsQ lb) → Gives Tryz.prog 20 #[.slice a1 ps.length c1, .slice a2 ps.length c2] W (.bool (decide (LN.sz ps (difQ la lb) = 0)))) := fun W a1 a2 c1 c2 r1 r2 => by
    have h := equal_any W a1 a2 c1 c2 la lb r1 r2 (by omega)
    rw [la1, lb1] at h
    rw [decide_eq_decide.2 hzi]
    exact h
  have hsk := sign_cases k.num
  unfold fr fv at HFr HSg
  generalize LN.sz ps (difQ la lb) = ab at *
  generalize LN.sz ps (difQ lb lc) = bc at *
  generalize LN.sz ps (difQ la lc) = ac at *
  clear L hkz hkb skk la1 lb1 lc1 sa sb sc ma mb mc G gab gba gbc gac gs gk lu1 lv1 lx1 ly1 su sv sx sy s30 eba hzi esum etim hpos hq1 hq2 hp0 hp2 hp4 hp100 hpn hnA hdA hnB hdB hnC hdC hkn hkd
  generalize combineQ la lc 1 1 = lu at *
  generalize combineQ lb lc 1 1 = lv at *
  generalize combineQ la la k 0 = lx at *
  generalize combineQ lb lb k 0 = ly at *
  have hsb : -1 ≤ k.num.sign ∧ k.num.sign ≤ 1 := by omega
  clear hsk
  generalize k.num.sign = sg at *
  generalize itx k.num = ks at *
  generalize dec k.den = kt at *
  generalize ps.length = n at *
  unfold pairV partsV
  have B0 := Lib.hid ((((Below.refl w.heap.size w).alloc (Nat.le_refl _) (.cells #[.int .u8 pn, .int .i8 (nA 0), .int .u8 (dA 0), .int .i8 (nA 1), .int .u8 (dA 1), .int .i8 (nA 2), .int .u8 (dA 2), .int .i8 (nA 3), .int .u8 (dA 3), .int .i8 (nB 0), .int .u8 (dB 0), .int .i8 (nB 1), .int .u8 (dB 1), .int .i8 (nB 2), .int .u8 (dB 2), .int .i8 (nB 3), .int .u8 (dB 3)] 50)).alloc (by simp) (.cells #[.int .i8 (nC 0), .int .u8 (dC 0), .int .i8 (nC 1), .int .u8 (dC 1), .int .i8 (nC 2), .int .u8 (dC 2), .int .i8 (nC 3), .int .u8 (dC 3)] 40)).alloc (by simp; omega) (.cells #[.int .i8 kn, .int .u8 kd] 38))
  have D0 := Lib.hid (heap_at ((w.alloc (.cells #[.int .u8 pn, .int .i8 (nA 0), .int .u8 (dA 0), .int .i8 (nA 1), .int .u8 (dA 1), .int .i8 (nA 2), .int .u8 (dA 2), .int .i8 (nA 3), .int .u8 (dA 3), .int .i8 (nB 0), .int .u8 (dB 0), .int .i8 (nB 1), .int .u8 (dB 1), .int .i8 (nB 2), .int .u8 (dB 2), .int .i8 (nB 3), .int .u8 (dB 3)] 50)).alloc (.cells #[.int .i8 (nC 0), .int .u8 (dC 0), .int .i8 (nC 1), .int .u8 (dC 1), .int .i8 (nC 2), .int .u8 (dC 2), .int .i8 (nC 3), .int .u8 (dC 3)] 40)) #[.int .i8 kn, .int .u8 kd] 38 (w.heap.size + 1 + 1) (by simp))
  have C0 := Lib.hid (heap_old (heap_at (w.alloc (.cells #[.int .u8 pn, .int .i8 (nA 0), .int .u8 (dA 0), .int .i8 (nA 1), .int .u8 (dA 1), .int .i8 (nA 2), .int .u8 (dA 2), .int .i8 (nA 3), .int .u8 (dA 3), .int .i8 (nB 0), .int .u8 (dB 0), .int .i8 (nB 1), .int .u8 (dB 1), .int .i8 (nB 2), .int .u8 (dB 2), .int .i8 (nB 3), .int .u8 (dB 3)] 50)) #[.int .i8 (nC 0), .int .u8 (dC 0), .int .i8 (nC 1), .int .u8 (dC 1), .int .i8 (nC 2), .int .u8 (dC 2), .int .i8 (nC 3), .int .u8 (dC 3)] 40 (w.heap.size + 1) (by simp)) (.cells #[.int .i8 kn, .int .u8 kd] 38))
  have P0 := Lib.hid (heap_old (heap_old (heap_at w #[.int .u8 pn, .int .i8 (nA 0), .int .u8 (dA 0), .int .i8 (nA 1), .int .u8 (dA 1), .int .i8 (nA 2), .int .u8 (dA 2), .int .i8 (nA 3), .int .u8 (dA 3), .int .i8 (nB 0), .int .u8 (dB 0), .int .i8 (nB 1), .int .u8 (dB 1), .int .i8 (nB 2), .int .u8 (dB 2), .int .i8 (nB 3), .int .u8 (dB 3)] 50 _ rfl) (.cells #[.int .i8 (nC 0), .int .u8 (dC 0), .int .i8 (nC 1), .int .u8 (dC 1), .int .i8 (nC 2), .int .u8 (dC 2), .int .i8 (nC 3), .int .u8 (dC 3)] 40)) (.cells #[.int .i8 kn, .int .u8 kd] 38))
  go_enter Tryz.func4, Tryz.ntmps4
  go_wp2_with fail
  generalize ((w.alloc (.cells #[.int .u8 pn, .int .i8 (nA 0), .int .u8 (dA 0), .int .i8 (nA 1), .int .u8 (dA 1), .int .i8 (nA 2), .int .u8 (dA 2), .int .i8 (nA 3), .int .u8 (dA 3), .int .i8 (nB 0), .int .u8 (dB 0), .int .i8 (nB 1), .int .u8 (dB 1), .int .i8 (nB 2), .int .u8 (dB 2), .int .i8 (nB 3), .int .u8 (dB 3)] 50)).alloc (.cells #[.int .i8 (nC 0), .int .u8 (dC 0), .int .i8 (nC 1), .int .u8 (dC 1), .int .i8 (nC 2), .int .u8 (dC 2), .int .i8 (nC 3), .int .u8 (dC 3)] 40)).alloc (.cells #[.int .i8 kn, .int .u8 kd] 38) = w0 at *
  refine Calls.mono (HK.out _ B0.out) ?_
  rintro e_ w1 ⟨rfl, hb_⟩
  have B_1 := Lib.hid (B0.out.trans (hb_.mono B0.out.size))
  replace D0 := Lib.hid (heap_kept D0.out hb_ (Nat.le_refl _))
  replace C0 := Lib.hid (heap_kept C0.out hb_ (Nat.le_refl _))
  replace P0 := Lib.hid (heap_kept P0.out hb_ (Nat.le_refl _))
  clear hb_ B0 HK
  have p0 : w1.cell? ⟨w.heap.size, 0, none⟩ = some (.int .u8 pn) := by rw [cell_of_row _ _ _ _ _ _ P0.out]; rfl
  go_wp2_with fail
  clear p0
  refine Calls.mono (HPr.out _) ?_
  rintro e_ w2 ⟨gp, rfl, rp_, hb_⟩
  have B_2 := Lib.hid (B_1.out.trans (hb_.mono B_1.out.size))
  replace D0 := Lib.hid (heap_kept D0.out hb_ (Nat.le_refl _))
  replace C0 := Lib.hid (heap_kept C0.out hb_ (Nat.le_refl _))
  replace P0 := Lib.hid (heap_kept P0.out hb_ (Nat.le_refl _))
  have Rp := Lib.hid rp_
  clear hb_ rp_ HPr B_1
  have p1 : w2.cell? ⟨w.heap.size, 1, none⟩ = some (.int .i8 (nA 0)) := by rw [cell_of_row _ _ _ _ _ _ P0.out]; rfl
  have p2 : w2.cell? ⟨w.heap.size, 2, none⟩ = some (.int .u8 (dA 0)) := by rw [cell_of_row _ _ _ _ _ _ P0.out]; rfl
  have p3 : w2.cell? ⟨w.heap.size, 3, none⟩ = some (.int .i8 (nA 1)) := by rw [cell_of_row _ _ _ _ _ _ P0.out]; rfl
  have p4 : w2.cell? ⟨w.heap.size, 4, none⟩ = some (.int .u8 (dA 1)) := by rw [cell_of_row _ _ _ _ _ _ P0.out]; rfl
  have p5 : w2.cell? ⟨w.heap.size, 5, none⟩ = some (.int .i8 (nA 2)) := by rw [cell_of_row _ _ _ _ _ _ P0.out]; rfl
  have p6 : w2.cell? ⟨w.heap.size, 6, none⟩ = some (.int .u8 (dA 2)) := by rw [cell_of_row _ _ _ _ _ _ P0.out]; rfl
  have p7 : w2.cell? ⟨w.heap.size, 7, none⟩ = some (.int .i8 (nA 3)) := by rw [cell_of_row _ _ _ _ _ _ P0.out]; rfl
  have p8 : w2.cell? ⟨w.heap.size, 8, none⟩ = some (.int .u8 (dA 3)) := by rw [cell_of_row _ _ _ _ _ _ P0.out]; rfl
  have p9 : w2.cell? ⟨w.heap.size, 9, none⟩ = some (.int .i8 (nB 0)) := by rw [cell_of_row _ _ _ _ _ _ P0.out]; rfl
  have p10 : w2.cell? ⟨w.heap.size, 10, none⟩ = some (.int .u8 (dB 0)) := by rw [cell_of_row _ _ _ _ _ _ P0.out]; rfl
  have p11 : w2.cell? ⟨w.heap.size, 11, none⟩ = some (.int .i8 (nB 1)) := by rw [cell_of_row _ _ _ _ _ _ P0.out]; rfl
  have p12 : w2.cell? ⟨w.heap.size, 12, none⟩ = some (.int .u8 (dB 1)) := by rw [cell_of_row _ _ _ _ _ _ P0.out]; rfl
  have p13 : w2.cell? ⟨w.heap.size, 13, none⟩ = some (.int .i8 (nB 2)) := by rw [cell_of_row _ _ _ _ _ _ P0.out]; rfl
  have p14 : w2.cell? ⟨w.heap.size, 14, none⟩ = some (.int .u8 (dB 2)) := by rw [cell_of_row _ _ _ _ _ _ P0.out]; rfl
  have p15 : w2.cell? ⟨w.heap.size, 15, none⟩ = some (.int .i8 (nB 3)) := by rw [cell_of_row _ _ _ _ _ _ P0.out]; rfl
  have p16 : w2.cell? ⟨w.heap.size, 16, none⟩ = some (.int .u8 (dB 3)) := by rw [cell_of_row _ _ _ _ _ _ P0.out]; rfl
  have m0 : w2.cell? ⟨w.heap.size + 1, 0, none⟩ = some (.int .i8 (nC 0)) := by rw [cell_of_row _ _ _ _ _ _ C0.out]; rfl
  have m1 : w2.cell? ⟨w.heap.size + 1, 1, none⟩ = some (.int .u8 (dC 0)) := by rw [cell_of_row _ _ _ _ _ _ C0.out]; rfl
  have m2 : w2.cell? ⟨w.heap.size + 1, 2, none⟩ = some (.int .i8 (nC 1)) := by rw [cell_of_row _ _ _ _ _ _ C0.out]; rfl
  have m3 : w2.cell? ⟨w.heap.size + 1, 3, none⟩ = some (.int .u8 (dC 1)) := by rw [cell_of_row _ _ _ _ _ _ C0.out]; rfl
  have m4 : w2.cell? ⟨w.heap.size + 1, 4, none⟩ = some (.int .i8 (nC 2)) := by rw [cell_of_row _ _ _ _ _ _ C0.out]; rfl
  have m5 : w2.cell? ⟨w.heap.size + 1, 5, none⟩ = some (.int .u8 (dC 2)) := by rw [cell_of_row _ _ _ _ _ _ C0.out]; rfl
  have m6 : w2.cell? ⟨w.heap.size + 1, 6, none⟩ = some (.int .i8 (nC 3)) := by rw [cell_of_row _ _ _ _ _ _ C0.out]; rfl
  have m7 : w2.cell? ⟨w.heap.size + 1, 7, none⟩ = some (.int .u8 (dC 3)) := by rw [cell_of_row _ _ _ _ _ _ C0.out]; rfl
  have q1 := BW.cell p1
  have q2 := BW.cell p2
  have q3 := BW.cell p3
  have q4 := BW.cell p4
  have q5 := BW.cell p5
  have q6 := BW.cell p6
  have q7 := BW.cell p7
  have q8 := BW.cell p8
  have q9 := BW.cell p9
  have q10 := BW.cell p10
  have q11 := BW.cell p11
  have q12 := BW.cell p12
  have q13 := BW.cell p13
  have q14 := BW.cell p14
  have q15 := BW.cell p15
  have q16 := BW.cell p16
  have s0 := BW.cell m0
  have s1 := BW.cell m1
  have s2 := BW.cell m2
  have s3 := BW.cell m3
  have s4 := BW.cell m4
  have s5 := BW.cell m5
  have s6 := BW.cell m6
  have s7 := BW.cell m7
  have hnon : Nonempty (BW w2) := ⟨⟨w2, Below.refl _ _⟩⟩
  have I : Hid (Below w2.heap.size w2 w2.drew) := (Below.refl _ _).drew
  go_wp2_with fail
  clear p1 p2 p3 p4 p5 p6 p7 p8 p9 p10 p11 p12 p13 p14 p15 p16 m0 m1 m2 m3 m4 m5 m6 m7 P0 C0
  refine RX.wp_region_readers 13 [(1,0),(1,1),(1,2),(1,4),(1,5),(1,6),(1,8),(1,9),(0,3),(0,7),(0,10),(0,11),(0,12),(0,13)] (fun w' => ∃ p : BW w2, w' = p.w) (by kernel_rfl) (by kernel_rfl) ?_ ?_
  · exact ⟨⟨_, I.out⟩, rfl⟩
  iterate 8 (refine RX.walkR_read ?_; simp only [List.drop_succ_cons, List.drop_zero, List.take_succ_cons, List.take_zero]; go_big_quiet_step (fail); refine wpQuiet_nil ?_)
  clear hnon q1 q2 q3 q4 q5 q6 q7 q8 q9 q10 q11 q12 q13 q14 q15 q16 s0 s1 s2 s3 s4 s5 s6 s7
  refine RX.walkR_move ?_
  simp only [List.drop_succ_cons, List.drop_zero, List.take_succ_cons, List.take_zero]
  go_wp2_with fail
  refine Calls.mono (HA.out _ _ _ (B_2.out.drew)) ?_
  rintro e_ wa ⟨aa, ca, rfl, ra_, hb_⟩
  have Wa : Hid (Below w2.heap.size w2 wa) := (Below.refl w2.heap.size w2).drew.trans hb_
  have Ra := Lib.hid ra_
  clear hb_ ra_ HA I
  go_wp2_with fail
  refine ⟨⟨⟨_, Wa.out⟩, rfl⟩, ?_⟩
  refine RX.walkR_move ?_
  simp only [List.drop_succ_cons, List.drop_zero, List.take_succ_cons, List.take_zero]
  go_wp2_with fail
  refine Calls.mono (HB.out _ _ _ (B_2.out.trans (Wa.out.mono B_2.out.size))) ?_
  rintro e_ wb ⟨ab_, cb, rfl, rb_, hb_⟩
  have Wb := Lib.hid (Wa.out.trans (hb_.mono Wa.out.size))
  have Rb := Lib.hid rb_
  replace Ra := Lib.hid (Ra.out.below hb_ (Nat.le_refl _))
  clear hb_ rb_ HB Wa
  go_wp2_with fail
  refine ⟨⟨⟨_, Wb.out⟩, rfl⟩, ?_⟩
  refine RX.walkR_move ?_
  simp only [List.drop_succ_cons, List.drop_zero, List.take_succ_cons, List.take_zero]
  go_wp2_with fail
  refine Calls.mono (HC.out _ _ _ (B_2.out.trans (Wb.out.mono B_2.out.size))) ?_
  rintro e_ wc ⟨ac_, cc, rfl, rc_, hb_⟩
  have Wc := Lib.hid (Wb.out.trans (hb_.mono Wb.out.size))
  have Rc := Lib.hid rc_
  replace Ra := Lib.hid (Ra.out.below hb_ (Nat.le_refl _))
  replace Rb := Lib.hid (Rb.out.below hb_ (Nat.le_refl _))
  clear hb_ rc_ HC Wb
  have Bb := Lib.hid (B_2.out.trans (Wc.out.mono B_2.out.size))
  go_wp2_with fail
  refine ⟨⟨⟨_, Wc.out⟩, rfl⟩, ?_⟩
  replace D0 := Lib.hid (heap_kept D0.out Wc.out (Nat.le_refl _))
  replace Rp := Lib.hid (Rp.out.below Wc.out (Nat.le_refl _))
  refine RX.walkR_move ?_
  simp only [List.drop_succ_cons, List.drop_zero, List.take_succ_cons, List.take_zero]
  go_wp2_with fail
  refine ⟨⟨⟨_, Wc.out⟩, rfl⟩, ?_⟩
  refine RX.walkR_move ?_
  simp only [List.drop_succ_cons, List.drop_zero, List.take_succ_cons, List.take_zero]
  go_wp2_with fail
  refine ⟨⟨⟨_, Wc.out⟩, rfl⟩, ?_⟩
  refine RX.walkR_move ?_
  simp only [List.drop_succ_cons, List.drop_zero, List.take_succ_cons, List.take_zero]
  go_wp2_with fail
  simp only [RX.walkR]
  clear B_2 Wc
  go_wp2_with fail
  refine Calls.mono (Hab.out _ _ _ _ _ _ _ Bb.out Rp.out Ra.out Rb.out) ?_
  rintro e_ w3 ⟨rfl, hb_⟩
  have B_3 := Lib.hid (Bb.out.trans (hb_.mono Bb.out.size))
  replace D0 := Lib.hid (heap_kept D0.out hb_ (Nat.le_refl _))
  replace Rp := Lib.hid (Rp.out.below hb_ (Nat.le_refl _))
  replace Ra := Lib.hid (Ra.out.below hb_ (Nat.le_refl _))
  replace Rb := Lib.hid (Rb.out.below hb_ (Nat.le_refl _))
  replace Rc := Lib.hid (Rc.out.below hb_ (Nat.le_refl _))
  clear hb_ Bb Hab
  go_wp2_with fail
  refine Calls.mono (Hba.out _ _ _ _ _ _ _ B_3.out Rp.out Rb.out Ra.out) ?_
  rintro e_ w4 ⟨rfl, hb_⟩
  have B_4 := Lib.hid (B_3.out.trans (hb_.mono B_3.out.size))
  replace D0 := Lib.hid (heap_kept D0.out hb_ (Nat.le_refl _))
  replace Rp := Lib.hid (Rp.out.below hb_ (Nat.le_refl _))
  replace Ra := Lib.hid (Ra.out.below hb_ (Nat.le_refl _))
  replace Rb := Lib.hid (Rb.out.below hb_ (Nat.le_refl _))
  replace Rc := Lib.hid (Rc.out.below hb_ (Nat.le_refl _))
  clear hb_ B_3 Hba
  go_wp2_with fail
  refine Calls.mono (Hbc.out _ _ _ _ _ _ _ B_4.out Rp.out Rb.out Rc.out) ?_
  rintro e_ w5 ⟨rfl, hb_⟩
  have B_5 := Lib.hid (B_4.out.trans (hb_.mono B_4.out.size))
  replace D0 := Lib.hid (heap_kept D0.out hb_ (Nat.le_refl _))
  replace Rp := Lib.hid (Rp.out.below hb_ (Nat.le_refl _))
  replace Ra := Lib.hid (Ra.out.below hb_ (Nat.le_refl _))
  replace Rb := Lib.hid (Rb.out.below hb_ (Nat.le_refl _))
  replace Rc := Lib.hid (Rc.out.below hb_ (Nat.le_refl _))
  clear hb_ B_4 Hbc
  go_wp2_with fail
  refine Calls.mono (Hac.out _ _ _ _ _ _ _ B_5.out Rp.out Ra.out Rc.out) ?_
  rintro e_ w6 ⟨rfl, hb_⟩
  have B_6 := Lib.hid (B_5.out.trans (hb_.mono B_5.out.size))
  replace D0 := Lib.hid (heap_kept D0.out hb_ (Nat.le_refl _))
  replace Rp := Lib.hid (Rp.out.below hb_ (Nat.le_refl _))
  replace Ra := Lib.hid (Ra.out.below hb_ (Nat.le_refl _))
  replace Rb := Lib.hid (Rb.out.below hb_ (Nat.le_refl _))
  replace Rc := Lib.hid (Rc.out.below hb_ (Nat.le_refl _))
  clear hb_ B_5 Hac
  rcases hord.a with ha | ha | ha
  · subst ha
    rcases hord.b with hb | hb | hb
    · subst hb
      have hac1 : ¬ ac < 0 := by have := hord.ge (by decide) (by decide); omega
      clear hord
      rw [show (decide ((1 : Int) = 0)) = false from rfl] at HE
      rw [Int.mul_one] at Hti
      go_wp2_with fail
      refine Calls.mono (HE.out _ _ _ _ _ Ra.out Rb.out) ?_
      rintro e_ w7 ⟨rfl, hb_⟩
      have B_7 := Lib.hid (B_6.out.trans (hb_.mono B_6.out.size))
      replace D0 := Lib.hid (heap_kept D0.out hb_ (Nat.le_refl _))
      replace Rp := Lib.hid (Rp.out.below hb_ (Nat.le_refl _))
      replace Ra := Lib.hid (Ra.out.below hb_ (Nat.le_refl _))
      replace Rb := Lib.hid (Rb.out.below hb_ (Nat.le_refl _))
      replace Rc := Lib.hid (Rc.out.below hb_ (Nat.le_refl _))
      clear hb_ B_6 HE
      go_wp2_with fail
      refine Calls.mono (HA1.out _ _ _ _ _ _ _ B_7.out Rp.out Ra.out Rc.out) ?_
      rintro e_ w8 ⟨au, cu, rfl, r_, hb_⟩
      have B_8 := Lib.hid (B_7.out.trans (hb_.mono B_7.out.size))
      replace D0 := Lib.hid (heap_kept D0.out hb_ (Nat.le_refl _))
      replace Rp := Lib.hid (Rp.out.below hb_ (Nat.le_refl _))
      replace Ra := Lib.hid (Ra.out.below hb_ (Nat.le_refl _))
      replace Rb := Lib.hid (Rb.out.below hb_ (Nat.le_refl _))
      replace Rc := Lib.hid (Rc.out.below hb_ (Nat.le_refl _))
      have Ru := Lib.hid r_
      clear hb_ r_ B_7 HA1
      go_wp2_with fail
      refine Calls.mono (HA2.out _ _ _ _ _ _ _ B_8.out Rp.out Rb.out Rc.out) ?_
      rintro e_ w9 ⟨av, cv, rfl, r_, hb_⟩
      have B_9 := Lib.hid (B_8.out.trans (hb_.mono B_8.out.size))
      replace D0 := Lib.hid (heap_kept D0.out hb_ (Nat.le_refl _))
      replace Rp := Lib.hid (Rp.out.below hb_ (Nat.le_refl _))
      replace Ra := Lib.hid (Ra.out.below hb_ (Nat.le_refl _))
      replace Rb := Lib.hid (Rb.out.below hb_ (Nat.le_refl _))
      replace Rc := Lib.hid (Rc.out.below hb_ (Nat.le_refl _))
      replace Ru := Lib.hid (Ru.out.below hb_ (Nat.le_refl _))
      have Rv := Lib.hid r_
      clear hb_ r_ B_8 HA2 Rc
      go_wp2_with fail
      refine Calls.mono (Hsu.out _ _ _ _ _ _ _ B_9.out Rp.out Ru.out Rv.out) ?_
      rintro e_ w10 ⟨rfl, hb_⟩
      have B_10 := Lib.hid (B_9.out.trans (hb_.mono B_9.out.size))
      replace D0 := Lib.hid (heap_kept D0.out hb_ (Nat.le_refl _))
      replace Rp := Lib.hid (Rp.out.below hb_ (Nat.le_refl _))
      replace Ra := Lib.hid (Ra.out.below hb_ (Nat.le_refl _))
      replace Rb := Lib.hid (Rb.out.below hb_ (Nat.le_refl _))
      replace Ru := Lib.hid (Ru.out.below hb_ (Nat.le_refl _))
      replace Rv := Lib.hid (Rv.out.below hb_ (Nat.le_refl _))
      clear hb_ B_9 Hsu Ru Rv
      obtain ⟨k0, k1, -, -⟩ := two_cells D0.out
      go_wp2_with fail
      clear k0 k1
      refine Calls.mono (HFr.out _ B_10.out) ?_
      rintro e_ w11 ⟨rfl, hb_⟩
      have B_11 := Lib.hid (B_10.out.trans (hb_.mono B_10.out.size))
      replace D0 := Lib.hid (heap_kept D0.out hb_ (Nat.le_refl _))
      replace Rp := Lib.hid (Rp.out.below hb_ (Nat.le_refl _))
      replace Ra := Lib.hid (Ra.out.below hb_ (Nat.le_refl _))
      replace Rb := Lib.hid (Rb.out.below hb_ (Nat.le_refl _))
      clear hb_ B_10 
      go_wp2_with fail
      refine Calls.mono (HS1.out _ _ _ _ _ B_11.out Rp.out Ra.out) ?_
      rintro e_ w12 ⟨ax, cx, rfl, r_, hb_⟩
      have B_12 := Lib.hid (B_11.out.trans (hb_.mono B_11.out.size))
      replace D0 := Lib.hid (heap_kept D0.out hb_ (Nat.le_refl _))
      replace Rp := Lib.hid (Rp.out.below hb_ (Nat.le_refl _))
      replace Ra := Lib.hid (Ra.out.below hb_ (Nat.le_refl _))
      replace Rb := Lib.hid (Rb.out.below hb_ (Nat.le_refl _))
      have Rx := Lib.hid r_
      clear hb_ r_ B_11 HS1 Ra
      obtain ⟨k0, k1, -, -⟩ := two_cells D0.out
      go_wp2_with fail
      clear k0 k1
      refine Calls.mono (HFr.out _ B_12.out) ?_
      rintro e_ w13 ⟨rfl, hb_⟩
      have B_13 := Lib.hid (B_12.out.trans (hb_.mono B_12.out.size))
      replace D0 := Lib.hid (heap_kept D0.out hb_ (Nat.le_refl _))
      replace Rp := Lib.hid (Rp.out.below hb_ (Nat.le_refl _))
      replace Rb := Lib.hid (Rb.out.below hb_ (Nat.le_refl _))
      replace Rx := Lib.hid (Rx.out.below hb_ (Nat.le_refl _))
      clear hb_ B_12 
      go_wp2_with fail
      refine Calls.mono (HS2.out _ _ _ _ _ B_13.out Rp.out Rb.out) ?_
      rintro e_ w14 ⟨ay, cy, rfl, r_, hb_⟩
      have B_14 := Lib.hid (B_13.out.trans (hb_.mono B_13.out.size))
      replace D0 := Lib.hid (heap_kept D0.out hb_ (Nat.le_refl _))
      replace Rp := Lib.hid (Rp.out.below hb_ (Nat.le_refl _))
      replace Rb := Lib.hid (Rb.out.below hb_ (Nat.le_refl _))
      replace Rx := Lib.hid (Rx.out.below hb_ (Nat.le_refl _))
      have Ry := Lib.hid r_
      clear hb_ r_ B_13 HS2 Rb
      go_wp2_with fail
      refine Calls.mono (Hti.out _ _ _ _ _ _ _ B_14.out Rp.out Rx.out Ry.out) ?_
      rintro e_ w15 ⟨rfl, hb_⟩
      have B_15 := Lib.hid (B_14.out.trans (hb_.mono B_14.out.size))
      replace D0 := Lib.hid (heap_kept D0.out hb_ (Nat.le_refl _))
      replace Rp := Lib.hid (Rp.out.below hb_ (Nat.le_refl _))
      replace Rx := Lib.hid (Rx.out.below hb_ (Nat.le_refl _))
      replace Ry := Lib.hid (Ry.out.below hb_ (Nat.le_refl _))
      clear hb_ B_14 Hti Rx Ry
      obtain ⟨k0, k1, -, -⟩ := two_cells D0.out
      go_wp2_with fail
      clear k0 k1
      refine Calls.mono (HFr.out _ B_15.out) ?_
      rintro e_ w16 ⟨rfl, hb_⟩
      have B_16 := Lib.hid (B_15.out.trans (hb_.mono B_15.out.size))
      replace D0 := Lib.hid (heap_kept D0.out hb_ (Nat.le_refl _))
      replace Rp := Lib.hid (Rp.out.below hb_ (Nat.le_refl _))
      clear hb_ B_15 
      go_wp2_with fail
      refine Calls.mono (HSg.out _) ?_
      rintro e_ w17 ⟨rfl, hb_⟩
      have B_17 := Lib.hid (B_16.out.trans (hb_.mono B_16.out.size))
      replace D0 := Lib.hid (heap_kept D0.out hb_ (Nat.le_refl _))
      replace Rp := Lib.hid (Rp.out.below hb_ (Nat.le_refl _))
      clear hb_ B_16 
      go_wp2_with fail
      go_ret
      exact ⟨rfl, B_17.out⟩
    · subst hb
      have hac1 : ¬ ac < 0 := by have := hord.ge (by decide) (by decide); omega
      clear hord
      rw [show (decide ((1 : Int) = 0)) = false from rfl] at HE
      rw [Int.mul_one] at Hti
      go_wp2_with fail
      refine Calls.mono (HE.out _ _ _ _ _ Ra.out Rb.out) ?_
      rintro e_ w7 ⟨rfl, hb_⟩
      have B_7 := Lib.hid (B_6.out.trans (hb_.mono B_6.out.size))
      replace D0 := Lib.hid (heap_kept D0.out hb_ (Nat.le_refl _))
      replace Rp := Lib.hid (Rp.out.below hb_ (Nat.le_refl _))
      replace Ra := Lib.hid (Ra.out.below hb_ (Nat.le_refl _))
      replace Rb := Lib.hid (Rb.out.below hb_ (Nat.le_refl _))
      replace Rc := Lib.hid (Rc.out.below hb_ (Nat.le_refl _))
      clear hb_ B_6 HE
      go_wp2_with fail
      refine Calls.mono (HA1.out _ _ _ _ _ _ _ B_7.out Rp.out Ra.out Rc.out) ?_
      rintro e_ w8 ⟨au, cu, rfl, r_, hb_⟩
      have B_8 := Lib.hid (B_7.out.trans (hb_.mono B_7.out.size))
      replace D0 := Lib.hid (heap_kept D0.out hb_ (Nat.le_refl _))
      replace Rp := Lib.hid (Rp.out.below hb_ (Nat.le_refl _))
      replace Ra := Lib.hid (Ra.out.below hb_ (Nat.le_refl _))
      replace Rb := Lib.hid (Rb.out.below hb_ (Nat.le_refl _))
      replace Rc := Lib.hid (Rc.out.below hb_ (Nat.le_refl _))
      have Ru := Lib.hid r_
      clear hb_ r_ B_7 HA1
      go_wp2_with fail
      refine Calls.mono (HA2.out _ _ _ _ _ _ _ B_8.out Rp.out Rb.out Rc.out) ?_
      rintro e_ w9 ⟨av, cv, rfl, r_, hb_⟩
      have B_9 := Lib.hid (B_8.out.trans (hb_.mono B_8.out.size))
      replace D0 := Lib.hid (heap_kept D0.out hb_ (Nat.le_refl _))
      replace Rp := Lib.hid (Rp.out.below hb_ (Nat.le_refl _))
      replace Ra := Lib.hid (Ra.out.below hb_ (Nat.le_refl _))
      replace Rb := Lib.hid (Rb.out.below hb_ (Nat.le_refl _))
      replace Rc := Lib.hid (Rc.out.below hb_ (Nat.le_refl _))
      replace Ru := Lib.hid (Ru.out.below hb_ (Nat.le_refl _))
      have Rv := Lib.hid r_
      clear hb_ r_ B_8 HA2 Rc
      go_wp2_with fail
      refine Calls.mono (Hsu.out _ _ _ _ _ _ _ B_9.out Rp.out Ru.out Rv.out) ?_
      rintro e_ w10 ⟨rfl, hb_⟩
      have B_10 := Lib.hid (B_9.out.trans (hb_.mono B_9.out.size))
      replace D0 := Lib.hid (heap_kept D0.out hb_ (Nat.le_refl _))
      replace Rp := Lib.hid (Rp.out.below hb_ (Nat.le_refl _))
      replace Ra := Lib.hid (Ra.out.below hb_ (Nat.le_refl _))
      replace Rb := Lib.hid (Rb.out.below hb_ (Nat.le_refl _))
      replace Ru := Lib.hid (Ru.out.below hb_ (Nat.le_refl _))
      replace Rv := Lib.hid (Rv.out.below hb_ (Nat.le_refl _))
      clear hb_ B_9 Hsu Ru Rv
      obtain ⟨k0, k1, -, -⟩ := two_cells D0.out
      go_wp2_with fail
      clear k0 k1
      refine Calls.mono (HFr.out _ B_10.out) ?_
      rintro e_ w11 ⟨rfl, hb_⟩
      have B_11 := Lib.hid (B_10.out.trans (hb_.mono B_10.out.size))
      replace D0 := Lib.hid (heap_kept D0.out hb_ (Nat.le_refl _))
      replace Rp := Lib.hid (Rp.out.below hb_ (Nat.le_refl _))
      replace Ra := Lib.hid (Ra.out.below hb_ (Nat.le_refl _))
      replace Rb := Lib.hid (Rb.out.below hb_ (Nat.le_refl _))
      clear hb_ B_10 
      go_wp2_with fail
      refine Calls.mono (HS1.out _ _ _ _ _ B_11.out Rp.out Ra.out) ?_
      rintro e_ w12 ⟨ax, cx, rfl, r_, hb_⟩
      have B_12 := Lib.hid (B_11.out.trans (hb_.mono B_11.out.size))
      replace D0 := Lib.hid (heap_kept D0.out hb_ (Nat.le_refl _))
      replace Rp := Lib.hid (Rp.out.below hb_ (Nat.le_refl _))
      replace Ra := Lib.hid (Ra.out.below hb_ (Nat.le_refl _))
      replace Rb := Lib.hid (Rb.out.below hb_ (Nat.le_refl _))
      have Rx := Lib.hid r_
      clear hb_ r_ B_11 HS1 Ra
      obtain ⟨k0, k1, -, -⟩ := two_cells D0.out
      go_wp2_with fail
      clear k0 k1
      refine Calls.mono (HFr.out _ B_12.out) ?_
      rintro e_ w13 ⟨rfl, hb_⟩
      have B_13 := Lib.hid (B_12.out.trans (hb_.mono B_12.out.size))
      replace D0 := Lib.hid (heap_kept D0.out hb_ (Nat.le_refl _))
      replace Rp := Lib.hid (Rp.out.below hb_ (Nat.le_refl _))
      replace Rb := Lib.hid (Rb.out.below hb_ (Nat.le_refl _))
      replace Rx := Lib.hid (Rx.out.below hb_ (Nat.le_refl _))
      clear hb_ B_12 
      go_wp2_with fail
      refine Calls.mono (HS2.out _ _ _ _ _ B_13.out Rp.out Rb.out) ?_
      rintro e_ w14 ⟨ay, cy, rfl, r_, hb_⟩
      have B_14 := Lib.hid (B_13.out.trans (hb_.mono B_13.out.size))
      replace D0 := Lib.hid (heap_kept D0.out hb_ (Nat.le_refl _))
      replace Rp := Lib.hid (Rp.out.below hb_ (Nat.le_refl _))
      replace Rb := Lib.hid (Rb.out.below hb_ (Nat.le_refl _))
      replace Rx := Lib.hid (Rx.out.below hb_ (Nat.le_refl _))
      have Ry := Lib.hid r_
      clear hb_ r_ B_13 HS2 Rb
      go_wp2_with fail
      refine Calls.mono (Hti.out _ _ _ _ _ _ _ B_14.out Rp.out Rx.out Ry.out) ?_
      rintro e_ w15 ⟨rfl, hb_⟩
      have B_15 := Lib.hid (B_14.out.trans (hb_.mono B_14.out.size))
      replace D0 := Lib.hid (heap_kept D0.out hb_ (Nat.le_refl _))
      replace Rp := Lib.hid (Rp.out.below hb_ (Nat.le_refl _))
      replace Rx := Lib.hid (Rx.out.below hb_ (Nat.le_refl _))
      replace Ry := Lib.hid (Ry.out.below hb_ (Nat.le_refl _))
      clear hb_ B_14 Hti Rx Ry
      obtain ⟨k0, k1, -, -⟩ := two_cells D0.out
      go_wp2_with fail
      clear k0 k1
      refine Calls.mono (HFr.out _ B_15.out) ?_
      rintro e_ w16 ⟨rfl, hb_⟩
      have B_16 := Lib.hid (B_15.out.trans (hb_.mono B_15.out.size))
      replace D0 := Lib.hid (heap_kept D0.out hb_ (Nat.le_refl _))
      replace Rp := Lib.hid (Rp.out.below hb_ (Nat.le_refl _))
      clear hb_ B_15 
      go_wp2_with fail
      refine Calls.mono (HSg.out _) ?_
      rintro e_ w17 ⟨rfl, hb_⟩
      have B_17 := Lib.hid (B_16.out.trans (hb_.mono B_16.out.size))
      replace D0 := Lib.hid (heap_kept D0.out hb_ (Nat.le_refl _))
      replace Rp := Lib.hid (Rp.out.below hb_ (Nat.le_refl _))
      clear hb_ B_16 
      go_wp2_with fail
      go_ret
      exact ⟨rfl, B_17.out⟩
    · subst hb
      clear hord
      rw [show (decide ((1 : Int) = 0)) = false from rfl] at HE
      rw [Int.mul_one] at Hti
      go_wp2_with fail
      refine Calls.mono (HE.out _ _ _ _ _ Ra.out Rb.out) ?_
      rintro e_ w7 ⟨rfl, hb_⟩
      have B_7 := Lib.hid (B_6.out.trans (hb_.mono B_6.out.size))
      replace D0 := Lib.hid (heap_kept D0.out hb_ (Nat.le_refl _))
      replace Rp := Lib.hid (Rp.out.below hb_ (Nat.le_refl _))
      replace Ra := Lib.hid (Ra.out.below hb_ (Nat.le_refl _))
      replace Rb := Lib.hid (Rb.out.below hb_ (Nat.le_refl _))
      replace Rc := Lib.hid (Rc.out.below hb_ (Nat.le_refl _))
      clear hb_ B_6 HE
      go_wp2_with fail
      refine Calls.mono (HA1.out _ _ _ _ _ _ _ B_7.out Rp.out Ra.out Rc.out) ?_
      rintro e_ w8 ⟨au, cu, rfl, r_, hb_⟩
      have B_8 := Lib.hid (B_7.out.trans (hb_.mono B_7.out.size))
      replace D0 := Lib.hid (heap_kept D0.out hb_ (Nat.le_refl _))
      replace Rp := Lib.hid (Rp.out.below hb_ (Nat.le_refl _))
      replace Ra := Lib.hid (Ra.out.below hb_ (Nat.le_refl _))
      replace Rb := Lib.hid (Rb.out.below hb_ (Nat.le_refl _))
      replace Rc := Lib.hid (Rc.out.below hb_ (Nat.le_refl _))
      have Ru := Lib.hid r_
      clear hb_ r_ B_7 HA1
      go_wp2_with fail
      refine Calls.mono (HA2.out _ _ _ _ _ _ _ B_8.out Rp.out Rb.out Rc.out) ?_
      rintro e_ w9 ⟨av, cv, rfl, r_, hb_⟩
      have B_9 := Lib.hid (B_8.out.trans (hb_.mono B_8.out.size))
      replace D0 := Lib.hid (heap_kept D0.out hb_ (Nat.le_refl _))
      replace Rp := Lib.hid (Rp.out.below hb_ (Nat.le_refl _))
      replace Ra := Lib.hid (Ra.out.below hb_ (Nat.le_refl _))
      replace Rb := Lib.hid (Rb.out.below hb_ (Nat.le_refl _))
      replace Rc := Lib.hid (Rc.out.below hb_ (Nat.le_refl _))
      replace Ru := Lib.hid (Ru.out.below hb_ (Nat.le_refl _))
      have Rv := Lib.hid r_
      clear hb_ r_ B_8 HA2 Rc
      go_wp2_with fail
      refine Calls.mono (Hsu.out _ _ _ _ _ _ _ B_9.out Rp.out Ru.out Rv.out) ?_
      rintro e_ w10 ⟨rfl, hb_⟩
      have B_10 := Lib.hid (B_9.out.trans (hb_.mono B_9.out.size))
      replace D0 := Lib.hid (heap_kept D0.out hb_ (Nat.le_refl _))
      replace Rp := Lib.hid (Rp.out.below hb_ (Nat.le_refl _))
      replace Ra := Lib.hid (Ra.out.below hb_ (Nat.le_refl _))
      replace Rb := Lib.hid (Rb.out.below hb_ (Nat.le_refl _))
      replace Ru := Lib.hid (Ru.out.below hb_ (Nat.le_refl _))
      replace Rv := Lib.hid (Rv.out.below hb_ (Nat.le_refl _))
      clear hb_ B_9 Hsu Ru Rv
      obtain ⟨k0, k1, -, -⟩ := two_cells D0.out
      go_wp2_with fail
      clear k0 k1
      refine Calls.mono (HFr.out _ B_10.out) ?_
      rintro e_ w11 ⟨rfl, hb_⟩
      have B_11 := Lib.hid (B_10.out.trans (hb_.mono B_10.out.size))
      replace D0 := Lib.hid (heap_kept D0.out hb_ (Nat.le_refl _))
      replace Rp := Lib.hid (Rp.out.below hb_ (Nat.le_refl _))
      replace Ra := Lib.hid (Ra.out.below hb_ (Nat.le_refl _))
      replace Rb := Lib.hid (Rb.out.below hb_ (Nat.le_refl _))
      clear hb_ B_10 
      go_wp2_with fail
      refine Calls.mono (HS1.out _ _ _ _ _ B_11.out Rp.out Ra.out) ?_
      rintro e_ w12 ⟨ax, cx, rfl, r_, hb_⟩
      have B_12 := Lib.hid (B_11.out.trans (hb_.mono B_11.out.size))
      replace D0 := Lib.hid (heap_kept D0.out hb_ (Nat.le_refl _))
      replace Rp := Lib.hid (Rp.out.below hb_ (Nat.le_refl _))
      replace Ra := Lib.hid (Ra.out.below hb_ (Nat.le_refl _))
      replace Rb := Lib.hid (Rb.out.below hb_ (Nat.le_refl _))
      have Rx := Lib.hid r_
      clear hb_ r_ B_11 HS1 Ra
      obtain ⟨k0, k1, -, -⟩ := two_cells D0.out
      go_wp2_with fail
      clear k0 k1
      refine Calls.mono (HFr.out _ B_12.out) ?_
      rintro e_ w13 ⟨rfl, hb_⟩
      have B_13 := Lib.hid (B_12.out.trans (hb_.mono B_12.out.size))
      replace D0 := Lib.hid (heap_kept D0.out hb_ (Nat.le_refl _))
      replace Rp := Lib.hid (Rp.out.below hb_ (Nat.le_refl _))
      replace Rb := Lib.hid (Rb.out.below hb_ (Nat.le_refl _))
      replace Rx := Lib.hid (Rx.out.below hb_ (Nat.le_refl _))
      clear hb_ B_12 
      go_wp2_with fail
      refine Calls.mono (HS2.out _ _ _ _ _ B_13.out Rp.out Rb.out) ?_
      rintro e_ w14 ⟨ay, cy, rfl, r_, hb_⟩
      have B_14 := Lib.hid (B_13.out.trans (hb_.mono B_13.out.size))
      replace D0 := Lib.hid (heap_kept D0.out hb_ (Nat.le_refl _))
      replace Rp := Lib.hid (Rp.out.below hb_ (Nat.le_refl _))
      replace Rb := Lib.hid (Rb.out.below hb_ (Nat.le_refl _))
      replace Rx := Lib.hid (Rx.out.below hb_ (Nat.le_refl _))
      have Ry := Lib.hid r_
      clear hb_ r_ B_13 HS2 Rb
      go_wp2_with fail
      refine Calls.mono (Hti.out _ _ _ _ _ _ _ B_14.out Rp.out Rx.out Ry.out) ?_
      rintro e_ w15 ⟨rfl, hb_⟩
      have B_15 := Lib.hid (B_14.out.trans (hb_.mono B_14.out.size))
      replace D0 := Lib.hid (heap_kept D0.out hb_ (Nat.le_refl _))
      replace Rp := Lib.hid (Rp.out.below hb_ (Nat.le_refl _))
      replace Rx := Lib.hid (Rx.out.below hb_ (Nat.le_refl _))
      replace Ry := Lib.hid (Ry.out.below hb_ (Nat.le_refl _))
      clear hb_ B_14 Hti Rx Ry
      obtain ⟨k0, k1, -, -⟩ := two_cells D0.out
      go_wp2_with fail
      clear k0 k1
      refine Calls.mono (HFr.out _ B_15.out) ?_
      rintro e_ w16 ⟨rfl, hb_⟩
      have B_16 := Lib.hid (B_15.out.trans (hb_.mono B_15.out.size))
      replace D0 := Lib.hid (heap_kept D0.out hb_ (Nat.le_refl _))
      replace Rp := Lib.hid (Rp.out.below hb_ (Nat.le_refl _))
      clear hb_ B_15 
      go_wp2_with fail
      refine Calls.mono (HSg.out _) ?_
      rintro e_ w17 ⟨rfl, hb_⟩
      have B_17 := Lib.hid (B_16.out.trans (hb_.mono B_16.out.size))
      replace D0 := Lib.hid (heap_kept D0.out hb_ (Nat.le_refl _))
      replace Rp := Lib.hid (Rp.out.below hb_ (Nat.le_refl _))
      clear hb_ B_16 
      go_wp2_with fail
      go_ret
      exact ⟨rfl, B_17.out⟩
  · subst ha
    rcases hord.b with hb | hb | hb
    · subst hb
      have hac1 : ¬ ac < 0 := by have := hord.ge (by decide) (by decide); omega
      clear hord
      rw [show (decide ((0 : Int) = 0)) = true from rfl] at HE
      rw [Int.mul_zero] at Hti
      go_wp2_with fail
      refine Calls.mono (HE.out _ _ _ _ _ Ra.out Rb.out) ?_
      rintro e_ w7 ⟨rfl, hb_⟩
      have B_7 := Lib.hid (B_6.out.trans (hb_.mono B_6.out.size))
      replace D0 := Lib.hid (heap_kept D0.out hb_ (Nat.le_refl _))
      replace Rp := Lib.hid (Rp.out.below hb_ (Nat.le_refl _))
      replace Ra := Lib.hid (Ra.out.below hb_ (Nat.le_refl _))
      replace Rb := Lib.hid (Rb.out.below hb_ (Nat.le_refl _))
      replace Rc := Lib.hid (Rc.out.below hb_ (Nat.le_refl _))
      clear hb_ B_6 HE
      go_wp2_with fail
      refine Calls.mono (HA1.out _ _ _ _ _ _ _ B_7.out Rp.out Ra.out Rc.out) ?_
      rintro e_ w8 ⟨au, cu, rfl, r_, hb_⟩
      have B_8 := Lib.hid (B_7.out.trans (hb_.mono B_7.out.size))
      replace D0 := Lib.hid (heap_kept D0.out hb_ (Nat.le_refl _))
      replace Rp := Lib.hid (Rp.out.below hb_ (Nat.le_refl _))
      replace Ra := Lib.hid (Ra.out.below hb_ (Nat.le_refl _))
      replace Rb := Lib.hid (Rb.out.below hb_ (Nat.le_refl _))
      replace Rc := Lib.hid (Rc.out.below hb_ (Nat.le_refl _))
      have Ru := Lib.hid r_
      clear hb_ r_ B_7 HA1
      go_wp2_with fail
      refine Calls.mono (HA2.out _ _ _ _ _ _ _ B_8.out Rp.out Rb.out Rc.out) ?_
      rintro e_ w9 ⟨av, cv, rfl, r_, hb_⟩
      have B_9 := Lib.hid (B_8.out.trans (hb_.mono B_8.out.size))
      replace D0 := Lib.hid (heap_kept D0.out hb_ (Nat.le_refl _))
      replace Rp := Lib.hid (Rp.out.below hb_ (Nat.le_refl _))
      replace Ra := Lib.hid (Ra.out.below hb_ (Nat.le_refl _))
      replace Rb := Lib.hid (Rb.out.below hb_ (Nat.le_refl _))
      replace Rc := Lib.hid (Rc.out.below hb_ (Nat.le_refl _))
      replace Ru := Lib.hid (Ru.out.below hb_ (Nat.le_refl _))
      have Rv := Lib.hid r_
      clear hb_ r_ B_8 HA2 Rc
      go_wp2_with fail
      refine Calls.mono (Hsu.out _ _ _ _ _ _ _ B_9.out Rp.out Ru.out Rv.out) ?_
      rintro e_ w10 ⟨rfl, hb_⟩
      have B_10 := Lib.hid (B_9.out.trans (hb_.mono B_9.out.size))
      replace D0 := Lib.hid (heap_kept D0.out hb_ (Nat.le_refl _))
      replace Rp := Lib.hid (Rp.out.below hb_ (Nat.le_refl _))
      replace Ra := Lib.hid (Ra.out.below hb_ (Nat.le_refl _))
      replace Rb := Lib.hid (Rb.out.below hb_ (Nat.le_refl _))
      replace Ru := Lib.hid (Ru.out.below hb_ (Nat.le_refl _))
      replace Rv := Lib.hid (Rv.out.below hb_ (Nat.le_refl _))
      clear hb_ B_9 Hsu Ru Rv
      obtain ⟨k0, k1, -, -⟩ := two_cells D0.out
      go_wp2_with fail
      clear k0 k1
      refine Calls.mono (HFr.out _ B_10.out) ?_
      rintro e_ w11 ⟨rfl, hb_⟩
      have B_11 := Lib.hid (B_10.out.trans (hb_.mono B_10.out.size))
      replace D0 := Lib.hid (heap_kept D0.out hb_ (Nat.le_refl _))
      replace Rp := Lib.hid (Rp.out.below hb_ (Nat.le_refl _))
      replace Ra := Lib.hid (Ra.out.below hb_ (Nat.le_refl _))
      replace Rb := Lib.hid (Rb.out.below hb_ (Nat.le_refl _))
      clear hb_ B_10 
      go_wp2_with fail
      refine Calls.mono (HS1.out _ _ _ _ _ B_11.out Rp.out Ra.out) ?_
      rintro e_ w12 ⟨ax, cx, rfl, r_, hb_⟩
      have B_12 := Lib.hid (B_11.out.trans (hb_.mono B_11.out.size))
      replace D0 := Lib.hid (heap_kept D0.out hb_ (Nat.le_refl _))
      replace Rp := Lib.hid (Rp.out.below hb_ (Nat.le_refl _))
      replace Ra := Lib.hid (Ra.out.below hb_ (Nat.le_refl _))
      replace Rb := Lib.hid (Rb.out.below hb_ (Nat.le_refl _))
      have Rx := Lib.hid r_
      clear hb_ r_ B_11 HS1 Ra
      obtain ⟨k0, k1, -, -⟩ := two_cells D0.out
      go_wp2_with fail
      clear k0 k1
      refine Calls.mono (HFr.out _ B_12.out) ?_
      rintro e_ w13 ⟨rfl, hb_⟩
      have B_13 := Lib.hid (B_12.out.trans (hb_.mono B_12.out.size))
      replace D0 := Lib.hid (heap_kept D0.out hb_ (Nat.le_refl _))
      replace Rp := Lib.hid (Rp.out.below hb_ (Nat.le_refl _))
      replace Rb := Lib.hid (Rb.out.below hb_ (Nat.le_refl _))
      replace Rx := Lib.hid (Rx.out.below hb_ (Nat.le_refl _))
      clear hb_ B_12 
      go_wp2_with fail
      refine Calls.mono (HS2.out _ _ _ _ _ B_13.out Rp.out Rb.out) ?_
      rintro e_ w14 ⟨ay, cy, rfl, r_, hb_⟩
      have B_14 := Lib.hid (B_13.out.trans (hb_.mono B_13.out.size))
      replace D0 := Lib.hid (heap_kept D0.out hb_ (Nat.le_refl _))
      replace Rp := Lib.hid (Rp.out.below hb_ (Nat.le_refl _))
      replace Rb := Lib.hid (Rb.out.below hb_ (Nat.le_refl _))
      replace Rx := Lib.hid (Rx.out.below hb_ (Nat.le_refl _))
      have Ry := Lib.hid r_
      clear hb_ r_ B_13 HS2 Rb
      go_wp2_with fail
      refine Calls.mono (Hti.out _ _ _ _ _ _ _ B_14.out Rp.out Rx.out Ry.out) ?_
      rintro e_ w15 ⟨rfl, hb_⟩
      have B_15 := Lib.hid (B_14.out.trans (hb_.mono B_14.out.size))
      replace D0 := Lib.hid (heap_kept D0.out hb_ (Nat.le_refl _))
      replace Rp := Lib.hid (Rp.out.below hb_ (Nat.le_refl _))
      replace Rx := Lib.hid (Rx.out.below hb_ (Nat.le_refl _))
      replace Ry := Lib.hid (Ry.out.below hb_ (Nat.le_refl _))
      clear hb_ B_14 Hti Rx Ry
      obtain ⟨k0, k1, -, -⟩ := two_cells D0.out
      go_wp2_with fail
      clear k0 k1
      refine Calls.mono (HFr.out _ B_15.out) ?_
      rintro e_ w16 ⟨rfl, hb_⟩
      have B_16 := Lib.hid (B_15.out.trans (hb_.mono B_15.out.size))
      replace D0 := Lib.hid (heap_kept D0.out hb_ (Nat.le_refl _))
      replace Rp := Lib.hid (Rp.out.below hb_ (Nat.le_refl _))
      clear hb_ B_15 
      go_wp2_with fail
      refine Calls.mono (HSg.out _) ?_
      rintro e_ w17 ⟨rfl, hb_⟩
      have B_17 := Lib.hid (B_16.out.trans (hb_.mono B_16.out.size))
      replace D0 := Lib.hid (heap_kept D0.out hb_ (Nat.le_refl _))
      replace Rp := Lib.hid (Rp.out.below hb_ (Nat.le_refl _))
      clear hb_ B_16 
      go_wp2_with fail
      go_ret
      exact ⟨rfl, B_17.out⟩
    · subst hb
      have hac1 : ¬ ac < 0 := by have := hord.ge (by decide) (by decide); omega
      have hac2 : ¬ 0 < ac := by have := hord.le (by decide) (by decide); omega
      clear hord
      rw [show (decide ((0 : Int) = 0)) = true from rfl] at HE
      rw [Int.mul_zero] at Hti
      go_wp2_with fail
      refine Calls.mono (HE.out _ _ _ _ _ Ra.out Rb.out) ?_
      rintro e_ w7 ⟨rfl, hb_⟩
      have B_7 := Lib.hid (B_6.out.trans (hb_.mono B_6.out.size))
      replace D0 := Lib.hid (heap_kept D0.out hb_ (Nat.le_refl _))
      replace Rp := Lib.hid (Rp.out.below hb_ (Nat.le_refl _))
      replace Ra := Lib.hid (Ra.out.below hb_ (Nat.le_refl _))
      replace Rb := Lib.hid (Rb.out.below hb_ (Nat.le_refl _))
      replace Rc := Lib.hid (Rc.out.below hb_ (Nat.le_refl _))
      clear hb_ B_6 HE
      go_wp2_with fail
      refine Calls.mono (HA1.out _ _ _ _ _ _ _ B_7.out Rp.out Ra.out Rc.out) ?_
      rintro e_ w8 ⟨au, cu, rfl, r_, hb_⟩
      have B_8 := Lib.hid (B_7.out.trans (hb_.mono B_7.out.size))
      replace D0 := Lib.hid (heap_kept D0.out hb_ (Nat.le_refl _))
      replace Rp := Lib.hid (Rp.out.below hb_ (Nat.le_refl _))
      replace Ra := Lib.hid (Ra.out.below hb_ (Nat.le_refl _))
      replace Rb := Lib.hid (Rb.out.below hb_ (Nat.le_refl _))
      replace Rc := Lib.hid (Rc.out.below hb_ (Nat.le_refl _))
      have Ru := Lib.hid r_
      clear hb_ r_ B_7 HA1
      go_wp2_with fail
      refine Calls.mono (HA2.out _ _ _ _ _ _ _ B_8.out Rp.out Rb.out Rc.out) ?_
      rintro e_ w9 ⟨av, cv, rfl, r_, hb_⟩
      have B_9 := Lib.hid (B_8.out.trans (hb_.mono B_8.out.size))
      replace D0 := Lib.hid (heap_kept D0.out hb_ (Nat.le_refl _))
      replace Rp := Lib.hid (Rp.out.below hb_ (Nat.le_refl _))
      replace Ra := Lib.hid (Ra.out.below hb_ (Nat.le_refl _))
      replace Rb := Lib.hid (Rb.out.below hb_ (Nat.le_refl _))
      replace Rc := Lib.hid (Rc.out.below hb_ (Nat.le_refl _))
      replace Ru := Lib.hid (Ru.out.below hb_ (Nat.le_refl _))
      have Rv := Lib.hid r_
      clear hb_ r_ B_8 HA2 Rc
      go_wp2_with fail
      refine Calls.mono (Hsu.out _ _ _ _ _ _ _ B_9.out Rp.out Ru.out Rv.out) ?_
      rintro e_ w10 ⟨rfl, hb_⟩
      have B_10 := Lib.hid (B_9.out.trans (hb_.mono B_9.out.size))
      replace D0 := Lib.hid (heap_kept D0.out hb_ (Nat.le_refl _))
      replace Rp := Lib.hid (Rp.out.below hb_ (Nat.le_refl _))
      replace Ra := Lib.hid (Ra.out.below hb_ (Nat.le_refl _))
      replace Rb := Lib.hid (Rb.out.below hb_ (Nat.le_refl _))
      replace Ru := Lib.hid (Ru.out.below hb_ (Nat.le_refl _))
      replace Rv := Lib.hid (Rv.out.below hb_ (Nat.le_refl _))
      clear hb_ B_9 Hsu Ru Rv
      obtain ⟨k0, k1, -, -⟩ := two_cells D0.out
      go_wp2_with fail
      clear k0 k1
      refine Calls.mono (HFr.out _ B_10.out) ?_
      rintro e_ w11 ⟨rfl, hb_⟩
      have B_11 := Lib.hid (B_10.out.trans (hb_.mono B_10.out.size))
      replace D0 := Lib.hid (heap_kept D0.out hb_ (Nat.le_refl _))
      replace Rp := Lib.hid (Rp.out.below hb_ (Nat.le_refl _))
      replace Ra := Lib.hid (Ra.out.below hb_ (Nat.le_refl _))
      replace Rb := Lib.hid (Rb.out.below hb_ (Nat.le_refl _))
      clear hb_ B_10 
      go_wp2_with fail
      refine Calls.mono (HS1.out _ _ _ _ _ B_11.out Rp.out Ra.out) ?_
      rintro e_ w12 ⟨ax, cx, rfl, r_, hb_⟩
      have B_12 := Lib.hid (B_11.out.trans (hb_.mono B_11.out.size))
      replace D0 := Lib.hid (heap_kept D0.out hb_ (Nat.le_refl _))
      replace Rp := Lib.hid (Rp.out.below hb_ (Nat.le_refl _))
      replace Ra := Lib.hid (Ra.out.below hb_ (Nat.le_refl _))
      replace Rb := Lib.hid (Rb.out.below hb_ (Nat.le_refl _))
      have Rx := Lib.hid r_
      clear hb_ r_ B_11 HS1 Ra
      obtain ⟨k0, k1, -, -⟩ := two_cells D0.out
      go_wp2_with fail
      clear k0 k1
      refine Calls.mono (HFr.out _ B_12.out) ?_
      rintro e_ w13 ⟨rfl, hb_⟩
      have B_13 := Lib.hid (B_12.out.trans (hb_.mono B_12.out.size))
      replace D0 := Lib.hid (heap_kept D0.out hb_ (Nat.le_refl _))
      replace Rp := Lib.hid (Rp.out.below hb_ (Nat.le_refl _))
      replace Rb := Lib.hid (Rb.out.below hb_ (Nat.le_refl _))
      replace Rx := Lib.hid (Rx.out.below hb_ (Nat.le_refl _))
      clear hb_ B_12 
      go_wp2_with fail
      refine Calls.mono (HS2.out _ _ _ _ _ B_13.out Rp.out Rb.out) ?_
      rintro e_ w14 ⟨ay, cy, rfl, r_, hb_⟩
      have B_14 := Lib.hid (B_13.out.trans (hb_.mono B_13.out.size))
      replace D0 := Lib.hid (heap_kept D0.out hb_ (Nat.le_refl _))
      replace Rp := Lib.hid (Rp.out.below hb_ (Nat.le_refl _))
      replace Rb := Lib.hid (Rb.out.below hb_ (Nat.le_refl _))
      replace Rx := Lib.hid (Rx.out.below hb_ (Nat.le_refl _))
      have Ry := Lib.hid r_
      clear hb_ r_ B_13 HS2 Rb
      go_wp2_with fail
      refine Calls.mono (Hti.out _ _ _ _ _ _ _ B_14.out Rp.out Rx.out Ry.out) ?_
      rintro e_ w15 ⟨rfl, hb_⟩
      have B_15 := Lib.hid (B_14.out.trans (hb_.mono B_14.out.size))
      replace D0 := Lib.hid (heap_kept D0.out hb_ (Nat.le_refl _))
      replace Rp := Lib.hid (Rp.out.below hb_ (Nat.le_refl _))
      replace Rx := Lib.hid (Rx.out.below hb_ (Nat.le_refl _))
      replace Ry := Lib.hid (Ry.out.below hb_ (Nat.le_refl _))
      clear hb_ B_14 Hti Rx Ry
      obtain ⟨k0, k1, -, -⟩ := two_cells D0.out
      go_wp2_with fail
      clear k0 k1
      refine Calls.mono (HFr.out _ B_15.out) ?_
      rintro e_ w16 ⟨rfl, hb_⟩
      have B_16 := Lib.hid (B_15.out.trans (hb_.mono B_15.out.size))
      replace D0 := Lib.hid (heap_kept D0.out hb_ (Nat.le_refl _))
      replace Rp := Lib.hid (Rp.out.below hb_ (Nat.le_refl _))
      clear hb_ B_15 
      go_wp2_with fail
      refine Calls.mono (HSg.out _) ?_
      rintro e_ w17 ⟨rfl, hb_⟩
      have B_17 := Lib.hid (B_16.out.trans (hb_.mono B_16.out.size))
      replace D0 := Lib.hid (heap_kept D0.out hb_ (Nat.le_refl _))
      replace Rp := Lib.hid (Rp.out.below hb_ (Nat.le_refl _))
      clear hb_ B_16 
      go_wp2_with fail
      go_ret
      exact ⟨rfl, B_17.out⟩
    · subst hb
      have hac2 : ¬ 0 < ac := by have := hord.le (by decide) (by decide); omega
      clear hord
      rw [show (decide ((0 : Int) = 0)) = true from rfl] at HE
      rw [Int.mul_zero] at Hti
      go_wp2_with fail
      refine Calls.mono (HE.out _ _ _ _ _ Ra.out Rb.out) ?_
      rintro e_ w7 ⟨rfl, hb_⟩
      have B_7 := Lib.hid (B_6.out.trans (hb_.mono B_6.out.size))
      replace D0 := Lib.hid (heap_kept D0.out hb_ (Nat.le_refl _))
      replace Rp := Lib.hid (Rp.out.below hb_ (Nat.le_refl _))
      replace Ra := Lib.hid (Ra.out.below hb_ (Nat.le_refl _))
      replace Rb := Lib.hid (Rb.out.below hb_ (Nat.le_refl _))
      replace Rc := Lib.hid (Rc.out.below hb_ (Nat.le_refl _))
      clear hb_ B_6 HE
      go_wp2_with fail
      refine Calls.mono (HA1.out _ _ _ _ _ _ _ B_7.out Rp.out Ra.out Rc.out) ?_
      rintro e_ w8 ⟨au, cu, rfl, r_, hb_⟩
      have B_8 := Lib.hid (B_7.out.trans (hb_.mono B_7.out.size))
      replace D0 := Lib.hid (heap_kept D0.out hb_ (Nat.le_refl _))
      replace Rp := Lib.hid (Rp.out.below hb_ (Nat.le_refl _))
      replace Ra := Lib.hid (Ra.out.below hb_ (Nat.le_refl _))
      replace Rb := Lib.hid (Rb.out.below hb_ (Nat.le_refl _))
      replace Rc := Lib.hid (Rc.out.below hb_ (Nat.le_refl _))
      have Ru := Lib.hid r_
      clear hb_ r_ B_7 HA1
      go_wp2_with fail
      refine Calls.mono (HA2.out _ _ _ _ _ _ _ B_8.out Rp.out Rb.out Rc.out) ?_
      rintro e_ w9 ⟨av, cv, rfl, r_, hb_⟩
      have B_9 := Lib.hid (B_8.out.trans (hb_.mono B_8.out.size))
      replace D0 := Lib.hid (heap_kept D0.out hb_ (Nat.le_refl _))
      replace Rp := Lib.hid (Rp.out.below hb_ (Nat.le_refl _))
      replace Ra := Lib.hid (Ra.out.below hb_ (Nat.le_refl _))
      replace Rb := Lib.hid (Rb.out.below hb_ (Nat.le_refl _))
      replace Rc := Lib.hid (Rc.out.below hb_ (Nat.le_refl _))
      replace Ru := Lib.hid (Ru.out.below hb_ (Nat.le_refl _))
      have Rv := Lib.hid r_
      clear hb_ r_ B_8 HA2 Rc
      go_wp2_with fail
      refine Calls.mono (Hsu.out _ _ _ _ _ _ _ B_9.out Rp.out Ru.out Rv.out) ?_
      rintro e_ w10 ⟨rfl, hb_⟩
      have B_10 := Lib.hid (B_9.out.trans (hb_.mono B_9.out.size))
      replace D0 := Lib.hid (heap_kept D0.out hb_ (Nat.le_refl _))
      replace Rp := Lib.hid (Rp.out.below hb_ (Nat.le_refl _))
      replace Ra := Lib.hid (Ra.out.below hb_ (Nat.le_refl _))
      replace Rb := Lib.hid (Rb.out.below hb_ (Nat.le_refl _))
      replace Ru := Lib.hid (Ru.out.below hb_ (Nat.le_refl _))
      replace Rv := Lib.hid (Rv.out.below hb_ (Nat.le_refl _))
      clear hb_ B_9 Hsu Ru Rv
      obtain ⟨k0, k1, -, -⟩ := two_cells D0.out
      go_wp2_with fail
      clear k0 k1
      refine Calls.mono (HFr.out _ B_10.out) ?_
      rintro e_ w11 ⟨rfl, hb_⟩
      have B_11 := Lib.hid (B_10.out.trans (hb_.mono B_10.out.size))
      replace D0 := Lib.hid (heap_kept D0.out hb_ (Nat.le_refl _))
      replace Rp := Lib.hid (Rp.out.below hb_ (Nat.le_refl _))
      replace Ra := Lib.hid (Ra.out.below hb_ (Nat.le_refl _))
      replace Rb := Lib.hid (Rb.out.below hb_ (Nat.le_refl _))
      clear hb_ B_10 
      go_wp2_with fail
      refine Calls.mono (HS1.out _ _ _ _ _ B_11.out Rp.out Ra.out) ?_
      rintro e_ w12 ⟨ax, cx, rfl, r_, hb_⟩
      have B_12 := Lib.hid (B_11.out.trans (hb_.mono B_11.out.size))
      replace D0 := Lib.hid (heap_kept D0.out hb_ (Nat.le_refl _))
      replace Rp := Lib.hid (Rp.out.below hb_ (Nat.le_refl _))
      replace Ra := Lib.hid (Ra.out.below hb_ (Nat.le_refl _))
      replace Rb := Lib.hid (Rb.out.below hb_ (Nat.le_refl _))
      have Rx := Lib.hid r_
      clear hb_ r_ B_11 HS1 Ra
      obtain ⟨k0, k1, -, -⟩ := two_cells D0.out
      go_wp2_with fail
      clear k0 k1
      refine Calls.mono (HFr.out _ B_12.out) ?_
      rintro e_ w13 ⟨rfl, hb_⟩
      have B_13 := Lib.hid (B_12.out.trans (hb_.mono B_12.out.size))
      replace D0 := Lib.hid (heap_kept D0.out hb_ (Nat.le_refl _))
      replace Rp := Lib.hid (Rp.out.below hb_ (Nat.le_refl _))
      replace Rb := Lib.hid (Rb.out.below hb_ (Nat.le_refl _))
      replace Rx := Lib.hid (Rx.out.below hb_ (Nat.le_refl _))
      clear hb_ B_12 
      go_wp2_with fail
      refine Calls.mono (HS2.out _ _ _ _ _ B_13.out Rp.out Rb.out) ?_
      rintro e_ w14 ⟨ay, cy, rfl, r_, hb_⟩
      have B_14 := Lib.hid (B_13.out.trans (hb_.mono B_13.out.size))
      replace D0 := Lib.hid (heap_kept D0.out hb_ (Nat.le_refl _))
      replace Rp := Lib.hid (Rp.out.below hb_ (Nat.le_refl _))
      replace Rb := Lib.hid (Rb.out.below hb_ (Nat.le_refl _))
      replace Rx := Lib.hid (Rx.out.below hb_ (Nat.le_refl _))
      have Ry := Lib.hid r_
      clear hb_ r_ B_13 HS2 Rb
      go_wp2_with fail
      refine Calls.mono (Hti.out _ _ _ _ _ _ _ B_14.out Rp.out Rx.out Ry.out) ?_
      rintro e_ w15 ⟨rfl, hb_⟩
      have B_15 := Lib.hid (B_14.out.trans (hb_.mono B_14.out.size))
      replace D0 := Lib.hid (heap_kept D0.out hb_ (Nat.le_refl _))
      replace Rp := Lib.hid (Rp.out.below hb_ (Nat.le_refl _))
      replace Rx := Lib.hid (Rx.out.below hb_ (Nat.le_refl _))
      replace Ry := Lib.hid (Ry.out.below hb_ (Nat.le_refl _))
      clear hb_ B_14 Hti Rx Ry
      obtain ⟨k0, k1, -, -⟩ := two_cells D0.out
      go_wp2_with fail
      clear k0 k1
      refine Calls.mono (HFr.out _ B_15.out) ?_
      rintro e_ w16 ⟨rfl, hb_⟩
      have B_16 := Lib.hid (B_15.out.trans (hb_.mono B_15.out.size))
      replace D0 := Lib.hid (heap_kept D0.out hb_ (Nat.le_refl _))
      replace Rp := Lib.hid (Rp.out.below hb_ (Nat.le_refl _))
      clear hb_ B_15 
      go_wp2_with fail
      refine Calls.mono (HSg.out _) ?_
      rintro e_ w17 ⟨rfl, hb_⟩
      have B_17 := Lib.hid (B_16.out.trans (hb_.mono B_16.out.size))
      replace D0 := Lib.hid (heap_kept D0.out hb_ (Nat.le_refl _))
      replace Rp := Lib.hid (Rp.out.below hb_ (Nat.le_refl _))
      clear hb_ B_16 
      go_wp2_with fail
      go_ret
      exact ⟨rfl, B_17.out⟩
  · subst ha
    rcases hord.b with hb | hb | hb
    · subst hb
      clear hord
      rw [show (decide ((-1 : Int) = 0)) = false from rfl] at HE
      rw [Int.mul_neg, Int.mul_one] at Hti
      go_wp2_with fail
      refine Calls.mono (HE.out _ _ _ _ _ Ra.out Rb.out) ?_
      rintro e_ w7 ⟨rfl, hb_⟩
      have B_7 := Lib.hid (B_6.out.trans (hb_.mono B_6.out.size))
      replace D0 := Lib.hid (heap_kept D0.out hb_ (Nat.le_refl _))
      replace Rp := Lib.hid (Rp.out.below hb_ (Nat.le_refl _))
      replace Ra := Lib.hid (Ra.out.below hb_ (Nat.le_refl _))
      replace Rb := Lib.hid (Rb.out.below hb_ (Nat.le_refl _))
      replace Rc := Lib.hid (Rc.out.below hb_ (Nat.le_refl _))
      clear hb_ B_6 HE
      go_wp2_with fail
      refine Calls.mono (HA1.out _ _ _ _ _ _ _ B_7.out Rp.out Ra.out Rc.out) ?_
      rintro e_ w8 ⟨au, cu, rfl, r_, hb_⟩
      have B_8 := Lib.hid (B_7.out.trans (hb_.mono B_7.out.size))
      replace D0 := Lib.hid (heap_kept D0.out hb_ (Nat.le_refl _))
      replace Rp := Lib.hid (Rp.out.below hb_ (Nat.le_refl _))
      replace Ra := Lib.hid (Ra.out.below hb_ (Nat.le_refl _))
      replace Rb := Lib.hid (Rb.out.below hb_ (Nat.le_refl _))
      replace Rc := Lib.hid (Rc.out.below hb_ (Nat.le_refl _))
      have Ru := Lib.hid r_
      clear hb_ r_ B_7 HA1
      go_wp2_with fail
      refine Calls.mono (HA2.out _ _ _ _ _ _ _ B_8.out Rp.out Rb.out Rc.out) ?_
      rintro e_ w9 ⟨av, cv, rfl, r_, hb_⟩
      have B_9 := Lib.hid (B_8.out.trans (hb_.mono B_8.out.size))
      replace D0 := Lib.hid (heap_kept D0.out hb_ (Nat.le_refl _))
      replace Rp := Lib.hid (Rp.out.below hb_ (Nat.le_refl _))
      replace Ra := Lib.hid (Ra.out.below hb_ (Nat.le_refl _))
      replace Rb := Lib.hid (Rb.out.below hb_ (Nat.le_refl _))
      replace Rc := Lib.hid (Rc.out.below hb_ (Nat.le_refl _))
      replace Ru := Lib.hid (Ru.out.below hb_ (Nat.le_refl _))
      have Rv := Lib.hid r_
      clear hb_ r_ B_8 HA2 Rc
      go_wp2_with fail
      refine Calls.mono (Hsu.out _ _ _ _ _ _ _ B_9.out Rp.out Ru.out Rv.out) ?_
      rintro e_ w10 ⟨rfl, hb_⟩
      have B_10 := Lib.hid (B_9.out.trans (hb_.mono B_9.out.size))
      replace D0 := Lib.hid (heap_kept D0.out hb_ (Nat.le_refl _))
      replace Rp := Lib.hid (Rp.out.below hb_ (Nat.le_refl _))
      replace Ra := Lib.hid (Ra.out.below hb_ (Nat.le_refl _))
      replace Rb := Lib.hid (Rb.out.below hb_ (Nat.le_refl _))
      replace Ru := Lib.hid (Ru.out.below hb_ (Nat.le_refl _))
      replace Rv := Lib.hid (Rv.out.below hb_ (Nat.le_refl _))
      clear hb_ B_9 Hsu Ru Rv
      obtain ⟨k0, k1, -, -⟩ := two_cells D0.out
      go_wp2_with fail
      clear k0 k1
      refine Calls.mono (HFr.out _ B_10.out) ?_
      rintro e_ w11 ⟨rfl, hb_⟩
      have B_11 := Lib.hid (B_10.out.trans (hb_.mono B_10.out.size))
      replace D0 := Lib.hid (heap_kept D0.out hb_ (Nat.le_refl _))
      replace Rp := Lib.hid (Rp.out.below hb_ (Nat.le_refl _))
      replace Ra := Lib.hid (Ra.out.below hb_ (Nat.le_refl _))
      replace Rb := Lib.hid (Rb.out.below hb_ (Nat.le_refl _))
      clear hb_ B_10 
      go_wp2_with fail
      refine Calls.mono (HS1.out _ _ _ _ _ B_11.out Rp.out Ra.out) ?_
      rintro e_ w12 ⟨ax, cx, rfl, r_, hb_⟩
      have B_12 := Lib.hid (B_11.out.trans (hb_.mono B_11.out.size))
      replace D0 := Lib.hid (heap_kept D0.out hb_ (Nat.le_refl _))
      replace Rp := Lib.hid (Rp.out.below hb_ (Nat.le_refl _))
      replace Ra := Lib.hid (Ra.out.below hb_ (Nat.le_refl _))
      replace Rb := Lib.hid (Rb.out.below hb_ (Nat.le_refl _))
      have Rx := Lib.hid r_
      clear hb_ r_ B_11 HS1 Ra
      obtain ⟨k0, k1, -, -⟩ := two_cells D0.out
      go_wp2_with fail
      clear k0 k1
      refine Calls.mono (HFr.out _ B_12.out) ?_
      rintro e_ w13 ⟨rfl, hb_⟩
      have B_13 := Lib.hid (B_12.out.trans (hb_.mono B_12.out.size))
      replace D0 := Lib.hid (heap_kept D0.out hb_ (Nat.le_refl _))
      replace Rp := Lib.hid (Rp.out.below hb_ (Nat.le_refl _))
      replace Rb := Lib.hid (Rb.out.below hb_ (Nat.le_refl _))
      replace Rx := Lib.hid (Rx.out.below hb_ (Nat.le_refl _))
      clear hb_ B_12 
      go_wp2_with fail
      refine Calls.mono (HS2.out _ _ _ _ _ B_13.out Rp.out Rb.out) ?_
      rintro e_ w14 ⟨ay, cy, rfl, r_, hb_⟩
      have B_14 := Lib.hid (B_13.out.trans (hb_.mono B_13.out.size))
      replace D0 := Lib.hid (heap_kept D0.out hb_ (Nat.le_refl _))
      replace Rp := Lib.hid (Rp.out.below hb_ (Nat.le_refl _))
      replace Rb := Lib.hid (Rb.out.below hb_ (Nat.le_refl _))
      replace Rx := Lib.hid (Rx.out.below hb_ (Nat.le_refl _))
      have Ry := Lib.hid r_
      clear hb_ r_ B_13 HS2 Rb
      go_wp2_with fail
      refine Calls.mono (Hti.out _ _ _ _ _ _ _ B_14.out Rp.out Rx.out Ry.out) ?_
      rintro e_ w15 ⟨rfl, hb_⟩
      have B_15 := Lib.hid (B_14.out.trans (hb_.mono B_14.out.size))
      replace D0 := Lib.hid (heap_kept D0.out hb_ (Nat.le_refl _))
      replace Rp := Lib.hid (Rp.out.below hb_ (Nat.le_refl _))
      replace Rx := Lib.hid (Rx.out.below hb_ (Nat.le_refl _))
      replace Ry := Lib.hid (Ry.out.below hb_ (Nat.le_refl _))
      clear hb_ B_14 Hti Rx Ry
      obtain ⟨k0, k1, -, -⟩ := two_cells D0.out
      go_wp2_with fail
      clear k0 k1
      refine Calls.mono (HFr.out _ B_15.out) ?_
      rintro e_ w16 ⟨rfl, hb_⟩
      have B_16 := Lib.hid (B_15.out.trans (hb_.mono B_15.out.size))
      replace D0 := Lib.hid (heap_kept D0.out hb_ (Nat.le_refl _))
      replace Rp := Lib.hid (Rp.out.below hb_ (Nat.le_refl _))
      clear hb_ B_15 
      go_wp2_with fail
      refine Calls.mono (HSg.out _) ?_
      rintro e_ w17 ⟨rfl, hb_⟩
      have B_17 := Lib.hid (B_16.out.trans (hb_.mono B_16.out.size))
      replace D0 := Lib.hid (heap_kept D0.out hb_ (Nat.le_refl _))
      replace Rp := Lib.hid (Rp.out.below hb_ (Nat.le_refl _))
      clear hb_ B_16 
      go_wp2_with fail
      go_ret
      exact ⟨rfl, B_17.out⟩
    · subst hb
      have hac2 : ¬ 0 < ac := by have := hord.le (by decide) (by decide); omega
      clear hord
      rw [show (decide ((-1 : Int) = 0)) = false from rfl] at HE
      rw [Int.mul_neg, Int.mul_one] at Hti
      go_wp2_with fail
      refine Calls.mono (HE.out _ _ _ _ _ Ra.out Rb.out) ?_
      rintro e_ w7 ⟨rfl, hb_⟩
      have B_7 := Lib.hid (B_6.out.trans (hb_.mono B_6.out.size))
      replace D0 := Lib.hid (heap_kept D0.out hb_ (Nat.le_refl _))
      replace Rp := Lib.hid (Rp.out.below hb_ (Nat.le_refl _))
      replace Ra := Lib.hid (Ra.out.below hb_ (Nat.le_refl _))
      replace Rb := Lib.hid (Rb.out.below hb_ (Nat.le_refl _))
      replace Rc := Lib.hid (Rc.out.below hb_ (Nat.le_refl _))
      clear hb_ B_6 HE
      go_wp2_with fail
      refine Calls.mono (HA1.out _ _ _ _ _ _ _ B_7.out Rp.out Ra.out Rc.out) ?_
      rintro e_ w8 ⟨au, cu, rfl, r_, hb_⟩
      have B_8 := Lib.hid (B_7.out.trans (hb_.mono B_7.out.size))
      replace D0 := Lib.hid (heap_kept D0.out hb_ (Nat.le_refl _))
      replace Rp := Lib.hid (Rp.out.below hb_ (Nat.le_refl _))
      replace Ra := Lib.hid (Ra.out.below hb_ (Nat.le_refl _))
      replace Rb := Lib.hid (Rb.out.below hb_ (Nat.le_refl _))
      replace Rc := Lib.hid (Rc.out.below hb_ (Nat.le_refl _))
      have Ru := Lib.hid r_
      clear hb_ r_ B_7 HA1
      go_wp2_with fail
      refine Calls.mono (HA2.out _ _ _ _ _ _ _ B_8.out Rp.out Rb.out Rc.out) ?_
      rintro e_ w9 ⟨av, cv, rfl, r_, hb_⟩
      have B_9 := Lib.hid (B_8.out.trans (hb_.mono B_8.out.size))
      replace D0 := Lib.hid (heap_kept D0.out hb_ (Nat.le_refl _))
      replace Rp := Lib.hid (Rp.out.below hb_ (Nat.le_refl _))
      replace Ra := Lib.hid (Ra.out.below hb_ (Nat.le_refl _))
      replace Rb := Lib.hid (Rb.out.below hb_ (Nat.le_refl _))
      replace Rc := Lib.hid (Rc.out.below hb_ (Nat.le_refl _))
      replace Ru := Lib.hid (Ru.out.below hb_ (Nat.le_refl _))
      have Rv := Lib.hid r_
      clear hb_ r_ B_8 HA2 Rc
      go_wp2_with fail
      refine Calls.mono (Hsu.out _ _ _ _ _ _ _ B_9.out Rp.out Ru.out Rv.out) ?_
      rintro e_ w10 ⟨rfl, hb_⟩
      have B_10 := Lib.hid (B_9.out.trans (hb_.mono B_9.out.size))
      replace D0 := Lib.hid (heap_kept D0.out hb_ (Nat.le_refl _))
      replace Rp := Lib.hid (Rp.out.below hb_ (Nat.le_refl _))
      replace Ra := Lib.hid (Ra.out.below hb_ (Nat.le_refl _))
      replace Rb := Lib.hid (Rb.out.below hb_ (Nat.le_refl _))
      replace Ru := Lib.hid (Ru.out.below hb_ (Nat.le_refl _))
      replace Rv := Lib.hid (Rv.out.below hb_ (Nat.le_refl _))
      clear hb_ B_9 Hsu Ru Rv
      obtain ⟨k0, k1, -, -⟩ := two_cells D0.out
      go_wp2_with fail
      clear k0 k1
      refine Calls.mono (HFr.out _ B_10.out) ?_
      rintro e_ w11 ⟨rfl, hb_⟩
      have B_11 := Lib.hid (B_10.out.trans (hb_.mono B_10.out.size))
      replace D0 := Lib.hid (heap_kept D0.out hb_ (Nat.le_refl _))
      replace Rp := Lib.hid (Rp.out.below hb_ (Nat.le_refl _))
      replace Ra := Lib.hid (Ra.out.below hb_ (Nat.le_refl _))
      replace Rb := Lib.hid (Rb.out.below hb_ (Nat.le_refl _))
      clear hb_ B_10 
      go_wp2_with fail
      refine Calls.mono (HS1.out _ _ _ _ _ B_11.out Rp.out Ra.out) ?_
      rintro e_ w12 ⟨ax, cx, rfl, r_, hb_⟩
      have B_12 := Lib.hid (B_11.out.trans (hb_.mono B_11.out.size))
      replace D0 := Lib.hid (heap_kept D0.out hb_ (Nat.le_refl _))
      replace Rp := Lib.hid (Rp.out.below hb_ (Nat.le_refl _))
      replace Ra := Lib.hid (Ra.out.below hb_ (Nat.le_refl _))
      replace Rb := Lib.hid (Rb.out.below hb_ (Nat.le_refl _))
      have Rx := Lib.hid r_
      clear hb_ r_ B_11 HS1 Ra
      obtain ⟨k0, k1, -, -⟩ := two_cells D0.out
      go_wp2_with fail
      clear k0 k1
      refine Calls.mono (HFr.out _ B_12.out) ?_
      rintro e_ w13 ⟨rfl, hb_⟩
      have B_13 := Lib.hid (B_12.out.trans (hb_.mono B_12.out.size))
      replace D0 := Lib.hid (heap_kept D0.out hb_ (Nat.le_refl _))
      replace Rp := Lib.hid (Rp.out.below hb_ (Nat.le_refl _))
      replace Rb := Lib.hid (Rb.out.below hb_ (Nat.le_refl _))
      replace Rx := Lib.hid (Rx.out.below hb_ (Nat.le_refl _))
      clear hb_ B_12 
      go_wp2_with fail
      refine Calls.mono (HS2.out _ _ _ _ _ B_13.out Rp.out Rb.out) ?_
      rintro e_ w14 ⟨ay, cy, rfl, r_, hb_⟩
      have B_14 := Lib.hid (B_13.out.trans (hb_.mono B_13.out.size))
      replace D0 := Lib.hid (heap_kept D0.out hb_ (Nat.le_refl _))
      replace Rp := Lib.hid (Rp.out.below hb_ (Nat.le_refl _))
      replace Rb := Lib.hid (Rb.out.below hb_ (Nat.le_refl _))
      replace Rx := Lib.hid (Rx.out.below hb_ (Nat.le_refl _))
      have Ry := Lib.hid r_
      clear hb_ r_ B_13 HS2 Rb
      go_wp2_with fail
      refine Calls.mono (Hti.out _ _ _ _ _ _ _ B_14.out Rp.out Rx.out Ry.out) ?_
      rintro e_ w15 ⟨rfl, hb_⟩
      have B_15 := Lib.hid (B_14.out.trans (hb_.mono B_14.out.size))
      replace D0 := Lib.hid (heap_kept D0.out hb_ (Nat.le_refl _))
      replace Rp := Lib.hid (Rp.out.below hb_ (Nat.le_refl _))
      replace Rx := Lib.hid (Rx.out.below hb_ (Nat.le_refl _))
      replace Ry := Lib.hid (Ry.out.below hb_ (Nat.le_refl _))
      clear hb_ B_14 Hti Rx Ry
      obtain ⟨k0, k1, -, -⟩ := two_cells D0.out
      go_wp2_with fail
      clear k0 k1
      refine Calls.mono (HFr.out _ B_15.out) ?_
      rintro e_ w16 ⟨rfl, hb_⟩
      have B_16 := Lib.hid (B_15.out.trans (hb_.mono B_15.out.size))
      replace D0 := Lib.hid (heap_kept D0.out hb_ (Nat.le_refl _))
      replace Rp := Lib.hid (Rp.out.below hb_ (Nat.le_refl _))
      clear hb_ B_15 
      go_wp2_with fail
      refine Calls.mono (HSg.out _) ?_
      rintro e_ w17 ⟨rfl, hb_⟩
      have B_17 := Lib.hid (B_16.out.trans (hb_.mono B_16.out.size))
      replace D0 := Lib.hid (heap_kept D0.out hb_ (Nat.le_refl _))
      replace Rp := Lib.hid (Rp.out.below hb_ (Nat.le_refl _))
      clear hb_ B_16 
      go_wp2_with fail
      go_ret
      exact ⟨rfl, B_17.out⟩
    · subst hb
      have hac2 : ¬ 0 < ac := by have := hord.le (by decide) (by decide); omega
      clear hord
      rw [show (decide ((-1 : Int) = 0)) = false from rfl] at HE
      rw [Int.mul_neg, Int.mul_one] at Hti
      go_wp2_with fail
      refine Calls.mono (HE.out _ _ _ _ _ Ra.out Rb.out) ?_
      rintro e_ w7 ⟨rfl, hb_⟩
      have B_7 := Lib.hid (B_6.out.trans (hb_.mono B_6.out.size))
      replace D0 := Lib.hid (heap_kept D0.out hb_ (Nat.le_refl _))
      replace Rp := Lib.hid (Rp.out.below hb_ (Nat.le_refl _))
      replace Ra := Lib.hid (Ra.out.below hb_ (Nat.le_refl _))
      replace Rb := Lib.hid (Rb.out.below hb_ (Nat.le_refl _))
      replace Rc := Lib.hid (Rc.out.below hb_ (Nat.le_refl _))
      clear hb_ B_6 HE
      go_wp2_with fail
      refine Calls.mono (HA1.out _ _ _ _ _ _ _ B_7.out Rp.out Ra.out Rc.out) ?_
      rintro e_ w8 ⟨au, cu, rfl, r_, hb_⟩
      have B_8 := Lib.hid (B_7.out.trans (hb_.mono B_7.out.size))
      replace D0 := Lib.hid (heap_kept D0.out hb_ (Nat.le_refl _))
      replace Rp := Lib.hid (Rp.out.below hb_ (Nat.le_refl _))
      replace Ra := Lib.hid (Ra.out.below hb_ (Nat.le_refl _))
      replace Rb := Lib.hid (Rb.out.below hb_ (Nat.le_refl _))
      replace Rc := Lib.hid (Rc.out.below hb_ (Nat.le_refl _))
      have Ru := Lib.hid r_
      clear hb_ r_ B_7 HA1
      go_wp2_with fail
      refine Calls.mono (HA2.out _ _ _ _ _ _ _ B_8.out Rp.out Rb.out Rc.out) ?_
      rintro e_ w9 ⟨av, cv, rfl, r_, hb_⟩
      have B_9 := Lib.hid (B_8.out.trans (hb_.mono B_8.out.size))
      replace D0 := Lib.hid (heap_kept D0.out hb_ (Nat.le_refl _))
      replace Rp := Lib.hid (Rp.out.below hb_ (Nat.le_refl _))
      replace Ra := Lib.hid (Ra.out.below hb_ (Nat.le_refl _))
      replace Rb := Lib.hid (Rb.out.below hb_ (Nat.le_refl _))
      replace Rc := Lib.hid (Rc.out.below hb_ (Nat.le_refl _))
      replace Ru := Lib.hid (Ru.out.below hb_ (Nat.le_refl _))
      have Rv := Lib.hid r_
      clear hb_ r_ B_8 HA2 Rc
      go_wp2_with fail
      refine Calls.mono (Hsu.out _ _ _ _ _ _ _ B_9.out Rp.out Ru.out Rv.out) ?_
      rintro e_ w10 ⟨rfl, hb_⟩
      have B_10 := Lib.hid (B_9.out.trans (hb_.mono B_9.out.size))
      replace D0 := Lib.hid (heap_kept D0.out hb_ (Nat.le_refl _))
      replace Rp := Lib.hid (Rp.out.below hb_ (Nat.le_refl _))
      replace Ra := Lib.hid (Ra.out.below hb_ (Nat.le_refl _))
      replace Rb := Lib.hid (Rb.out.below hb_ (Nat.le_refl _))
      replace Ru := Lib.hid (Ru.out.below hb_ (Nat.le_refl _))
      replace Rv := Lib.hid (Rv.out.below hb_ (Nat.le_refl _))
      clear hb_ B_9 Hsu Ru Rv
      obtain ⟨k0, k1, -, -⟩ := two_cells D0.out
      go_wp2_with fail
      clear k0 k1
      refine Calls.mono (HFr.out _ B_10.out) ?_
      rintro e_ w11 ⟨rfl, hb_⟩
      have B_11 := Lib.hid (B_10.out.trans (hb_.mono B_10.out.size))
      replace D0 := Lib.hid (heap_kept D0.out hb_ (Nat.le_refl _))
      replace Rp := Lib.hid (Rp.out.below hb_ (Nat.le_refl _))
      replace Ra := Lib.hid (Ra.out.below hb_ (Nat.le_refl _))
      replace Rb := Lib.hid (Rb.out.below hb_ (Nat.le_refl _))
      clear hb_ B_10 
      go_wp2_with fail
      refine Calls.mono (HS1.out _ _ _ _ _ B_11.out Rp.out Ra.out) ?_
      rintro e_ w12 ⟨ax, cx, rfl, r_, hb_⟩
      have B_12 := Lib.hid (B_11.out.trans (hb_.mono B_11.out.size))
      replace D0 := Lib.hid (heap_kept D0.out hb_ (Nat.le_refl _))
      replace Rp := Lib.hid (Rp.out.below hb_ (Nat.le_refl _))
      replace Ra := Lib.hid (Ra.out.below hb_ (Nat.le_refl _))
      replace Rb := Lib.hid (Rb.out.below hb_ (Nat.le_refl _))
      have Rx := Lib.hid r_
      clear hb_ r_ B_11 HS1 Ra
      obtain ⟨k0, k1, -, -⟩ := two_cells D0.out
      go_wp2_with fail
      clear k0 k1
      refine Calls.mono (HFr.out _ B_12.out) ?_
      rintro e_ w13 ⟨rfl, hb_⟩
      have B_13 := Lib.hid (B_12.out.trans (hb_.mono B_12.out.size))
      replace D0 := Lib.hid (heap_kept D0.out hb_ (Nat.le_refl _))
      replace Rp := Lib.hid (Rp.out.below hb_ (Nat.le_refl _))
      replace Rb := Lib.hid (Rb.out.below hb_ (Nat.le_refl _))
      replace Rx := Lib.hid (Rx.out.below hb_ (Nat.le_refl _))
      clear hb_ B_12 
      go_wp2_with fail
      refine Calls.mono (HS2.out _ _ _ _ _ B_13.out Rp.out Rb.out) ?_
      rintro e_ w14 ⟨ay, cy, rfl, r_, hb_⟩
      have B_14 := Lib.hid (B_13.out.trans (hb_.mono B_13.out.size))
      replace D0 := Lib.hid (heap_kept D0.out hb_ (Nat.le_refl _))
      replace Rp := Lib.hid (Rp.out.below hb_ (Nat.le_refl _))
      replace Rb := Lib.hid (Rb.out.below hb_ (Nat.le_refl _))
      replace Rx := Lib.hid (Rx.out.below hb_ (Nat.le_refl _))
      have Ry := Lib.hid r_
      clear hb_ r_ B_13 HS2 Rb
      go_wp2_with fail
      refine Calls.mono (Hti.out _ _ _ _ _ _ _ B_14.out Rp.out Rx.out Ry.out) ?_
      rintro e_ w15 ⟨rfl, hb_⟩
      have B_15 := Lib.hid (B_14.out.trans (hb_.mono B_14.out.size))
      replace D0 := Lib.hid (heap_kept D0.out hb_ (Nat.le_refl _))
      replace Rp := Lib.hid (Rp.out.below hb_ (Nat.le_refl _))
      replace Rx := Lib.hid (Rx.out.below hb_ (Nat.le_refl _))
      replace Ry := Lib.hid (Ry.out.below hb_ (Nat.le_refl _))
      clear hb_ B_14 Hti Rx Ry
      obtain ⟨k0, k1, -, -⟩ := two_cells D0.out
      go_wp2_with fail
      clear k0 k1
      refine Calls.mono (HFr.out _ B_15.out) ?_
      rintro e_ w16 ⟨rfl, hb_⟩
      have B_16 := Lib.hid (B_15.out.trans (hb_.mono B_15.out.size))
      replace D0 := Lib.hid (heap_kept D0.out hb_ (Nat.le_refl _))
      replace Rp := Lib.hid (Rp.out.below hb_ (Nat.le_refl _))
      clear hb_ B_15 
      go_wp2_with fail
      refine Calls.mono (HSg.out _) ?_
      rintro e_ w17 ⟨rfl, hb_⟩
      have B_17 := Lib.hid (B_16.out.trans (hb_.mono B_16.out.size))
      replace D0 := Lib.hid (heap_kept D0.out hb_ (Nat.le_refl _))
      replace Rp := Lib.hid (Rp.out.below hb_ (Nat.le_refl _))
      clear hb_ B_16 
      go_wp2_with fail
      go_ret
      exact ⟨rfl, B_17.out⟩
end Go.Proofs.YtlomhfknmhaboaaGreatDoor

/- For any three sizes with small coefficients over the primes of a number, the order is total and transitive, sums keep it, and multiples by a fraction keep it or turn it round. No condition: the statement holds for every input. -/
namespace Go.Proofs.YtlomhfknmhaboaaGreatDoor
open Go.ChangeShapes Go.WideShapes Go.ChangeAt Go.RowKit

set_option maxRecDepth 100000 in
theorem sizeOrders_lifted (os : Os) (started : os.Started) (H : Type) (enc : TypeId × Value → H) :
    ReturnsInHanded {} Tryz.checked os 4 .any (fun w args => (Rows.sizeOrdersSpec.pre enc Tryz.prog Tryz.f4 [] false w args ∧ laidMetH Tryz.prog laidL w) ∧ sizedMet enc Tryz.prog Tryz.f4 (OpenSpec.ofChange Rows.sizeOrdersSpec) false w args)
      (Rows.sizeOrdersSpec.post enc Tryz.prog Tryz.f4 false true false false) := by
  refine returnsInHanded_of_change_and (C := Tryz.checked) (X := fun w _ => laidMetH Tryz.prog laidL w) (fun _ _ _ hh h => h.of_heap hh) own started (by kernel_rfl) Tryz.func4
    (ChangeSpec.witness_shaped (enc := enc) (C := Tryz.checked) (os := os) (X := fun w _ => laidMetH Tryz.prog laidL w) false (World.doorLaid Tryz.prog 400 os) #[.agg #[.int .u8 0, .int .i8 0, .int .u8 0, .int .i8 0, .int .u8 0, .int .i8 0, .int .u8 0, .int .i8 0, .int .u8 0, .int .i8 0, .int .u8 0, .int .i8 0, .int .u8 0, .int .i8 0, .int .u8 0, .int .i8 0, .int .u8 0], .agg #[.int .i8 0, .int .u8 0, .int .i8 0, .int .u8 0, .int .i8 0, .int .u8 0, .int .i8 0, .int .u8 0], .agg #[.int .i8 0, .int .u8 0]] 8 rfl (World.shaped_of_RefB (by kernel_rfl) (by kernel_rfl)) (by kernel_rfl) (by kernel_rfl) (by kernel_rfl) (door_met os _)) ?_
  intro W base args ds gs before hval0 hW _ _ hL _
  have hval : ∀ (j : Nat) t v, Tryz.f4.params[j]? = some t → args[j]? = some v → Value.okWide Tryz.prog W .any base t v := hval0
  have hW' := hW
  obtain ⟨p, q, hA0, hV, rfl, hfz, hnd⟩ := hW
  have hA : DataW.TrodAll enc Tryz.prog W 0 (fun _ => true) true Tryz.f4.params.toList args.toList ds p := hA0
  rw [Tryz.params4] at hA hval
  obtain ⟨v0, vs0, d0, ds0, p0, q0, hargs, rfl, rfl, h0, r0⟩ := trodAll_cons hA
  obtain ⟨v1, vs1, d1, ds1, p1, q1, rfl, rfl, rfl, h1, r1⟩ := trodAll_cons r0
  obtain ⟨v2, vs2, d2, ds2, p2, q2, rfl, rfl, rfl, h2, r2⟩ := trodAll_cons r1
  obtain ⟨rfl, rfl, rfl⟩ := trodAll_nil r2
  obtain rfl : args = #[v0, v1, v2] := by cases args; simp_all
  obtain ⟨rfl, rfl⟩ := trodVars_none hV
  have k0 := h0
  have lt0 : ∀ x ∈ p0, x.block < W.heap.size := by obtain ⟨m, hm⟩ := k0; exact DataW.trod_lt m _ _ _ hm
  have k1 := h1
  have lt1 : ∀ x ∈ p1, x.block < W.heap.size := by obtain ⟨m, hm⟩ := k1; exact DataW.trod_lt m _ _ _ hm
  have k2 := h2
  have lt2 : ∀ x ∈ p2, x.block < W.heap.size := by obtain ⟨m, hm⟩ := k2; exact DataW.trod_lt m _ _ _ hm
  obtain ⟨pn, nA, dA, nB, dB, rfl, hpn, hnA, hdA, hnB, hdB⟩ := open_pair (hval 0 50 v0 rfl rfl) h0
  obtain ⟨nC, dC, rfl, hnC, hdC⟩ := open_partsV (hval 1 40 v1 rfl rfl) h1
  obtain ⟨kn, kd, rfl, hkn, hkd⟩ := open_partV (hval 2 38 v2 rfl rfl) h2
  clear hA0 hval0
  refine (lawOrders W pn nA dA nB dB nC dC kn kd hpn hnA hdA hnB hdB hnC hdC hkn hkd (laid_of hL)).mono fun e W' ⟨he, bel⟩ => ?_
  subst he
  exact ⟨_, rfl, _, _, _, [], _, [], hW', trodAll_mk1 (shut_bool Tryz.underlying4 _), (trodAll_cons_mk (Below.trod laidOut (by kernel_rfl) (of_decide_eq_true (by kernel_rfl)) k0 bel lt0) (trodAll_cons_mk (Below.trod laidOut (by kernel_rfl) (of_decide_eq_true (by kernel_rfl)) k1 bel lt1) (trodAll_cons_mk (Below.trod laidOut (by kernel_rfl) (of_decide_eq_true (by kernel_rfl)) k2 bel lt2) trodAll_mk0))), rfl, bel.frame _, fun h => by cases h⟩

theorem sizeOrders_row : Rows.SizeOrdersSaid :=
  OpenClaim.holds_of_wide 4 Tryz.f4 rfl rfl rfl rfl rfl rfl rfl ⟨rfl, rfl, rfl, rfl, rfl⟩ rfl rfl rfl rfl rfl (by kernel_rfl) Tryz.func4 (by kernel_rfl)
    (of_decide_eq_true (by kernel_rfl)) (by unfold Func.isWrapper; first | (rw [if_pos (by decide +kernel)]; kernel_rfl) | (rw [if_neg (by decide +kernel)]; exact ⟨rfl, rfl⟩))
    (fun os started H enc _ => sizeOrders_lifted os started H enc)

theorem sizeOrders_holds : Rows.SizeOrdersCardSaid :=
  Claim7.holds_tied_plain_at .later [] [.data, .data, .data, .sentinel, .sentinel] true (true, "9d0d2a1671fb7254a0d6cd7f535de0290e91414b206b40d6b5ae62423c22e5c1") true
    sizeOrders_row (fun _ h => by cases h) (by kernel_rfl) (fun _ h => by cases h) sizeOrders_row_tie rfl ⟨rfl, rfl⟩ (by kernel_rfl) rfl
    (fun f fn hf hfn => by
      obtain rfl : f = 4 := Option.some.inj ((show Tryz.prog.funcNamed "schisma/schismalaw13.SizeOrders" = some 4 by kernel_rfl).symm.trans hf) |>.symm
      obtain rfl : fn = Tryz.f4 := (Option.some.inj (Tryz.func4.symm.trans hfn)).symm
      exact ⟨by kernel_rfl, fun j t ht => by
        rw [Tryz.params4] at ht
        have hm : t ∈ [50, 40, 38] := by simpa using Array.mem_of_getElem? ht
        have hall : ([50, 40, 38].all fun u => !Tryz.prog.wantsStandIn u) = true := by kernel_rfl
        exact (show Tryz.prog.wantsStandIn t = false by simpa using List.all_eq_true.1 hall t hm)⟩)
    (by kernel_rfl)
#print axioms sizeOrders_holds
end Go.Proofs.YtlomhfknmhaboaaGreatDoor
