/- For any at most 5 sizes with small coefficients over the primes of a number, and any at most 6 factors with numbers of at most 45 digits, Combine returns the sum, or the first error. No condition: the statement holds for every input. -/
import Derived.Test.YtlomhfknmhaboaaGreatDoorCards
import Derived.Test.YtlomhfknmhaboaaGreatDoorTie
import Derived.SevenTiedAt
import Derived.Test.YtlomhfknmhaboaaGreatDoorMg5
/- The law SizeAdds over short factors: what its function returns. -/
namespace Go.Proofs.YtlomhfknmhaboaaGreatDoor
open Go.RowKit

theorem part_one : mkRat 1 1 = 1 := by decide +kernel
theorem part_mone : mkRat (-1) 1 = ((-1 : Int) : Rat) := by decide +kernel
theorem part_zero : mkRat 0 1 = 0 := by decide +kernel

set_option maxRecDepth 100000 in
set_option maxHeartbeats 64000000 in
theorem lawAdds_short (w : World) (pn : Nat) (nA : Nat → Int) (dA : Nat → Nat) (nB : Nat → Int) (dB : Nat → Nat) (s t : ByteArray) (hpn : pn < 256) (hnA : ∀ k, -128 ≤ nA k ∧ nA k ≤ 127) (hdA : ∀ k, dA k < 256) (hnB : ∀ k, -128 ≤ nB k ∧ nB k ≤ 127) (hdB : ∀ k, dB k < 256) (hs : s.size ≤ 45) (ht : t.size ≤ 45) (L : Laid w) :
    Gives Tryz.prog 5 #[.agg (pairV pn nA dA nB dB), .agg #[.string s, .string t]] w (.bool true) := by
  unfold Gives
  have hp := primesL_ok (pn % 10) (Nat.mod_lt _ (by decide))
  have HPr := Lib.hid (fun W => primes_any W pn hpn)
  generalize primesL (pn % 10) = ps at *
  obtain ⟨hp0, hp4, hp1, hp2⟩ := hp
  have FF : AddFacts w ps (partsQ nA dA ps.length) (partsQ nB dB ps.length) s t := ⟨fun x hx => by have := hp2 x hx; omega, hp0, partsQ_length .., partsQ_length .., partsQ_sm _ _ _, partsQ_sm _ _ _, hs, ht, L⟩
  have HK : Hid (∀ W, Below w.heap.size w W → Gives Tryz.prog 12 #[] W (.bool true)) := fun W hW => known_ok W (L.below hW)
  have HA : Hid (∀ W a0 c0, Below w.heap.size w W → Calls Tryz.prog 15 #[.slice a0 ps.length c0, .agg #[.int .i8 (nA 0), .int .u8 (dA 0), .int .i8 (nA 1), .int .u8 (dA 1), .int .i8 (nA 2), .int .u8 (dA 2), .int .i8 (nA 3), .int .u8 (dA 3)]] W fun e w' => ∃ a c, e = .returned (.slice a ps.length c) ∧ Rd w' a (cellsQ (partsQ nA dA ps.length)) ∧ Below W.heap.size W w') := fun W a0 c0 hW => by
    refine Calls.mono (make_any W a0 c0 ps.length hp4 nA dA hnA hdA (L.below hW)) ?_
    rintro e w' ⟨a, c, rfl, ho, hb⟩
    exact ⟨a, c, rfl, ho.rd, hb⟩
  have HB : Hid (∀ W a0 c0, Below w.heap.size w W → Calls Tryz.prog 15 #[.slice a0 ps.length c0, .agg #[.int .i8 (nB 0), .int .u8 (dB 0), .int .i8 (nB 1), .int .u8 (dB 1), .int .i8 (nB 2), .int .u8 (dB 2), .int .i8 (nB 3), .int .u8 (dB 3)]] W fun e w' => ∃ a c, e = .returned (.slice a ps.length c) ∧ Rd w' a (cellsQ (partsQ nB dB ps.length)) ∧ Below W.heap.size W w') := fun W a0 c0 hW => by
    refine Calls.mono (make_any W a0 c0 ps.length hp4 nB dB hnB hdB (L.below hW)) ?_
    rintro e w' ⟨a, c, rfl, ho, hb⟩
    exact ⟨a, c, rfl, ho.rd, hb⟩
  obtain ⟨u, hu⟩ : ∃ q : Rat, q = 1 := ⟨_, rfl⟩
  obtain ⟨v, hv⟩ : ∃ q : Rat, q = ((-1 : Int) : Rat) := ⟨_, rfl⟩
  obtain ⟨o, ho⟩ : ∃ q : Rat, q = 0 := ⟨_, rfl⟩
  have HU : Hid (∀ W, Below w.heap.size w W → Gives Tryz.prog 18 #[.int .i64 1, .int .i64 1] W (fr u)) := fun W hW => by subst hu; rw [← part_one]; exact partR W 1 1 (by decide) (by decide) (by decide) (by decide) (L.below hW)
  have HV : Hid (∀ W, Below w.heap.size w W → Gives Tryz.prog 18 #[.int .i64 (-1), .int .i64 1] W (fr v)) := fun W hW => by subst hv; rw [← part_mone]; exact partR W (-1) 1 (by decide) (by decide) (by decide) (by decide) (L.below hW)
  have HO : Hid (∀ W, Below w.heap.size w W → Gives Tryz.prog 18 #[.int .i64 0, .int .i64 1] W (fr o)) := fun W hW => by subst ho; rw [← part_zero]; exact partR W 0 1 (by decide) (by decide) (by decide) (by decide) (L.below hW)
  have HF := Lib.hid FF
  generalize partsQ nA dA ps.length = la at *
  generalize partsQ nB dB ps.length = lb at *
  have su : Sm 400 u := by rw [hu]; exact sm_one.le (by decide)
  have sv : Sm 400 v := by rw [hv]; exact sm_mone.le (by decide)
  have so : Sm 400 o := by rw [ho]; exact Sm.zero.le (by decide)
  have HAdd : Hid (∀ (W : World) (a0 a1 a2 : Option Addr) (c0 c1 c2 : Nat), Below w.heap.size w W → Rd W a0 (ints ps) → Rd W a1 (cellsQ la) → Rd W a2 (cellsQ lb) → Calls Tryz.prog 22 #[.slice a0 ps.length c0, .slice a1 ps.length c1, .slice a2 ps.length c2] W fun e w' => ∃ a c, e = .returned (.tuple #[.slice a ps.length c, .int .i64 0]) ∧ Rd w' a (cellsQ (combineQ la lb u u)) ∧ Below W.heap.size W w') := fun W a0 a1 a2 c0 c1 c2 hW r0 r1 r2 => by rw [hu]; exact FF.add hW c0 c1 c2 r0 r1 r2
  have HSub : Hid (∀ (W : World) (a0 a1 a2 : Option Addr) (c0 c1 c2 : Nat), Below w.heap.size w W → Rd W a0 (ints ps) → Rd W a1 (cellsQ la) → Rd W a2 (cellsQ lb) → Calls Tryz.prog 26 #[.slice a0 ps.length c0, .slice a1 ps.length c1, .slice a2 ps.length c2] W fun e w' => ∃ a c, e = .returned (.tuple #[.slice a ps.length c, .int .i64 0]) ∧ Rd w' a (cellsQ (combineQ la lb u v)) ∧ Below W.heap.size W w') := fun W a0 a1 a2 c0 c1 c2 hW r0 r1 r2 => by rw [hu, hv]; exact FF.sub hW c0 c1 c2 r0 r1 r2
  have HC1 : Hid (∀ (W : World) (a1 a2 : Option Addr) (c1 c2 : Nat), Below w.heap.size w W → Rd W a1 (cellsQ la) → Rd W a2 (cellsQ lb) → Calls Tryz.prog 17 #[.slice a1 ps.length c1, .slice a2 ps.length c2, .agg #[.string (itx u.num), .string (dec u.den)], .agg #[.string (itx u.num), .string (dec u.den)]] W fun e w' => ∃ a c, e = .returned (.tuple #[.slice a ps.length c, .bool (shortAll (combineQ la lb u u))]) ∧ Rd w' a (cellsQ (combineQ la lb u u)) ∧ Below W.heap.size W w') := fun W a1 a2 c1 c2 hW r1 r2 => FF.comb hW c1 c2 u u su su FF.l1 FF.l2 FF.s1 FF.s2 r1 r2
  have HC2 : Hid (∀ (W : World) (a1 a2 : Option Addr) (c1 c2 : Nat), Below w.heap.size w W → Rd W a1 (cellsQ la) → Rd W a2 (cellsQ lb) → Calls Tryz.prog 17 #[.slice a1 ps.length c1, .slice a2 ps.length c2, .agg #[.string (itx u.num), .string (dec u.den)], .agg #[.string (itx v.num), .string (dec v.den)]] W fun e w' => ∃ a c, e = .returned (.tuple #[.slice a ps.length c, .bool (shortAll (combineQ la lb u v))]) ∧ Rd w' a (cellsQ (combineQ la lb u v)) ∧ Below W.heap.size W w') := fun W a1 a2 c1 c2 hW r1 r2 => FF.comb hW c1 c2 u v su sv FF.l1 FF.l2 FF.s1 FF.s2 r1 r2
  have HE : Hid (∀ (W : World) (a1 a2 : Option Addr) (c1 c2 : Nat) (lx : List Rat), lx.length = ps.length → Rd W a1 (cellsQ lx) → Rd W a2 (cellsQ lx) → Gives Tryz.prog 20 #[.slice a1 ps.length c1, .slice a2 ps.length c2] W (.bool true)) := fun W a1 a2 c1 c2 lx hx r1 r2 => FF.equal c1 c2 hx r1 r2
  have Hcl : Hid (∀ f g, (combineQ la lb f g).length = ps.length) := fun f g => (combineQ_length _ _ _ _ (FF.l1.trans FF.l2.symm)).trans FF.l1
  have HSc : Hid (∀ (W : World) (a0 a1 : Option Addr) (c0 c1 : Nat), Below w.heap.size w W → Rd W a0 (ints ps) → Rd W a1 (cellsQ la) → GivesC 23 #[.slice a0 ps.length c0, .slice a1 ps.length c1, .agg #[.string s, .string t]] W (scaleCode ps.length la s t) (scaleQ ps.length la s t)) := fun W a0 a1 c0 c1 hW r0 r1 => FF.scale hW c0 c1 r0 r1
  have HCk : Hid (∀ W, Below w.heap.size w W → (IsQ s t → Gives Tryz.prog 14 #[.agg #[.string s, .string t]] W (.int .i64 0)) ∧ (¬ IsQ s t → Gives Tryz.prog 14 #[.agg #[.string s, .string t]] W (.int .i64 2))) := fun W hW =>
    ⟨fun h => by obtain ⟨q, rfl, rfl, hq⟩ := h; exact checkR W q hq (L.below hW), fun h => checkS_no W s t (by omega) (by omega) h (L.below hW)⟩
  have HC3 : Hid (∀ (h : IsQ s t) (W : World) (a1 a2 : Option Addr) (c1 c2 : Nat), Below w.heap.size w W → Rd W a1 (cellsQ la) → Rd W a2 (cellsQ la) → Calls Tryz.prog 17 #[.slice a1 ps.length c1, .slice a2 ps.length c2, .agg #[.string s, .string t], .agg #[.string (itx o.num), .string (dec o.den)]] W fun e w' => ∃ a c, e = .returned (.tuple #[.slice a ps.length c, .bool (shortAll (scaleQ ps.length la s t))]) ∧ Rd w' a (cellsQ (scaleQ ps.length la s t)) ∧ Below W.heap.size W w') := fun h W a1 a2 c1 c2 hW r1 r2 => by
    have h1 := h.choose_spec
    unfold scaleQ
    rw [dif_pos h, sumQ_onek _ _ _ FF.l1]
    generalize h.choose = k at *
    obtain ⟨rfl, rfl, hk⟩ := h1
    rw [← ho]
    exact FF.comb hW c1 c2 k o hk so FF.l1 FF.l1 FF.s1 FF.s1 r1 r2
  have Hlen3 : Hid (IsQ s t → (scaleQ ps.length la s t).length = ps.length) := fun h => by
    unfold scaleQ
    rw [dif_pos h, sumQ_onek _ _ _ FF.l1, combineQ_length _ _ _ _ rfl, FF.l1]
  have Hcode : Hid ((¬ IsQ s t → scaleCode ps.length la s t = 2) ∧ (IsQ s t → scaleCode ps.length la s t = if shortAll (scaleQ ps.length la s t) = true then 0 else 4)) := by
    refine ⟨fun h => by unfold scaleCode; rw [dif_neg h], fun h => ?_⟩
    unfold scaleCode scaleQ
    rw [dif_pos h, dif_pos h]; rfl
  unfold GivesC at HSc
  unfold fr fv at HU HV HO
  have hs' : ¬ (45 : Int) < s.size := by omega
  have ht' : ¬ (45 : Int) < t.size := by omega
  clear FF L hu hv ho su sv so hpn hnA hdA hnB hdB hp0 hp2 HF
  generalize scaleQ ps.length la s t = SQ at *
  generalize scaleCode ps.length la s t = code at *
  obtain ⟨z, hz⟩ : ∃ z : Nat, (if code = 0 then SQ.length else 0) = z := ⟨_, rfl⟩
  rw [hz] at HSc
  have Hz := Lib.hid hz
  clear hz
  generalize ps.length = n at *
  unfold pairV
  have B0 := Lib.hid (((Below.refl w.heap.size w).alloc (Nat.le_refl _) (.cells #[.int .u8 pn, .int .i8 (nA 0), .int .u8 (dA 0), .int .i8 (nA 1), .int .u8 (dA 1), .int .i8 (nA 2), .int .u8 (dA 2), .int .i8 (nA 3), .int .u8 (dA 3), .int .i8 (nB 0), .int .u8 (dB 0), .int .i8 (nB 1), .int .u8 (dB 1), .int .i8 (nB 2), .int .u8 (dB 2), .int .i8 (nB 3), .int .u8 (dB 3)] 50)).alloc (by simp) (.cells #[.string s, .string t] 30))
  have K0 := Lib.hid (heap_at (w.alloc (.cells #[.int .u8 pn, .int .i8 (nA 0), .int .u8 (dA 0), .int .i8 (nA 1), .int .u8 (dA 1), .int .i8 (nA 2), .int .u8 (dA 2), .int .i8 (nA 3), .int .u8 (dA 3), .int .i8 (nB 0), .int .u8 (dB 0), .int .i8 (nB 1), .int .u8 (dB 1), .int .i8 (nB 2), .int .u8 (dB 2), .int .i8 (nB 3), .int .u8 (dB 3)] 50)) #[.string s, .string t] 30 (w.heap.size + 1) (by simp))
  have P0 := Lib.hid (heap_old (heap_at w #[.int .u8 pn, .int .i8 (nA 0), .int .u8 (dA 0), .int .i8 (nA 1), .int .u8 (dA 1), .int .i8 (nA 2), .int .u8 (dA 2), .int .i8 (nA 3), .int .u8 (dA 3), .int .i8 (nB 0), .int .u8 (dB 0), .int .i8 (nB 1), .int .u8 (dB 1), .int .i8 (nB 2), .int .u8 (dB 2), .int .i8 (nB 3), .int .u8 (dB 3)] 50 _ rfl) (.cells #[.string s, .string t] 30))
  obtain ⟨k0, k1, -, -⟩ := two_cells K0.out
  go_enter Tryz.func5, Tryz.ntmps5
  go_wp2_with fail
  generalize (w.alloc (.cells #[.int .u8 pn, .int .i8 (nA 0), .int .u8 (dA 0), .int .i8 (nA 1), .int .u8 (dA 1), .int .i8 (nA 2), .int .u8 (dA 2), .int .i8 (nA 3), .int .u8 (dA 3), .int .i8 (nB 0), .int .u8 (dB 0), .int .i8 (nB 1), .int .u8 (dB 1), .int .i8 (nB 2), .int .u8 (dB 2), .int .i8 (nB 3), .int .u8 (dB 3)] 50)).alloc (.cells #[.string s, .string t] 30) = w0 at *
  clear k0 k1
  refine Calls.mono (HK.out _ B0.out) ?_
  rintro e_ w1 ⟨rfl, hb_⟩
  have B_1 := Lib.hid (B0.out.trans (hb_.mono B0.out.size))
  replace K0 := Lib.hid (heap_kept K0.out hb_ (Nat.le_refl _))
  replace P0 := Lib.hid (heap_kept P0.out hb_ (Nat.le_refl _))
  clear hb_ B0
  clear HK
  have p0 : w1.cell? ⟨w.heap.size, 0, none⟩ = some (.int .u8 pn) := by rw [cell_of_row _ _ _ _ _ _ P0.out]; rfl
  obtain ⟨k0, k1, -, -⟩ := two_cells K0.out
  go_wp2_with fail
  clear p0 k0 k1
  refine Calls.mono (HPr.out _) ?_
  rintro e_ w2 ⟨gp, rfl, rp_, hb_⟩
  have B_2 := Lib.hid (B_1.out.trans (hb_.mono B_1.out.size))
  replace K0 := Lib.hid (heap_kept K0.out hb_ (Nat.le_refl _))
  replace P0 := Lib.hid (heap_kept P0.out hb_ (Nat.le_refl _))
  have Rp := Lib.hid rp_
  clear hb_ rp_ HPr B_1
  have p1 : w2.cell? ⟨w.heap.size, 1, none⟩ = some (.int .i8 (nA 0)) := by rw [cell_of_row _ _ _ _ _ _ P0.out]; rfl
  have p2 : w2.cell? ⟨w.heap.size, 2, none⟩ = some (.int .u8 (dA 0)) := by rw [cell_of_row _ _ _ _ _ _ P0.out]; rfl
  have p3 : w2.cell? ⟨w.heap.size, 3, none⟩ = some (.int .i8 (nA 1)) := by rw [cell_of_row _ _ _ _ _ _ P0.out]; rfl
  have p4 : w2.cell? ⟨w.heap.size, 4, none⟩ = some (.int .u8 (dA 1)) := by rw [cell_of_row _ _ _ _ _ _ P0.out]; rfl
  have p5 : w2.cell? ⟨w.heap.size, 5, none⟩ = some (.int .i8 (nA 2)) := by rw [cell_of_row _ _ _ _ _ _ P0.out]; rfl
  have p6 : w2.cell? ⟨w.heap.size, 6, none⟩ = some (.int .u8 (dA 2)) := by rw [cell_of_row _ _ _ _ _ _ P0.out]; rfl
  have p7 : w2.cell? ⟨w.heap.size, 7, none⟩ = some (.int .i8 (nA 3)) := by rw [cell_of_row _ _ _ _ _ _ P0.out]; rfl
  have p8 : w2.cell? ⟨w.heap.size, 8, none⟩ = some (.int .u8 (dA 3)) := by rw [cell_of_row _ _ _ _ _ _ P0.out]; rfl
  have p9 : w2.cell? ⟨w.heap.size, 9, none⟩ = some (.int .i8 (nB 0)) := by rw [cell_of_row _ _ _ _ _ _ P0.out]; rfl
  have p10 : w2.cell? ⟨w.heap.size, 10, none⟩ = some (.int .u8 (dB 0)) := by rw [cell_of_row _ _ _ _ _ _ P0.out]; rfl
  have p11 : w2.cell? ⟨w.heap.size, 11, none⟩ = some (.int .i8 (nB 1)) := by rw [cell_of_row _ _ _ _ _ _ P0.out]; rfl
  have p12 : w2.cell? ⟨w.heap.size, 12, none⟩ = some (.int .u8 (dB 1)) := by rw [cell_of_row _ _ _ _ _ _ P0.out]; rfl
  have p13 : w2.cell? ⟨w.heap.size, 13, none⟩ = some (.int .i8 (nB 2)) := by rw [cell_of_row _ _ _ _ _ _ P0.out]; rfl
  have p14 : w2.cell? ⟨w.heap.size, 14, none⟩ = some (.int .u8 (dB 2)) := by rw [cell_of_row _ _ _ _ _ _ P0.out]; rfl
  have p15 : w2.cell? ⟨w.heap.size, 15, none⟩ = some (.int .i8 (nB 3)) := by rw [cell_of_row _ _ _ _ _ _ P0.out]; rfl
  have p16 : w2.cell? ⟨w.heap.size, 16, none⟩ = some (.int .u8 (dB 3)) := by rw [cell_of_row _ _ _ _ _ _ P0.out]; rfl
  have q1 := BW.cell p1
  have q2 := BW.cell p2
  have q3 := BW.cell p3
  have q4 := BW.cell p4
  have q5 := BW.cell p5
  have q6 := BW.cell p6
  have q7 := BW.cell p7
  have q8 := BW.cell p8
  have q9 := BW.cell p9
  have q10 := BW.cell p10
  have q11 := BW.cell p11
  have q12 := BW.cell p12
  have q13 := BW.cell p13
  have q14 := BW.cell p14
  have q15 := BW.cell p15
  have q16 := BW.cell p16
  have hnon : Nonempty (BW w2) := ⟨⟨w2, Below.refl _ _⟩⟩
  have I : Hid (Below w2.heap.size w2 w2.drew) := (Below.refl _ _).drew
  go_wp2_with fail
  clear p1 p2 p3 p4 p5 p6 p7 p8 p9 p10 p11 p12 p13 p14 p15 p16 P0
  refine RX.wp_region_readers 9 [(1,0),(1,1),(1,2),(1,4),(1,5),(1,6),(0,3),(0,7),(0,8),(0,9)] (fun w' => ∃ p : BW w2, w' = p.w) (by kernel_rfl) (by kernel_rfl) ?_ ?_
  · exact ⟨⟨_, I.out⟩, rfl⟩
  iterate 6 (refine RX.walkR_read ?_; simp only [List.drop_succ_cons, List.drop_zero, List.take_succ_cons, List.take_zero]; go_big_quiet_step (fail); refine wpQuiet_nil ?_)
  clear hnon q1 q2 q3 q4 q5 q6 q7 q8 q9 q10 q11 q12 q13 q14 q15 q16
  refine RX.walkR_move ?_
  simp only [List.drop_succ_cons, List.drop_zero, List.take_succ_cons, List.take_zero]
  go_wp2_with fail
  refine Calls.mono (HA.out _ _ _ (B_2.out.drew)) ?_
  rintro e_ wa ⟨aa, ca, rfl, ra_, hb_⟩
  have Wa : Hid (Below w2.heap.size w2 wa) := (Below.refl w2.heap.size w2).drew.trans hb_
  have Ra := Lib.hid ra_
  clear hb_ ra_ HA I
  go_wp2_with fail
  refine ⟨⟨⟨_, Wa.out⟩, rfl⟩, ?_⟩
  refine RX.walkR_move ?_
  simp only [List.drop_succ_cons, List.drop_zero, List.take_succ_cons, List.take_zero]
  go_wp2_with fail
  refine Calls.mono (HB.out _ _ _ (B_2.out.trans (Wa.out.mono B_2.out.size))) ?_
  rintro e_ wb ⟨ab, cb, rfl, rb_, hb_⟩
  have Wb := Lib.hid (Wa.out.trans (hb_.mono Wa.out.size))
  have Rb := Lib.hid rb_
  replace Ra := Lib.hid (Ra.out.below hb_ (Nat.le_refl _))
  clear hb_ rb_ HB Wa
  have Bb := Lib.hid (B_2.out.trans (Wb.out.mono B_2.out.size))
  go_wp2_with fail
  refine ⟨⟨⟨_, Wb.out⟩, rfl⟩, ?_⟩
  replace K0 := Lib.hid (heap_kept K0.out Wb.out (Nat.le_refl _))
  replace Rp := Lib.hid (Rp.out.below Wb.out (Nat.le_refl _))
  refine RX.walkR_move ?_
  simp only [List.drop_succ_cons, List.drop_zero, List.take_succ_cons, List.take_zero]
  go_wp2_with fail
  refine ⟨⟨⟨_, Wb.out⟩, rfl⟩, ?_⟩
  refine RX.walkR_move ?_
  simp only [List.drop_succ_cons, List.drop_zero, List.take_succ_cons, List.take_zero]
  go_wp2_with fail
  simp only [RX.walkR]
  clear B_2 Wb
  go_wp2_with fail
  refine Calls.mono (HAdd.out _ _ _ _ _ _ _ Bb.out Rp.out Ra.out Rb.out) ?_
  rintro e_ w3 ⟨a8, c8, rfl, r_, hb_⟩
  have B_3 := Lib.hid (Bb.out.trans (hb_.mono Bb.out.size))
  replace K0 := Lib.hid (heap_kept K0.out hb_ (Nat.le_refl _))
  replace Rp := Lib.hid (Rp.out.below hb_ (Nat.le_refl _))
  replace Ra := Lib.hid (Ra.out.below hb_ (Nat.le_refl _))
  replace Rb := Lib.hid (Rb.out.below hb_ (Nat.le_refl _))
  have R8 := Lib.hid r_
  clear hb_ r_ Bb HAdd
  go_wp2_with fail
  refine Calls.mono (HSub.out _ _ _ _ _ _ _ B_3.out Rp.out Ra.out Rb.out) ?_
  rintro e_ w4 ⟨a9, c9, rfl, r_, hb_⟩
  have B_4 := Lib.hid (B_3.out.trans (hb_.mono B_3.out.size))
  replace K0 := Lib.hid (heap_kept K0.out hb_ (Nat.le_refl _))
  replace Rp := Lib.hid (Rp.out.below hb_ (Nat.le_refl _))
  replace Ra := Lib.hid (Ra.out.below hb_ (Nat.le_refl _))
  replace Rb := Lib.hid (Rb.out.below hb_ (Nat.le_refl _))
  replace R8 := Lib.hid (R8.out.below hb_ (Nat.le_refl _))
  have R9 := Lib.hid r_
  clear hb_ r_ B_3 HSub
  obtain ⟨k0, k1, -, -⟩ := two_cells K0.out
  go_wp2_with fail
  clear k0 k1
  refine Calls.mono (HSc.out _ _ _ _ _ B_4.out Rp.out Ra.out) ?_
  rintro e_ w5 ⟨am, cm, rfl, rm_, hb_⟩
  have B_5 := Lib.hid (B_4.out.trans (hb_.mono B_4.out.size))
  replace K0 := Lib.hid (heap_kept K0.out hb_ (Nat.le_refl _))
  replace Rp := Lib.hid (Rp.out.below hb_ (Nat.le_refl _))
  replace Ra := Lib.hid (Ra.out.below hb_ (Nat.le_refl _))
  replace Rb := Lib.hid (Rb.out.below hb_ (Nat.le_refl _))
  replace R8 := Lib.hid (R8.out.below hb_ (Nat.le_refl _))
  replace R9 := Lib.hid (R9.out.below hb_ (Nat.le_refl _))
  have Rm := Lib.hid rm_
  clear hb_ rm_ HSc Rp B_4
  go_wp2_with fail
  refine Calls.mono (HU.out _ B_5.out) ?_
  rintro e_ w6 ⟨rfl, hb_⟩
  have B_6 := Lib.hid (B_5.out.trans (hb_.mono B_5.out.size))
  replace K0 := Lib.hid (heap_kept K0.out hb_ (Nat.le_refl _))
  replace Ra := Lib.hid (Ra.out.below hb_ (Nat.le_refl _))
  replace Rb := Lib.hid (Rb.out.below hb_ (Nat.le_refl _))
  replace R8 := Lib.hid (R8.out.below hb_ (Nat.le_refl _))
  replace R9 := Lib.hid (R9.out.below hb_ (Nat.le_refl _))
  replace Rm : Hid (code = 0 → Rd w6 am (cellsQ SQ)) := fun h => (Rm.out h).below hb_ (Nat.le_refl _)
  clear hb_ B_5
  go_wp2_with fail
  refine Calls.mono (HU.out _ B_6.out) ?_
  rintro e_ w7 ⟨rfl, hb_⟩
  have B_7 := Lib.hid (B_6.out.trans (hb_.mono B_6.out.size))
  replace K0 := Lib.hid (heap_kept K0.out hb_ (Nat.le_refl _))
  replace Ra := Lib.hid (Ra.out.below hb_ (Nat.le_refl _))
  replace Rb := Lib.hid (Rb.out.below hb_ (Nat.le_refl _))
  replace R8 := Lib.hid (R8.out.below hb_ (Nat.le_refl _))
  replace R9 := Lib.hid (R9.out.below hb_ (Nat.le_refl _))
  replace Rm : Hid (code = 0 → Rd w7 am (cellsQ SQ)) := fun h => (Rm.out h).below hb_ (Nat.le_refl _)
  clear hb_ B_6
  go_wp2_with fail
  refine Calls.mono (HC1.out _ _ _ _ _ B_7.out Ra.out Rb.out) ?_
  rintro e_ w8 ⟨a14, c14, rfl, r_, hb_⟩
  have B_8 := Lib.hid (B_7.out.trans (hb_.mono B_7.out.size))
  replace K0 := Lib.hid (heap_kept K0.out hb_ (Nat.le_refl _))
  replace Ra := Lib.hid (Ra.out.below hb_ (Nat.le_refl _))
  replace Rb := Lib.hid (Rb.out.below hb_ (Nat.le_refl _))
  replace R8 := Lib.hid (R8.out.below hb_ (Nat.le_refl _))
  replace R9 := Lib.hid (R9.out.below hb_ (Nat.le_refl _))
  replace Rm : Hid (code = 0 → Rd w8 am (cellsQ SQ)) := fun h => (Rm.out h).below hb_ (Nat.le_refl _)
  have R14 := Lib.hid r_
  clear hb_ r_ B_7 HC1
  go_wp2_with fail
  refine Calls.mono (HU.out _ B_8.out) ?_
  rintro e_ w9 ⟨rfl, hb_⟩
  have B_9 := Lib.hid (B_8.out.trans (hb_.mono B_8.out.size))
  replace K0 := Lib.hid (heap_kept K0.out hb_ (Nat.le_refl _))
  replace Ra := Lib.hid (Ra.out.below hb_ (Nat.le_refl _))
  replace Rb := Lib.hid (Rb.out.below hb_ (Nat.le_refl _))
  replace R8 := Lib.hid (R8.out.below hb_ (Nat.le_refl _))
  replace R9 := Lib.hid (R9.out.below hb_ (Nat.le_refl _))
  replace R14 := Lib.hid (R14.out.below hb_ (Nat.le_refl _))
  replace Rm : Hid (code = 0 → Rd w9 am (cellsQ SQ)) := fun h => (Rm.out h).below hb_ (Nat.le_refl _)
  clear hb_ B_8
  go_wp2_with fail
  refine Calls.mono (HV.out _ B_9.out) ?_
  rintro e_ w10 ⟨rfl, hb_⟩
  have B_10 := Lib.hid (B_9.out.trans (hb_.mono B_9.out.size))
  replace K0 := Lib.hid (heap_kept K0.out hb_ (Nat.le_refl _))
  replace Ra := Lib.hid (Ra.out.below hb_ (Nat.le_refl _))
  replace Rb := Lib.hid (Rb.out.below hb_ (Nat.le_refl _))
  replace R8 := Lib.hid (R8.out.below hb_ (Nat.le_refl _))
  replace R9 := Lib.hid (R9.out.below hb_ (Nat.le_refl _))
  replace R14 := Lib.hid (R14.out.below hb_ (Nat.le_refl _))
  replace Rm : Hid (code = 0 → Rd w10 am (cellsQ SQ)) := fun h => (Rm.out h).below hb_ (Nat.le_refl _)
  clear hb_ B_9
  go_wp2_with fail
  refine Calls.mono (HC2.out _ _ _ _ _ B_10.out Ra.out Rb.out) ?_
  rintro e_ w11 ⟨a16, c16, rfl, r_, hb_⟩
  have B_11 := Lib.hid (B_10.out.trans (hb_.mono B_10.out.size))
  replace K0 := Lib.hid (heap_kept K0.out hb_ (Nat.le_refl _))
  replace Ra := Lib.hid (Ra.out.below hb_ (Nat.le_refl _))
  replace Rb := Lib.hid (Rb.out.below hb_ (Nat.le_refl _))
  replace R8 := Lib.hid (R8.out.below hb_ (Nat.le_refl _))
  replace R9 := Lib.hid (R9.out.below hb_ (Nat.le_refl _))
  replace R14 := Lib.hid (R14.out.below hb_ (Nat.le_refl _))
  replace Rm : Hid (code = 0 → Rd w11 am (cellsQ SQ)) := fun h => (Rm.out h).below hb_ (Nat.le_refl _)
  have R16 := Lib.hid r_
  clear hb_ r_ B_10 HC2
  clear HU HV Rb
  go_wp2_with fail
  refine Calls.mono (HE.out _ _ _ _ _ _ (Hcl.out u u) R8.out R14.out) ?_
  rintro e_ w12 ⟨rfl, hb_⟩
  have B_12 := Lib.hid (B_11.out.trans (hb_.mono B_11.out.size))
  replace K0 := Lib.hid (heap_kept K0.out hb_ (Nat.le_refl _))
  replace Ra := Lib.hid (Ra.out.below hb_ (Nat.le_refl _))
  replace R8 := Lib.hid (R8.out.below hb_ (Nat.le_refl _))
  replace R9 := Lib.hid (R9.out.below hb_ (Nat.le_refl _))
  replace R14 := Lib.hid (R14.out.below hb_ (Nat.le_refl _))
  replace R16 := Lib.hid (R16.out.below hb_ (Nat.le_refl _))
  replace Rm : Hid (code = 0 → Rd w12 am (cellsQ SQ)) := fun h => (Rm.out h).below hb_ (Nat.le_refl _)
  clear hb_ B_11
  clear R8 R14
  go_wp2_with fail
  refine Calls.mono (HE.out _ _ _ _ _ _ (Hcl.out u v) R9.out R16.out) ?_
  rintro e_ w13 ⟨rfl, hb_⟩
  have B_13 := Lib.hid (B_12.out.trans (hb_.mono B_12.out.size))
  replace K0 := Lib.hid (heap_kept K0.out hb_ (Nat.le_refl _))
  replace Ra := Lib.hid (Ra.out.below hb_ (Nat.le_refl _))
  replace R9 := Lib.hid (R9.out.below hb_ (Nat.le_refl _))
  replace R16 := Lib.hid (R16.out.below hb_ (Nat.le_refl _))
  replace Rm : Hid (code = 0 → Rd w13 am (cellsQ SQ)) := fun h => (Rm.out h).below hb_ (Nat.le_refl _)
  clear hb_ B_12
  clear R9 R16 Hcl
  obtain ⟨k0, k1, -, -⟩ := two_cells K0.out
  go_wp2_with fail
  clear k0 k1
  by_cases hq : IsQ s t
  · have hcode := Hcode.out.2 hq
    have hC := Lib.hid ((HCk.out _ B_13.out).1 hq)
    have HC3 := Lib.hid (HC3.out hq)
    have hlen := Hlen3.out hq
    clear HCk Hlen3 Hcode hq
    refine Calls.mono (hC.out) ?_
    rintro e_ w14 ⟨rfl, hb_⟩
    have B_14 := Lib.hid (B_13.out.trans (hb_.mono B_13.out.size))
    replace K0 := Lib.hid (heap_kept K0.out hb_ (Nat.le_refl _))
    replace Ra := Lib.hid (Ra.out.below hb_ (Nat.le_refl _))
    replace Rm : Hid (code = 0 → Rd w14 am (cellsQ SQ)) := fun h => (Rm.out h).below hb_ (Nat.le_refl _)
    clear hb_ B_13
    obtain ⟨k0, k1, -, -⟩ := two_cells K0.out
    have q0 := BW.cell k0
    have q1 := BW.cell k1
    have hnon : Nonempty (BW w14) := ⟨⟨w14, Below.refl _ _⟩⟩
    have I : Hid (Below w14.heap.size w14 w14.drew) := (Below.refl _ _).drew
    have Hcd := Lib.hid hcode
    have Hln := Lib.hid hlen
    clear hcode hlen hC
    go_wp2_with fail
    clear k0 k1 K0
    refine RX.wp_region_readers 9 [(1,0),(1,1),(1,2),(0,3),(0,4),(2,5),(2,6),(2,7),(2,8),(0,9)] (fun w' => ∃ p : BW w14, w' = p.w) (by kernel_rfl) (by kernel_rfl) ?_ ?_
    · exact ⟨⟨_, I.out⟩, rfl⟩
    iterate 3 (refine RX.walkR_read ?_; simp only [List.drop_succ_cons, List.drop_zero, List.take_succ_cons, List.take_zero]; go_big_quiet_step (fail); refine wpQuiet_nil ?_)
    clear hnon q0 q1
    refine RX.walkR_move ?_
    simp only [List.drop_succ_cons, List.drop_zero, List.take_succ_cons, List.take_zero]
    go_wp2_with fail
    refine Calls.mono (HO.out _ (B_14.out.drew)) ?_
    rintro e_ wa ⟨rfl, hb_⟩
    have Wa : Hid (Below w14.heap.size w14 wa) := (Below.refl w14.heap.size w14).drew.trans hb_
    clear hb_ HO I
    go_wp2_with fail
    refine ⟨⟨⟨_, Wa.out⟩, rfl⟩, ?_⟩
    refine RX.walkR_move ?_
    simp only [List.drop_succ_cons, List.drop_zero, List.take_succ_cons, List.take_zero]
    go_wp2_with fail
    replace Ra := Lib.hid (Ra.out.below Wa.out (Nat.le_refl _))
    replace Rm : Hid (code = 0 → Rd wa am (cellsQ SQ)) := fun h => (Rm.out h).below Wa.out (Nat.le_refl _)
    have Ba := Lib.hid (B_14.out.trans (Wa.out.mono B_14.out.size))
    refine Calls.mono (HC3.out _ _ _ _ _ Ba.out Ra.out Ra.out) ?_
    rintro e_ wc ⟨at_, ct, rfl, rt_, hb_⟩
    have Wc := Lib.hid (Wa.out.trans (hb_.mono Wa.out.size))
    have Bc := Lib.hid (Ba.out.trans (hb_.mono Ba.out.size))
    have Rt := Lib.hid rt_
    replace Rm : Hid (code = 0 → Rd wc am (cellsQ SQ)) := fun h => (Rm.out h).below hb_ (Nat.le_refl _)
    clear hb_ rt_ HC3 Ba Wa Ra
    go_wp2_with fail
    refine ⟨⟨⟨_, Wc.out⟩, rfl⟩, ?_⟩
    refine RX.walkR_any ?_
    simp only [List.drop_succ_cons, List.drop_zero, List.take_succ_cons, List.take_zero]
    go_big_quiet_step (fail)
    refine wpQuiet_nil ?_
    refine RX.walkR_any ?_
    simp only [List.drop_succ_cons, List.drop_zero, List.take_succ_cons, List.take_zero]
    go_big_quiet_step (fail)
    refine wpQuiet_nil ?_
    refine RX.walkR_any ?_
    simp only [List.drop_succ_cons, List.drop_zero, List.take_succ_cons, List.take_zero]
    go_big_quiet_step (fail)
    refine wpQuiet_nil ?_
    refine RX.walkR_any ?_
    simp only [List.drop_succ_cons, List.drop_zero, List.take_succ_cons, List.take_zero]
    go_big_quiet_step (fail)
    refine wpQuiet_nil ?_
    refine RX.walkR_move ?_
    simp only [List.drop_succ_cons, List.drop_zero, List.take_succ_cons, List.take_zero]
    go_wp2_with fail
    simp only [RX.walkR]
    clear Wc
    by_cases hsh : shortAll SQ = true
    · have hc0 : code = 0 := by rw [Hcd.out, if_pos hsh]
      have hzn : z = n := by rw [← Hz.out, if_pos hc0, Hln.out]
      have rm := Lib.hid (Rm.out hc0)
      rw [hsh]
      clear Hcd Hz Rm hsh
      subst hc0
      subst hzn
      go_wp2_with fail
      refine Calls.mono (HE.out _ _ _ _ _ SQ Hln.out rm.out Rt.out) ?_
      rintro e_ wd ⟨rfl, hb_⟩
      have Bd := Lib.hid (Bc.out.trans (hb_.mono Bc.out.size))
      clear hb_ HE Bc
      go_wp2_with fail
      go_ret
      exact ⟨rfl, Bd.out⟩
    · have hc0 : code = 4 := by rw [Hcd.out, if_neg hsh]
      have hzn : z = 0 := by rw [← Hz.out, if_neg (by rw [hc0]; decide)]
      have hsf : shortAll SQ = false := by simpa using hsh
      rw [hsf]
      clear Hcd Hz Rm hsh hsf
      subst hc0
      subst hzn
      go_wp2_with fail
      go_ret
      exact ⟨rfl, Bc.out⟩
  · have hcode := Hcode.out.1 hq
    have hC := Lib.hid ((HCk.out _ B_13.out).2 hq)
    have hzn : z = 0 := by rw [← Hz.out, if_neg (by rw [hcode]; decide)]
    clear HCk Hlen3 Hcode hq Hz HC3
    subst hcode
    subst hzn
    refine Calls.mono hC.out ?_
    rintro e_ w15 ⟨rfl, hb_⟩
    have Bz := Lib.hid (B_13.out.trans (hb_.mono B_13.out.size))
    clear hb_ hC
    go_wp2_with fail
    go_ret
    exact ⟨rfl, Bz.out⟩
end Go.Proofs.YtlomhfknmhaboaaGreatDoor

/- The law SizeCombines over short lists: what its function returns. -/
namespace Go.Proofs.YtlomhfknmhaboaaGreatDoor
open Go.RowKit

theorem OwnL.push {w1 w3 : World} {B d n c : Nat} {b a : Option Addr} {L : List (Option Addr × Nat)} {ls : List (List Rat)} {l : List Rat} {v' : Value} (h : OwnL w1 B b d n L ls) (hB : B ≤ w1.heap.size) (ho : OwnQ w1 B a c l) (hl : l.length = n)
    (hown : w3.ownsRow B 34 1 v' (L.length + 1) ((L.map fun x => Value.slice x.1 n x.2) ++ [.slice a n c])) (hg : (w1.alloc (.cells #[.slice a n c] 34)).grownBy w3 (Value.slice b L.length d).ownBlock) :
    ∃ b' d', v' = .slice b' (L.length + 1) d' ∧ OwnL w3 B b' d' n (L ++ [(a, c)]) (ls ++ [l]) := by
  obtain ⟨b', d', rfl⟩ := own_form hown
  have hA : Below w1.heap.size w1 (w1.alloc (.cells #[.slice a n c] 34)) := (Below.refl _ _).alloc (Nat.le_refl _) _
  have hrow := own_below h.row hA (Nat.le_refl _)
  have keep : ∀ (a2 : Option Addr) (c2 : Nat) (l2 : List Rat), OwnQ w1 B a2 c2 l2 → OwnQ w3 B a2 c2 l2 := fun a2 c2 l2 h2 => by
    have h3 := ownS_own (h2.below hA (Nat.le_refl _))
    refine own_ownQ (World.ownsRow.kept h3 hg ?_)
    have hap := own_apart hrow h3 (by decide)
    cases hv : (Value.slice b L.length d).ownBlock with
    | none => cases hv2 : (Value.slice a2 l2.length c2).ownBlock <;> simp
    | some k => exact .inr (hap k hv)
  refine ⟨b', d', rfl, ?_, ?_, ?_, ?_⟩
  · simp [h.len]
  · rw [List.length_append, List.map_append]
    exact hown
  · intro i h1 h2
    by_cases hi : i < L.length
    · have hi2 : i < ls.length := by rw [← h.len]; exact hi
      rw [List.getElem_append_left hi2]
      simp only [List.getElem_append_left hi]
      exact keep _ _ _ (h.each i hi hi2)
    · have e : i = L.length := by simp at h1; omega
      subst e
      rw [List.getElem_append_right (by rw [h.len]; exact Nat.le_refl _)]
      simp only [List.getElem_append_right (Nat.le_refl _), h.len, Nat.sub_self, List.getElem_cons_zero]
      exact keep _ _ _ ho
  · intro m hm
    rcases List.mem_append.1 hm with hm | hm
    · exact h.lens m hm
    · rw [List.mem_singleton.1 hm]; exact hl

set_option maxRecDepth 100000 in
set_option maxHeartbeats 64000000 in
theorem lawCom_main (w : World) (nn : Nat) (aP aF : Option Addr) (cP cF : Nat) (pl : List PartsD) (fl : Pairs) (rP : RdK w 8 aP (pl.map fun p => (partsV p.1 p.2).toList)) (bP : ∀ p ∈ pl, (∀ k, -128 ≤ p.1 k ∧ p.1 k ≤ 127) ∧ ∀ k, p.2 k < 256) (rF : Rd w aF (cellsS fl)) (hm : pl.length ≤ 5) (hk : fl.length ≤ 6) (hnn : nn < 256) (L : Laid w) :
    Gives Tryz.prog 3 #[.int .u8 nn, .slice aP pl.length cP, .slice aF fl.length cF] w (.bool true) := by
  unfold Gives
  have hp := primesL_ok (nn % 10) (Nat.mod_lt _ (by decide))
  have HPr := Lib.hid (fun W => primes_any W nn hnn)
  generalize primesL (nn % 10) = ps at *
  obtain ⟨hp0, hp4, hp1, hp2⟩ := hp
  have hi : I64s ps := fun x hx => by have := hp2 x hx; omega
  have HK : Hid (∀ W, Below w.heap.size w W → Gives Tryz.prog 12 #[] W (.bool true)) := fun W hW => known_ok W (L.below hW)
  have HCk : Hid (∀ W (x : ByteArray × ByteArray), Below w.heap.size w W → x.1.size ≤ 45 → x.2.size ≤ 45 → (IsQ x.1 x.2 → Gives Tryz.prog 14 #[.agg #[.string x.1, .string x.2]] W (.int .i64 0)) ∧ (¬ IsQ x.1 x.2 → Gives Tryz.prog 14 #[.agg #[.string x.1, .string x.2]] W (.int .i64 2))) := fun W x hW h1 h2 =>
    ⟨fun h => by obtain ⟨q, e1, e2, hq⟩ := h; rw [e1, e2]; exact checkR W q hq (L.below hW), fun h => checkS_no W x.1 x.2 (by omega) (by omega) h (L.below hW)⟩
  have HMk : Hid (∀ (p : PartsD) W a0 c0, p ∈ pl → Below w.heap.size w W → Calls Tryz.prog 15 #[.slice a0 ps.length c0, .agg #[.int .i8 (p.1 0), .int .u8 (p.2 0), .int .i8 (p.1 1), .int .u8 (p.2 1), .int .i8 (p.1 2), .int .u8 (p.2 2), .int .i8 (p.1 3), .int .u8 (p.2 3)]] W fun e w' => ∃ a c, e = .returned (.slice a ps.length c) ∧ OwnQ w' W.heap.size a c (partsQ p.1 p.2 ps.length) ∧ Below W.heap.size W w') := fun p W a0 c0 hpm hW =>
    make_any W a0 c0 ps.length hp4 p.1 p.2 (bP p hpm).1 (bP p hpm).2 (L.below hW)
  have HM0 : Hid (∀ W a0 c0, Below w.heap.size w W → Calls Tryz.prog 15 #[.slice a0 ps.length c0, .agg #[.int .i8 0, .int .u8 0, .int .i8 0, .int .u8 0, .int .i8 0, .int .u8 0, .int .i8 0, .int .u8 0]] W fun e w' => ∃ a c, e = .returned (.slice a ps.length c) ∧ OwnQ w' W.heap.size a c (partsQ (fun _ => 0) (fun _ => 0) ps.length) ∧ Below W.heap.size W w') := fun W a0 c0 hW =>
    make_any W a0 c0 ps.length hp4 (fun _ => 0) (fun _ => 0) (fun _ => by decide) (fun _ => by decide) (L.below hW)
  have HOut : Hid (∀ hs : (∀ x ∈ fl, x.1.size ≤ 45 ∧ x.2.size ≤ 45), ∃ code SQ, ComOut ps.length pl fl code SQ ∧ ∀ (W : World) (a0 a1 a2 : Option Addr) (c0 c1 c2 : Nat), Below w.heap.size w W → Rd W a0 (ints ps) → RdL W a1 ((sizesQ pl ps.length).map (List.map qs)) → Rd W a2 (cellsS fl) →
      GivesC 16 #[.slice a0 ps.length c0, .slice a1 pl.length c1, .slice a2 fl.length c2] W code SQ) := fun hs => com_out w ps hi hp0 pl fl hm hk hs L
  have HL := Lib.hid L
  have RF := Lib.hid rF
  have RP := Lib.hid rP
  have Hp4 := Lib.hid hp4
  have Hp1 := Lib.hid hp1
  clear L hi bP rF rP hnn hp0 hp2
  obtain ⟨n, hn⟩ : ∃ n, ps.length = n := ⟨_, rfl⟩
  rw [hn] at HPr HMk HM0 HOut Hp4 Hp1
  clear hp4 hp1 hn
  obtain ⟨k, hkk⟩ : ∃ k, fl.length = k := ⟨_, rfl⟩
  obtain ⟨m, hmm⟩ : ∃ m, pl.length = m := ⟨_, rfl⟩
  rw [hkk] at hk ⊢
  rw [hmm] at hm ⊢
  have Hkk := Lib.hid hkk
  have Hmm := Lib.hid hmm
  clear hkk hmm
  have hm5 : ¬ (5 : Int) < m := by omega
  have hk6 : ¬ (6 : Int) < k := by omega
  go_enter Tryz.func3, Tryz.ntmps3
  go_wp2_with fail
  refine Calls.mono (HK.out _ (Below.refl _ _)) ?_
  rintro e_ w1 ⟨rfl, hb_⟩
  have B1 := Lib.hid hb_
  clear hb_ HK
  go_wp2_with fail
  refine Calls.mono (HPr.out _) ?_
  rintro e_ w2 ⟨gp, rfl, rp_, hb_⟩
  have B2 := Lib.hid (B1.out.trans (hb_.mono B1.out.size))
  have Rp := Lib.hid rp_
  clear hb_ rp_ HPr B1
  go_wp2_with fail
  go_loopw [8, 9] (fun r i wr => ∃ j : Nat, j ≤ k ∧ i = .int .i64 j ∧ r = .bool (rightAll (fl.take j)) ∧ Hid (∀ i (h : i < fl.length), i < j → fl[i].1.size ≤ 45 ∧ fl[i].2.size ≤ 45) ∧ Hid (Rd wr (some ⟨gp, 0, none⟩) (ints ps)) ∧ Hid (Below w.heap.size w wr)) (fun _ i _ => k - (intOf i).toNat)
  case atStart => exact ⟨0, Nat.zero_le _, rfl, rfl, fun i _ h => absurd h (Nat.not_lt_zero _), Rp, B2⟩
  case round =>
    clear Rp B2
    obtain ⟨j, hj, rfl, rfl, H45, Rp, B⟩ := hrel
    by_cases hlt : j < k
    · have hlt' : (j : Int) < k := by omega
      have hjf : j < fl.length := by rw [Hkk.out]; exact hlt
      obtain ⟨b, off, rfl, hb, hcells⟩ := RF.out.open (by rw [cellsS_length, Hkk.out]; omega)
      obtain ⟨x0, x1⟩ := cellsS_rd hcells j hjf
      rw [← B.out.cell (p := ⟨b, off + j * 2, none⟩) hb, show fl.getD j default = fl[j] by rw [List.getD_eq_getElem?_getD, List.getElem?_eq_getElem hjf]; rfl] at x0
      rw [← B.out.cell (p := ⟨b, off + j * 2 + 1, none⟩) hb, show fl.getD j default = fl[j] by rw [List.getD_eq_getElem?_getD, List.getElem?_eq_getElem hjf]; rfl] at x1
      have Hra := Lib.hid (rightAll_succ fl j hjf)
      have H45' : Hid (fl[j].1.size ≤ 45 → fl[j].2.size ≤ 45 → ∀ i (h : i < fl.length), i < j + 1 → fl[i].1.size ≤ 45 ∧ fl[i].2.size ≤ 45) := fun h1 h2 i h hij => by
        rcases Nat.lt_or_ge i j with hh | hh
        · exact H45.out i h hh
        · have e : i = j := by omega
          subst e; exact ⟨h1, h2⟩
      have Hck := Lib.hid (HCk.out wr fl[j] B.out)
      clear hcells H45
      have HJ := Lib.hid hlt
      generalize fl[j] = x at *
      obtain ⟨s, t⟩ := x
      simp only at x0 x1 Hck Hra H45'
      by_cases h1 : (45 : Int) < s.size
      · go_wp2_with fail
        go_ret
        exact ⟨rfl, B.out⟩
      · by_cases h2 : (45 : Int) < t.size
        · go_wp2_with fail
          go_ret
          exact ⟨rfl, B.out⟩
        · have H4 := Lib.hid (H45'.out (by omega) (by omega))
          obtain ⟨ck1, ck2⟩ := Hck.out (by omega) (by omega)
          clear H45' Hck
          by_cases hr : rightAll (fl.take j) = true
          · rw [hr] at Hra ⊢
            by_cases hq : IsQ s t
            · have Hc := Lib.hid (ck1 hq)
              have Hr2 : Hid (rightAll (fl.take (j + 1)) = true) := by show _ = _; rw [Hra.out]; simp [hq]
              clear ck1 ck2 hr hq Hra
              go_wp2_with fail
              refine Calls.mono Hc.out ?_
              rintro e_ w3 ⟨rfl, hb_⟩
              have B3 := Lib.hid (B.out.trans (hb_.mono B.out.size))
              have Rp3 := Lib.hid (Rp.out.below hb_ (Nat.le_refl _))
              clear hb_ B Rp Hc
              go_wp2_with fail
              go_roundw
              case rel => exact ⟨j + 1, HJ.out, by go_num, by rw [Hr2.out], H4, Rp3, B3⟩
              case measure => simp [intOf]; omega
            · have Hc := Lib.hid (ck2 hq)
              have Hr2 : Hid (rightAll (fl.take (j + 1)) = false) := by show _ = _; rw [Hra.out]; simp [hq]
              clear ck1 ck2 hr hq Hra
              go_wp2_with fail
              refine Calls.mono Hc.out ?_
              rintro e_ w3 ⟨rfl, hb_⟩
              have B3 := Lib.hid (B.out.trans (hb_.mono B.out.size))
              have Rp3 := Lib.hid (Rp.out.below hb_ (Nat.le_refl _))
              clear hb_ B Rp Hc
              go_wp2_with fail
              go_roundw
              case rel => exact ⟨j + 1, HJ.out, by go_num, by rw [Hr2.out], H4, Rp3, B3⟩
              case measure => simp [intOf]; omega
          · have hrf : rightAll (fl.take j) = false := by simpa using hr
            rw [hrf] at Hra ⊢
            have Hr2 : Hid (rightAll (fl.take (j + 1)) = false) := by show _ = _; rw [Hra.out]; rfl
            clear ck1 ck2 hr hrf Hra
            go_wp2_with fail
            go_roundw
            case rel => exact ⟨j + 1, HJ.out, by go_num, by rw [Hr2.out], H4, Rp, B⟩
            case measure => simp [intOf]; omega
    · have hlt' : ¬ (j : Int) < k := by omega
      have hjk : j = k := by omega
      subst hjk
      obtain ⟨code, SQ, hO, hC⟩ := HOut.out (fun x hx => by
        obtain ⟨i, hi, rfl⟩ := List.mem_iff_getElem.1 hx
        exact H45.out i hi (by rw [← Hkk.out]; exact hi))
      have HO := Lib.hid hO
      obtain ⟨z, hz⟩ : ∃ z : Nat, (if code = 0 then SQ.length else 0) = z := ⟨_, rfl⟩
      have Hz := Lib.hid hz
      unfold GivesC at hC
      simp only [Hmm.out, Hkk.out, hz] at hC
      have HC := Lib.hid hC
      clear hO hC HOut HCk H45 hz
      rw [show fl.take j = fl by rw [← Hkk.out, List.take_length]]
      generalize hrr : rightAll fl = rr at *
      have Hrr := Lib.hid hrr
      clear hrr
      obtain ⟨wq, hwq⟩ : ∃ x : World, x = wr := ⟨_, rfl⟩
      subst hwq
      have Bq := Lib.hid B.out
      clear B
      go_wp2_with fail
      go_loopw [10, 11] (fun sz i wr => ∃ (j : Nat) (b : Option Addr) (d : Nat) (LL : List (Option Addr × Nat)), j ≤ m ∧ i = .int .i64 j ∧ sz = .slice b j d ∧ Hid (OwnL wr wq.heap.size b d n LL ((sizesQ pl n).take j)) ∧ Hid (LL.length = j) ∧ Hid (Below wq.heap.size wq wr)) (fun _ i _ => m - (intOf i).toNat)
      case atStart => exact ⟨0, none, 0, [], Nat.zero_le _, rfl, rfl, ⟨rfl, World.ownsRow_nil .., fun i h => absurd h (Nat.not_lt_zero _), fun l hl => by simp at hl⟩, rfl, Below.refl _ _⟩
      case round =>
        obtain ⟨i, b, d, LL, hi, rfl, rfl, OL, HLL, Wq⟩ := hrel
        have B := Lib.hid (Bq.out.trans (Wq.out.mono Bq.out.size))
        by_cases hlt2 : i < m
        · have hlt2' : (i : Int) < m := by omega
          have hip : i < pl.length := by rw [Hmm.out]; exact hlt2
          rcases RP.out with hnil | ⟨b0, o0, rfl, hb0, hc0⟩
          · exfalso
            have : pl.length = 0 := by have := congrArg List.length hnil; simpa using this
            omega
          have hcw : ∀ jj, jj < 8 → wr.cell? ⟨b0, o0 + i * 8 + jj, none⟩ = (partsV pl[i].1 pl[i].2).toList[jj]? := fun jj hjj => by
            rw [B.out.cell (p := ⟨b0, o0 + i * 8 + jj, none⟩) hb0, hc0 i (by rw [List.length_map]; exact hip) jj hjj, List.getElem_map]
          have Hmk := Lib.hid (fun W a0 c0 hW => HMk.out pl[i] W a0 c0 (List.getElem_mem hip) hW)
          have Hsi : Hid ((sizesQ pl n).take (i + 1) = (sizesQ pl n).take i ++ [partsQ pl[i].1 pl[i].2 n]) := by
            show _ = _
            rw [List.take_add_one, List.getElem?_eq_getElem (by rw [sizesQ_length]; exact hip)]
            simp [sizesQ]
          have y0 : wr.cell? ⟨b0, o0 + i * 8, none⟩ = some (.int .i8 (pl[i].1 0)) := hcw 0 (by decide)
          have y1 : wr.cell? ⟨b0, o0 + i * 8 + 1, none⟩ = some (.int .u8 (pl[i].2 0)) := hcw 1 (by decide)
          have y2 : wr.cell? ⟨b0, o0 + i * 8 + 2, none⟩ = some (.int .i8 (pl[i].1 1)) := hcw 2 (by decide)
          have y3 : wr.cell? ⟨b0, o0 + i * 8 + 3, none⟩ = some (.int .u8 (pl[i].2 1)) := hcw 3 (by decide)
          have y4 : wr.cell? ⟨b0, o0 + i * 8 + 4, none⟩ = some (.int .i8 (pl[i].1 2)) := hcw 4 (by decide)
          have y5 : wr.cell? ⟨b0, o0 + i * 8 + 5, none⟩ = some (.int .u8 (pl[i].2 2)) := hcw 5 (by decide)
          have y6 : wr.cell? ⟨b0, o0 + i * 8 + 6, none⟩ = some (.int .i8 (pl[i].1 3)) := hcw 6 (by decide)
          have y7 : wr.cell? ⟨b0, o0 + i * 8 + 7, none⟩ = some (.int .u8 (pl[i].2 3)) := hcw 7 (by decide)
          clear hcw hc0
          have HI := Lib.hid hlt2
          generalize pl[i] = p at *
          go_wp2_with fail
          refine Calls.mono (Hmk.out _ _ _ B.out) ?_
          rintro e_ w3 ⟨a3, c3, rfl, ho_, hb_⟩
          have W3 := Lib.hid (Wq.out.trans (hb_.mono Wq.out.size))
          have OL3 := Lib.hid (OL.out.below hb_)
          have O3 := Lib.hid (ho_.lower Wq.out.size)
          clear hb_ ho_ OL Wq B Hmk y0 y1 y2 y3 y4 y5 y6 y7
          have Ow : Hid (w3.ownsRow wq.heap.size 34 1 (.slice b i d) i (LL.map fun x => .slice x.1 n x.2)) := by
            have := OL3.out.row
            rw [HLL.out] at this
            exact this
          have hsz := W3.out.size
          go_wp2_with (at_builtin; refine wpList_append_one rfl (.tmp 70) (.tmp 77) 33 rfl elSz _ (.slice a3 n c3) rfl rfl Ow.out hsz rfl (by omega) (by omega) ?_)
          intro v' w5 hown5 hg5 hat5
          have W5 : Hid (Below wq.heap.size wq w5) := (W3.out.alloc hsz _).grown hg5 (by simp; omega) (fun kk hk => (Ow.out.lt kk hk).1)
          have hll := HLL.out
          subst hll
          obtain ⟨b5, d5, rfl, ol5⟩ := OwnL.push OL3.out hsz O3.out (partsQ_length ..) hown5 hg5
          have OL5 := Lib.hid ol5
          clear hown5 hg5 hat5 ol5 OL3 O3 W3 hsz Ow
          go_wp2_with fail
          go_roundw
          case rel => exact ⟨LL.length + 1, b5, d5, _, HI.out, by go_num, rfl, by rw [Hsi.out]; exact OL5, by show _ = _; simp, W5⟩
          case measure => simp [intOf]; omega
        · have hlt2' : ¬ (i : Int) < m := by omega
          have him : i = m := by omega
          subst him
          rw [show (sizesQ pl n).take i = sizesQ pl n by rw [List.take_of_length_le (by rw [sizesQ_length, Hmm.out]; exact Nat.le_refl _)]] at OL
          have Rpw := Lib.hid (Rp.out.below Wq.out (Nat.le_refl _))
          have RFw := Lib.hid (RF.out.below B.out (Nat.le_refl _))
          have RLw := Lib.hid OL.out.rdl
          clear HMk RP Rp
          go_wp2_with fail
          refine Calls.mono (HC.out _ _ _ _ _ _ _ B.out Rpw.out RLw.out RFw.out) ?_
          rintro e_ w6 ⟨a6, c6, rfl, r6_, hb_⟩
          have B6 := Lib.hid (B.out.trans (hb_.mono B.out.size))
          have OL6 := Lib.hid (OL.out.below hb_)
          have R6 := Lib.hid r6_
          clear hb_ r6_ HC Rpw RFw RLw OL B Wq
          by_cases hkm : j = i
          · subst hkm
            by_cases hr : rr = true
            · obtain ⟨fs, hfs, hfb, hSQ, hcode⟩ := HO.out.fine (Hkk.out.trans Hmm.out.symm) (Hrr.out.trans hr)
              have HLsz : Hid (fs.length = (sizesQ pl n).length) := by show _ = _; rw [sizesQ_length, Hmm.out, ← Hkk.out, hfs, List.length_map]
              have HSQ := Lib.hid hSQ
              have Hcd := Lib.hid hcode
              have Hfb := Lib.hid hfb
              have HSl : Hid (SQ.length = n) := by show _ = _; rw [hSQ]; exact sumQ_length _ _ _ (fun l hl => (sizesQ_all pl n l hl).1) HLsz.out
              have RF2 : Hid (Rd w aF (cellsQ fs)) := by have := RF.out; rw [hfs] at this; exact this
              clear hfs hSQ hcode hfb HO Hkk RF
              subst hr
              obtain ⟨o, ho⟩ : ∃ q : Rat, q = 0 := ⟨_, rfl⟩
              obtain ⟨u, hu⟩ : ∃ q : Rat, q = 1 := ⟨_, rfl⟩
              have HPo : Hid (∀ W, Below w.heap.size w W → Gives Tryz.prog 18 #[.int .i64 0, .int .i64 1] W (fr o)) := fun W hW => by subst ho; rw [← part_zero]; exact partR W 0 1 (by decide) (by decide) (by decide) (by decide) (HL.out.below hW)
              have HPu : Hid (∀ W, Below w.heap.size w W → Gives Tryz.prog 18 #[.int .i64 1, .int .i64 1] W (fr u)) := fun W hW => by subst hu; rw [← part_one]; exact partR W 1 1 (by decide) (by decide) (by decide) (by decide) (HL.out.below hW)
              have HCm : Hid (∀ (W : World) (a1 a2 : Option Addr) (c1 c2 : Nat) (lx ly : List Rat) (f g : Rat), Below w.heap.size w W → lx.length = n → ly.length = n → (∀ q ∈ lx, Sm 400 q) → (∀ q ∈ ly, Sm 400 q) → Sm 400 f → Sm 400 g → Rd W a1 (cellsQ lx) → Rd W a2 (cellsQ ly) →
                  Calls Tryz.prog 17 #[.slice a1 n c1, .slice a2 n c2, .agg #[.string (itx f.num), .string (dec f.den)], .agg #[.string (itx g.num), .string (dec g.den)]] W fun e w' => ∃ a c, e = .returned (.tuple #[.slice a n c, .bool (shortAll (combineQ lx ly f g))]) ∧ Rd w' a (cellsQ (combineQ lx ly f g)) ∧ Below W.heap.size W w') := fun W a1 a2 c1 c2 lx ly f g hW h1 h2 h3 h4 h5 h6 r1 r2 => by
                have h := law_combine W a1 a2 c1 c2 lx ly f g r1 r2 (h2.trans h1.symm) (by have := Hp4.out; omega) h3 h4 h5 h6 (HL.out.below hW)
                rw [h1] at h
                refine Calls.mono h ?_
                rintro e w' ⟨a, c, rfl, ho, hb⟩
                exact ⟨a, c, rfl, ho.rd, hb⟩
              have HE : Hid (∀ (W : World) (a1 a2 : Option Addr) (c1 c2 : Nat) (lx : List Rat), lx.length = n → Rd W a1 (cellsQ lx) → Rd W a2 (cellsQ lx) → Gives Tryz.prog 20 #[.slice a1 n c1, .slice a2 n c2] W (.bool true)) := fun W a1 a2 c1 c2 lx hx r1 r2 => by
                have h := equal_any W a1 a2 c1 c2 lx lx r1 r2 (by have := Hp4.out; omega)
                rw [hx, decide_eq_true rfl] at h
                exact h
              have So : Hid (Sm 400 o) := by show Sm _ _; rw [ho]; exact Sm.zero.le (by decide)
              have Su : Hid (Sm 400 u) := by show Sm _ _; rw [hu]; exact sm_one.le (by decide)
              have HS0 : Hid (combineQ (partsQ (fun _ => 0) (fun _ => 0) n) (partsQ (fun _ => 0) (fun _ => 0) n) o o = sumsTo n (sizesQ pl n) fs 0) := by
                show _ = _
                rw [ho]
                refine List.ext_getElem (by simp [combineQ, partsQ, sumsTo]) fun i h1 h2 => ?_
                simp only [combineQ, sumsTo, List.getElem_zipWith, List.getElem_replicate, Rat.mul_zero, Rat.add_zero]
              have HS1 : Hid (∀ tt, tt < j → combineQ (sumsTo n (sizesQ pl n) fs tt) ((sizesQ pl n).getD tt []) u (fs.getD tt 0) = sumsTo n (sizesQ pl n) fs (tt + 1)) := fun tt _ => by rw [hu]; rfl
              have HSm : Hid (∀ tt, tt ≤ j → (sumsTo n (sizesQ pl n) fs tt).length = n ∧ ∀ q ∈ sumsTo n (sizesQ pl n) fs tt, Sm 400 q) := fun tt htt => by
                have hsl := sizesQ_length pl n
                rw [Hmm.out] at hsl
                refine ⟨sumsTo_length n _ _ (fun l hl => (sizesQ_all pl n l hl).1) tt (by omega), fun q hq => ?_⟩
                exact (sumsTo_sm n _ _ (fun l hl => (sizesQ_all pl n l hl).2) Hfb.out tt (by omega) (by rw [HLsz.out]; omega) q hq).le (by have : tt * 50 ≤ 5 * 50 := Nat.mul_le_mul_right _ (by omega); omega)
              have HSz : Hid (∀ tt (h : tt < (sizesQ pl n).length), (sizesQ pl n)[tt].length = n ∧ ∀ q ∈ (sizesQ pl n)[tt], Sm 400 q) := fun tt h => ⟨(sizesQ_all pl n _ (List.getElem_mem h)).1, fun q hq => ((sizesQ_all pl n _ (List.getElem_mem h)).2 q hq).le (by decide)⟩
              have HSn : Hid (sumsTo n (sizesQ pl n) fs j = SQ) := by
                show _ = _
                rw [HSQ.out, ← sumsTo_all n _ fs HLsz.out, sizesQ_length, Hmm.out]
              have HZl : Hid ((partsQ (fun _ => 0) (fun _ => 0) n).length = n ∧ ∀ q ∈ partsQ (fun _ => 0) (fun _ => 0) n, Sm 400 q) := ⟨partsQ_length .., fun q hq => (partsQ_sm _ _ _ q hq).le (by decide)⟩
              have HLn : Hid ((sizesQ pl n).length = j) := by show _ = _; rw [sizesQ_length, Hmm.out]
              clear ho hu HL HSQ
              unfold fr fv at HPo HPu
              generalize partsQ (fun _ => 0) (fun _ => 0) n = Z at *
              generalize sizesQ pl n = LS at *
              go_wp2_with fail
              refine Calls.mono (HM0.out _ _ _ B6.out) ?_
              rintro e_ w7 ⟨a7, c7, rfl, o7_, hb_⟩
              have B7 := Lib.hid (B6.out.trans (hb_.mono B6.out.size))
              have OL7 := Lib.hid (OL6.out.below hb_)
              have R7 : Hid (code = 0 → Rd w7 a6 (cellsQ SQ)) := fun h => (R6.out h).below hb_ (Nat.le_refl _)
              have Z7 := Lib.hid o7_.rd
              clear hb_ o7_ B6 OL6 R6
              go_wp2_with fail
              refine Calls.mono (HM0.out _ _ _ B7.out) ?_
              rintro e_ w8 ⟨a8, c8, rfl, o8_, hb_⟩
              have B8 := Lib.hid (B7.out.trans (hb_.mono B7.out.size))
              have OL8 := Lib.hid (OL7.out.below hb_)
              have R8 : Hid (code = 0 → Rd w8 a6 (cellsQ SQ)) := fun h => (R7.out h).below hb_ (Nat.le_refl _)
              have Y8 := Lib.hid (Z7.out.below hb_ (Nat.le_refl _))
              have Z8 := Lib.hid o8_.rd
              clear hb_ o8_ B7 OL7 R7 Z7 HM0
              go_wp2_with fail
              refine Calls.mono (HPo.out _ B8.out) ?_
              rintro e_ w9 ⟨rfl, hb_⟩
              have B9 := Lib.hid (B8.out.trans (hb_.mono B8.out.size))
              have OL9 := Lib.hid (OL8.out.below hb_)
              have R9 : Hid (code = 0 → Rd w9 a6 (cellsQ SQ)) := fun h => (R8.out h).below hb_ (Nat.le_refl _)
              have Y9 := Lib.hid (Y8.out.below hb_ (Nat.le_refl _))
              have Z9 := Lib.hid (Z8.out.below hb_ (Nat.le_refl _))
              clear hb_ B8 OL8 R8 Y8 Z8
              go_wp2_with fail
              refine Calls.mono (HPo.out _ B9.out) ?_
              rintro e_ w10 ⟨rfl, hb_⟩
              have B10 := Lib.hid (B9.out.trans (hb_.mono B9.out.size))
              have OL10 := Lib.hid (OL9.out.below hb_)
              have R10 : Hid (code = 0 → Rd w10 a6 (cellsQ SQ)) := fun h => (R9.out h).below hb_ (Nat.le_refl _)
              have Y10 := Lib.hid (Y9.out.below hb_ (Nat.le_refl _))
              have Z10 := Lib.hid (Z9.out.below hb_ (Nat.le_refl _))
              clear hb_ B9 OL9 R9 Y9 Z9 HPo
              go_wp2_with fail
              refine Calls.mono (HCm.out _ _ _ _ _ _ _ _ _ B10.out HZl.out.1 HZl.out.1 HZl.out.2 HZl.out.2 So.out So.out Y10.out Z10.out) ?_
              rintro e_ w11 ⟨a11, c11, rfl, r_, hb_⟩
              have B11 := Lib.hid (B10.out.trans (hb_.mono B10.out.size))
              have OL11 := Lib.hid (OL10.out.below hb_)
              have R11 : Hid (code = 0 → Rd w11 a6 (cellsQ SQ)) := fun h => (R10.out h).below hb_ (Nat.le_refl _)
              have S11 : Hid (Rd w11 a11 (cellsQ (sumsTo n LS fs 0))) := by have := r_; rw [HS0.out] at this; exact this
              clear hb_ r_ B10 OL10 R10 Y10 Z10 HZl HS0 So
              go_wp2_with fail
              go_loopw [14, 16] (fun su i wr => ∃ (tt : Nat) (a : Option Addr) (c : Nat), tt ≤ j ∧ i = .int .i64 tt ∧ su = .slice a n c ∧ Hid (Rd wr a (cellsQ (sumsTo n LS fs tt))) ∧ Hid (OwnL wr wq.heap.size b d n LL LS) ∧ Hid (code = 0 → Rd wr a6 (cellsQ SQ)) ∧ Hid (Below w.heap.size w wr)) (fun _ i _ => j - (intOf i).toNat)
              case atStart => exact ⟨0, _, _, Nat.zero_le _, rfl, rfl, S11, OL11, R11, B11⟩
              case round =>
                clear S11 OL11 R11 B11
                obtain ⟨tt, a, c, htt, rfl, rfl, SS, OL, RR, B⟩ := hrel
                by_cases hlt3 : tt < j
                · have hlt3' : (tt : Int) < j := by omega
                  have htl : tt < LS.length := by rw [HLn.out]; exact hlt3
                  have htf : tt < fs.length := by rw [HLsz.out]; exact htl
                  have htL : tt < LL.length := by rw [HLL.out]; exact hlt3
                  obtain ⟨g, cap, hv, g1, g2, g3, g4, g5⟩ := own_open OL.out.row (by omega)
                  simp only [Value.slice.injEq] at hv
                  obtain ⟨rfl, -, rfl⟩ := hv
                  have x2 : wr.cell? ⟨g, tt, none⟩ = some (.slice LL[tt].1 n LL[tt].2) := by
                    rw [g4 tt (by omega), List.getElem?_map, List.getElem?_eq_getElem htL]; rfl
                  have Re := Lib.hid (OL.out.each tt htL htl).rd
                  obtain ⟨bf, of', rfl, x0, x1⟩ := rdq_at RF2.out B.out (Nat.le_refl _) tt htf
                  have hS1 := HS1.out tt hlt3
                  rw [show LS.getD tt [] = LS[tt] by rw [List.getD_eq_getElem?_getD, List.getElem?_eq_getElem htl]; rfl, show fs.getD tt 0 = fs[tt] by rw [List.getD_eq_getElem?_getD, List.getElem?_eq_getElem htf]; rfl] at hS1
                  have HS1t := Lib.hid hS1
                  have HSmt := Lib.hid (HSm.out tt htt)
                  have HSzt := Lib.hid (HSz.out tt htl)
                  have Hft : Hid (Sm 400 fs[tt]) := (Hfb.out _ (List.getElem_mem htf)).le (by decide)
                  clear g1 g2 g3 g4 g5 hS1
                  have HJ := Lib.hid hlt3
                  generalize fs[tt] = ff at *
                  generalize LS[tt] = lt at *
                  generalize LL[tt].1 = al at *
                  generalize LL[tt].2 = cl at *
                  have q0 := BW.cell x0
                  have q1 := BW.cell x1
                  have q2 := BW.cell x2
                  have hnon : Nonempty (BW wr) := ⟨⟨wr, Below.refl _ _⟩⟩
                  have I : Hid (Below wr.heap.size wr wr.drew) := (Below.refl _ _).drew
                  have H0 := Lib.hid (show ((0 : Int) ≤ tt ∧ (tt : Int) < j) from ⟨by omega, hlt3'⟩)
                  go_wp2_with fail
                  clear x0 x1 x2
                  refine RX.wp_region_readers 14 [(1,0),(1,1),(1,2),(1,3),(1,4),(1,6),(1,7),(1,8),(1,9),(0,5),(0,10),(2,11),(2,12),(2,13),(0,14)] (fun w' => ∃ p : BW wr, w' = p.w) (by kernel_rfl) (by kernel_rfl) ?_ ?_
                  · exact ⟨⟨_, I.out⟩, rfl⟩
                  iterate 9 (refine RX.walkR_read ?_; simp only [List.drop_succ_cons, List.drop_zero, List.take_succ_cons, List.take_zero]; go_big_quiet_step (fail); refine wpQuiet_nil ?_)
                  clear q0 q1 q2 hnon
                  refine RX.walkR_move ?_
                  simp only [List.drop_succ_cons, List.drop_zero, List.take_succ_cons, List.take_zero]
                  go_wp2_with fail
                  refine Calls.mono (HPu.out _ B.out.drew) ?_
                  rintro e_ wa ⟨rfl, hb_⟩
                  have Wa : Hid (Below wr.heap.size wr wa) := (Below.refl wr.heap.size wr).drew.trans hb_
                  clear hb_ I
                  go_wp2_with fail
                  refine ⟨⟨⟨_, Wa.out⟩, rfl⟩, ?_⟩
                  have Ba := Lib.hid (B.out.trans (Wa.out.mono B.out.size))
                  refine RX.walkR_move ?_
                  simp only [List.drop_succ_cons, List.drop_zero, List.take_succ_cons, List.take_zero]
                  go_wp2_with fail
                  refine Calls.mono (HCm.out _ _ _ _ _ _ _ _ _ Ba.out HSmt.out.1 HSzt.out.1 HSmt.out.2 HSzt.out.2 Su.out Hft.out (SS.out.below Wa.out (Nat.le_refl _)) (Re.out.below Wa.out (Nat.le_refl _))) ?_
                  rintro e_ wc ⟨ac, cc, rfl, r_, hb_⟩
                  have Wc := Lib.hid (Wa.out.trans (hb_.mono Wa.out.size))
                  have Bc := Lib.hid (Ba.out.trans (hb_.mono Ba.out.size))
                  have SSc : Hid (Rd wc ac (cellsQ (sumsTo n LS fs (tt + 1)))) := by have := r_; rw [HS1t.out] at this; exact this
                  have OLc := Lib.hid (OL.out.below Wc.out)
                  have RRc : Hid (code = 0 → Rd wc a6 (cellsQ SQ)) := fun h => (RR.out h).below Wc.out (Nat.le_refl _)
                  clear hb_ r_ SS OL RR B Ba Wa Re
                  go_wp2_with fail
                  refine ⟨⟨⟨_, Wc.out⟩, rfl⟩, ?_⟩
                  iterate 3 (refine RX.walkR_any ?_; simp only [List.drop_succ_cons, List.drop_zero, List.take_succ_cons, List.take_zero]; go_big_quiet_step (fail); refine wpQuiet_nil ?_)
                  refine RX.walkR_move ?_
                  simp only [List.drop_succ_cons, List.drop_zero, List.take_succ_cons, List.take_zero]
                  go_wp2_with fail
                  simp only [RX.walkR]
                  clear Wc
                  go_wp2_with fail
                  go_roundw
                  case rel => exact ⟨tt + 1, ac, cc, HJ.out, by go_num, rfl, SSc, OLc, RRc, Bc⟩
                  case measure => simp [intOf]; omega
                · have hlt3' : ¬ (tt : Int) < j := by omega
                  have htj : tt = j := by omega
                  subst htj
                  rw [HSn.out] at SS
                  clear HS1 HSm HSz HSn OL HCm HPu RF2
                  have Hshort : Hid (∀ kk, kk ≤ SQ.length → (∀ i (h : i < SQ.length), i < kk → shortQ SQ[i]) → kk = SQ.length → shortAll SQ = true) := fun kk _ h hkk => by
                    unfold shortAll
                    rw [List.all_eq_true]
                    intro q hq
                    obtain ⟨i, hi, rfl⟩ := List.mem_iff_getElem.1 hq
                    exact decide_eq_true (h i hi (by omega))
                  have Hlong : Hid (∀ kk (h : kk < SQ.length), ¬ shortQ SQ[kk] → shortAll SQ = false) := fun kk h hh => by
                    unfold shortAll
                    rw [List.all_eq_false]
                    exact ⟨SQ[kk], List.getElem_mem h, by simp [hh]⟩
                  go_wp2_with fail
                  go_loopw [17] (fun i wr => ∃ kk : Nat, kk ≤ n ∧ i = .int .i64 kk ∧ Hid (∀ i (h : i < SQ.length), i < kk → shortQ SQ[i]) ∧ Hid (Rd wr a (cellsQ SQ)) ∧ Hid (code = 0 → Rd wr a6 (cellsQ SQ)) ∧ Hid (Below w.heap.size w wr)) (fun i _ => n - (intOf i).toNat)
                  case atStart => exact ⟨0, Nat.zero_le _, rfl, fun i _ h => absurd h (Nat.not_lt_zero _), SS, RR, B⟩
                  case round =>
                    clear SS RR B
                    obtain ⟨kk, hkk, rfl, Hall, SS, RR, B⟩ := hrel
                    have hn4 := Hp4.out
                    by_cases hlt4 : kk < n
                    · have hlt4' : (kk : Int) < n := by omega
                      have hks : kk < SQ.length := by rw [HSl.out]; exact hlt4
                      obtain ⟨bs, os, rfl, x0, x1⟩ := rdq_at SS.out (Below.refl wr.heap.size wr) (Nat.le_refl _) kk hks
                      have Hsh := Lib.hid (lshort_any wr SQ[kk])
                      unfold fr fv at Hsh
                      have HJ := Lib.hid hlt4
                      by_cases hsq : shortQ SQ[kk]
                      · rw [decide_eq_true hsq] at Hsh
                        have Hall2 : Hid (∀ i (h : i < SQ.length), i < kk + 1 → shortQ SQ[i]) := fun i h hi => by
                          rcases Nat.lt_or_ge i kk with hh | hh
                          · exact Hall.out i h hh
                          · have e : i = kk := by omega
                            subst e; exact hsq
                        clear hsq Hall
                        generalize SQ[kk] = q at *
                        go_wp2_with fail
                        refine Calls.mono Hsh.out ?_
                        rintro e_ wx ⟨rfl, hb_⟩
                        have Bx := Lib.hid (B.out.trans (hb_.mono B.out.size))
                        have SSx := Lib.hid (SS.out.below hb_ (Nat.le_refl _))
                        have RRx : Hid (code = 0 → Rd wx a6 (cellsQ SQ)) := fun h => (RR.out h).below hb_ (Nat.le_refl _)
                        clear hb_ B SS RR x0 x1 Hsh
                        go_wp2_with fail
                        go_roundw
                        case rel => exact ⟨kk + 1, HJ.out, by go_num, Hall2, SSx, RRx, Bx⟩
                        case measure => simp [intOf]; omega
                      · rw [decide_eq_false hsq] at Hsh
                        have hc4 : code = 4 := by rw [Hcd.out]; unfold sumCode; rw [if_neg (by rw [Hlong.out kk hks hsq]; decide)]
                        have hz0 : z = 0 := by rw [← Hz.out, if_neg (by rw [hc4]; decide)]
                        clear hsq Hall Hcd Hz RR
                        generalize SQ[kk] = q at *
                        subst hc4
                        subst hz0
                        go_wp2_with fail
                        refine Calls.mono Hsh.out ?_
                        rintro e_ wx ⟨rfl, hb_⟩
                        have Bx := Lib.hid (B.out.trans (hb_.mono B.out.size))
                        clear hb_ B SS x0 x1 Hsh
                        go_wp2_with fail
                        go_ret
                        exact ⟨rfl, Bx.out⟩
                    · have hlt4' : ¬ (kk : Int) < n := by omega
                      have hsa := Hshort.out kk (by rw [HSl.out]; exact hkk) Hall.out (by rw [HSl.out]; omega)
                      have hc0 : code = 0 := by rw [Hcd.out]; unfold sumCode; rw [if_pos hsa]
                      have hzn : z = n := by rw [← Hz.out, if_pos hc0, HSl.out]
                      have rm := Lib.hid (RR.out hc0)
                      clear Hcd Hz RR hsa
                      subst hc0
                      subst hzn
                      go_wp2_with fail
                      refine Calls.mono (HE.out _ _ _ _ _ SQ HSl.out rm.out SS.out) ?_
                      rintro e_ wx ⟨rfl, hb_⟩
                      have Bx := Lib.hid (B.out.trans (hb_.mono B.out.size))
                      clear hb_ B
                      go_wp2_with fail
                      go_ret
                      exact ⟨rfl, Bx.out⟩
            · have hrf : rr = false := by simpa using hr
              have hc2 := HO.out.bad (Hkk.out.trans Hmm.out.symm) (Hrr.out.trans hrf)
              have hz0 : z = 0 := by rw [← Hz.out, if_neg (by rw [hc2]; decide)]
              subst hrf
              subst hc2
              subst hz0
              clear HO Hz R6
              go_wp2_with fail
              go_ret
              exact ⟨rfl, B6.out⟩
          · have hc5 := HO.out.len (fun h => hkm (Hkk.out.symm.trans (h.trans Hmm.out)))
            have hz0 : z = 0 := by rw [← Hz.out, if_neg (by rw [hc5]; decide)]
            have hne : ((j : Int) == i) = false := by rw [beq_eq_false_iff_ne]; omega
            subst hc5
            subst hz0
            clear HO Hz R6
            go_wp2_with fail
            go_ret
            exact ⟨rfl, B6.out⟩

end Go.Proofs.YtlomhfknmhaboaaGreatDoor

/- For any at most 5 sizes with small coefficients over the primes of a number, and any at most 6 factors with numbers of at most 45 digits, Combine returns the sum, or the first error. No condition: the statement holds for every input. -/
namespace Go.Proofs.YtlomhfknmhaboaaGreatDoor
open Go.ChangeShapes Go.WideShapes Go.ChangeAt Go.RowKit

theorem lawCombines (w : World) (nn : Int) (aP aF : Option Addr) (cP cF : Nat) (pl : List PartsD) (fl : Pairs) (rP : RdK w 8 aP (pl.map fun p => (partsV p.1 p.2).toList)) (bP : ∀ p ∈ pl, (∀ k, -128 ≤ p.1 k ∧ p.1 k ≤ 127) ∧ ∀ k, p.2 k < 256) (rF : Rd w aF (cellsS fl)) (hn : 0 ≤ nn ∧ nn ≤ 255) (L : Laid w) :
    Gives Tryz.prog 3 #[.int .u8 nn, .slice aP (pl.map fun p => (partsV p.1 p.2).toList).length cP, .slice aF (fl.map fun q => [Value.string q.1, Value.string q.2]).length cF] w (.bool true) := by
  rw [List.length_map, List.length_map]
  by_cases h : 5 < pl.length ∨ 6 < fl.length
  · exact lawCom_long w nn aP aF cP cF _ _ h L
  · obtain ⟨m, rfl⟩ : ∃ m : Nat, nn = m := ⟨nn.toNat, by omega⟩
    exact lawCom_main w m aP aF cP cF pl fl rP bP rF (by omega) (by omega) (by omega) L

set_option maxRecDepth 100000 in
theorem sizeCombines_lifted (os : Os) (started : os.Started) (H : Type) (enc : TypeId × Value → H) :
    ReturnsInHanded {} Tryz.checked os 3 .any (fun w args => (Rows.sizeCombinesSpec.pre enc Tryz.prog Tryz.f3 [] false w args ∧ laidMetH Tryz.prog laidL w) ∧ sizedMet enc Tryz.prog Tryz.f3 (OpenSpec.ofChange Rows.sizeCombinesSpec) false w args)
      (Rows.sizeCombinesSpec.post enc Tryz.prog Tryz.f3 false true false false) := by
  refine returnsInHanded_of_change_and (C := Tryz.checked) (X := fun w _ => laidMetH Tryz.prog laidL w) (fun _ _ _ hh h => h.of_heap hh) own started (by kernel_rfl) Tryz.func3
    (ChangeSpec.witness_shaped (enc := enc) (C := Tryz.checked) (os := os) (X := fun w _ => laidMetH Tryz.prog laidL w) false (World.doorLaid Tryz.prog 400 os) #[.int .u8 0, .slice none 0 0, .slice none 0 0] 8 rfl (World.shaped_of_RefB (by kernel_rfl) (by kernel_rfl)) (by kernel_rfl) (by kernel_rfl) (by kernel_rfl) (door_met os _)) ?_
  intro W base args ds gs before hval0 hW _ _ hL _
  have hval : ∀ (j : Nat) t v, Tryz.f3.params[j]? = some t → args[j]? = some v → Value.okWide Tryz.prog W .any base t v := hval0
  have hW' := hW
  obtain ⟨p, q, hA0, hV, rfl, hfz, hnd⟩ := hW
  have hA : DataW.TrodAll enc Tryz.prog W 0 (fun _ => true) true Tryz.f3.params.toList args.toList ds p := hA0
  rw [Tryz.params3] at hA hval
  obtain ⟨v0, vs0, d0, ds0, p0, q0, hargs, rfl, rfl, h0, r0⟩ := trodAll_cons hA
  obtain ⟨v1, vs1, d1, ds1, p1, q1, rfl, rfl, rfl, h1, r1⟩ := trodAll_cons r0
  obtain ⟨v2, vs2, d2, ds2, p2, q2, rfl, rfl, rfl, h2, r2⟩ := trodAll_cons r1
  obtain ⟨rfl, rfl, rfl⟩ := trodAll_nil r2
  obtain rfl : args = #[v0, v1, v2] := by cases args; simp_all
  obtain ⟨rfl, rfl⟩ := trodVars_none hV
  have k0 := h0
  have lt0 : ∀ x ∈ p0, x.block < W.heap.size := by obtain ⟨m, hm⟩ := k0; exact DataW.trod_lt m _ _ _ hm
  have k1 := h1
  have lt1 : ∀ x ∈ p1, x.block < W.heap.size := by obtain ⟨m, hm⟩ := k1; exact DataW.trod_lt m _ _ _ hm
  have k2 := h2
  have lt2 : ∀ x ∈ p2, x.block < W.heap.size := by obtain ⟨m, hm⟩ := k2; exact DataW.trod_lt m _ _ _ hm
  obtain ⟨nn, rfl, rfl, rfl, wn⟩ := open_int Tryz.underlying5 (hval 0 5 v0 rfl rfl) h0
  have bn := bounds_u8 wn
  obtain ⟨a1, c1, l1, rfl, hr1, hq1, -⟩ := open_slice_of Tryz.underlying22 cellsParts (by decide) (Q := fun cs => ∃ p : PartsD, cs = (partsV p.1 p.2).toList ∧ ((∀ k, -128 ≤ p.1 k ∧ p.1 k ≤ 127) ∧ ∀ k, p.2 k < 256)) (fun n cs x h => by
    obtain ⟨nu, de, e, b1, b2⟩ := open_parts h
    exact ⟨(nu, de), e, b1, b2⟩) h1 (okWide_slice Tryz.underlying22 (hval 1 22 v1 rfl rfl))
  obtain ⟨a2, c2, l2, rfl, hr2, hq2, -⟩ := open_slice_of Tryz.underlying23 cellsRat (by decide) (Q := fun cs => ∃ q : ByteArray × ByteArray, cs = [.string q.1, .string q.2] ∧ True) (fun n cs x h => by
    obtain ⟨q, e, -, -⟩ := open_rat h
    exact ⟨q, e, trivial⟩) h2 (okWide_slice Tryz.underlying23 (hval 2 23 v2 rfl rfl))
  obtain ⟨pl, rfl, hpb⟩ := choose_list l1 hq1
  obtain ⟨fl, rfl, -⟩ := choose_list l2 hq2
  clear hA0 hval0
  refine (lawCombines W nn a1 a2 c1 c2 pl fl hr1 hpb (rdk_rd hr2) bn (laid_of hL)).mono fun e W' ⟨he, bel⟩ => ?_
  subst he
  exact ⟨_, rfl, _, _, _, [], _, [], hW', trodAll_mk1 (shut_bool Tryz.underlying4 _), (trodAll_cons_mk (Below.trod laidOut (by kernel_rfl) (of_decide_eq_true (by kernel_rfl)) k0 bel lt0) (trodAll_cons_mk (Below.trod laidOut (by kernel_rfl) (of_decide_eq_true (by kernel_rfl)) k1 bel lt1) (trodAll_cons_mk (Below.trod laidOut (by kernel_rfl) (of_decide_eq_true (by kernel_rfl)) k2 bel lt2) trodAll_mk0))), rfl, bel.frame _, fun h => by cases h⟩

theorem sizeCombines_row : Rows.SizeCombinesSaid :=
  OpenClaim.holds_of_wide 3 Tryz.f3 rfl rfl rfl rfl rfl rfl rfl ⟨rfl, rfl, rfl, rfl, rfl⟩ rfl rfl rfl rfl rfl (by kernel_rfl) Tryz.func3 (by kernel_rfl)
    (of_decide_eq_true (by kernel_rfl)) (by unfold Func.isWrapper; first | (rw [if_pos (by decide +kernel)]; kernel_rfl) | (rw [if_neg (by decide +kernel)]; exact ⟨rfl, rfl⟩))
    (fun os started H enc _ => sizeCombines_lifted os started H enc)

theorem sizeCombines_holds : Rows.SizeCombinesCardSaid :=
  Claim7.holds_tied_plain_at .later [] [.data, .data, .data, .sentinel, .sentinel] true (true, "9d0d2a1671fb7254a0d6cd7f535de0290e91414b206b40d6b5ae62423c22e5c1") true
    sizeCombines_row (fun _ h => by cases h) (by kernel_rfl) (fun _ h => by cases h) sizeCombines_row_tie rfl ⟨rfl, rfl⟩ (by kernel_rfl) rfl
    (fun f fn hf hfn => by
      obtain rfl : f = 3 := Option.some.inj ((show Tryz.prog.funcNamed "schisma/schismalaw13.SizeCombines" = some 3 by kernel_rfl).symm.trans hf) |>.symm
      obtain rfl : fn = Tryz.f3 := (Option.some.inj (Tryz.func3.symm.trans hfn)).symm
      exact ⟨by kernel_rfl, fun j t ht => by
        rw [Tryz.params3] at ht
        have hm : t ∈ [5, 22, 23] := by simpa using Array.mem_of_getElem? ht
        have hall : ([5, 22, 23].all fun u => !Tryz.prog.wantsStandIn u) = true := by kernel_rfl
        exact (show Tryz.prog.wantsStandIn t = false by simpa using List.all_eq_true.1 hall t hm)⟩)
    (by kernel_rfl)
#print axioms sizeCombines_holds
end Go.Proofs.YtlomhfknmhaboaaGreatDoor
