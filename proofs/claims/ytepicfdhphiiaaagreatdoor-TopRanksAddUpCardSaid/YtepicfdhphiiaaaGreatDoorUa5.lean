/- Lemmas for the laws of this seat, part 5. -/
import Derived.Test.YtepicfdhphiiaaaGreatDoorUa4
set_option maxRecDepth 100000
set_option maxHeartbeats 16000000
/- schismalaw12.known: the functions that it calls. -/
namespace Go.Proofs.YtepicfdhphiiaaaGreatDoor
open Go.RowKit

theorem same12_any (w : World) (a1 a2 : Option Addr) (c1 c2 : Nat) (la lb : List Int) (r1 : Rd w a1 (ints la)) (r2 : Rd w a2 (ints lb)) (hbig : la.length ≤ 1000000) :
    Gives Tryz.prog 58 #[.slice a1 la.length c1, .slice a2 lb.length c2] w (.bool (decide (la = lb))) := by
  unfold Gives
  by_cases hl : la.length = lb.length
  · have R1 := Lib.hid r1
    have R2 := Lib.hid r2
    have Hyes : Hid (∀ k, (∀ j (h1 : j < la.length) (h2 : j < lb.length), j < k → la[j] = lb[j]) → k = la.length → la = lb) := fun k h hk => List.ext_getElem hl fun i h1 h2 => h i h1 h2 (by omega)
    have Hno : Hid (∀ k (h1 : k < la.length) (h2 : k < lb.length), la[k] ≠ lb[k] → ¬ la = lb) := fun k h1 h2 hne he => hne (by subst he; rfl)
    obtain ⟨n, hn⟩ : ∃ n, la.length = n := ⟨_, rfl⟩
    have hm : lb.length = n := hl.symm.trans hn
    rw [hn] at hbig
    rw [hn, hm]
    have Hn := Lib.hid hn
    have Hm := Lib.hid hm
    clear hl r1 r2 hn hm
    go_enter Tryz.func58, Tryz.ntmps58
    go_wp2_with fail
    go_loopw [5] (fun i wr => ∃ k : Nat, k ≤ n ∧ i = .int .i64 k ∧ Hid (∀ j (h1 : j < la.length) (h2 : j < lb.length), j < k → la[j] = lb[j]) ∧ Hid (Below w.heap.size w wr)) (fun i _ => n - (intOf i).toNat)
    case atStart => exact ⟨0, Nat.zero_le _, rfl, fun j _ _ hj => absurd hj (Nat.not_lt_zero _), Below.refl _ _⟩
    case round =>
      obtain ⟨k, hk, rfl, Hp, B⟩ := hrel
      by_cases hlt : k < n
      · have hlt' : (k : Int) < n := by omega
        have h1 : k < la.length := by rw [Hn.out]; exact hlt
        have h2 : k < lb.length := by rw [Hm.out]; exact hlt
        obtain ⟨g1, o1, rfl, hg1, hc1⟩ := R1.out.open (by rw [ints_length]; omega)
        obtain ⟨g2, o2, rfl, hg2, hc2⟩ := R2.out.open (by rw [ints_length]; omega)
        have x1 := hc1 k _ (ints_get la k h1)
        have x2 := hc2 k _ (ints_get lb k h2)
        rw [← B.out.cell (p := ⟨g1, o1 + k, none⟩) hg1] at x1
        rw [← B.out.cell (p := ⟨g2, o2 + k, none⟩) hg2] at x2
        have Hp' : Hid (la[k] = lb[k] → ∀ j (h1 : j < la.length) (h2 : j < lb.length), j < k + 1 → la[j] = lb[j]) := fun he j g1 g2 hj => by
          rcases Nat.lt_or_ge j k with h | h
          · exact Hp.out j g1 g2 h
          · have e : j = k := by omega
            subst e; exact he
        have Hnk := Lib.hid (Hno.out k h1 h2)
        clear Hp hc1 hc2
        generalize la[k] = p at *
        generalize lb[k] = q at *
        have q1 := cell_regrown x1
        have q2 := cell_regrown x2
        have HK := Lib.hid hlt
        by_cases hpq : p = q
        · have Hq := Lib.hid (Hp'.out hpq)
          subst hpq
          clear Hp' Hnk
          go_wp2_with fail
          clear x1 x2
          refine wp_region_quiet_below (by kernel_rfl) (by kernel_rfl) ?_
          repeat (first | go_big_quiet_step (fail) | quiet_step (fail))
          refine wpQuiet_nil ?_
          intro w6 hw6
          obtain ⟨⟨dq, osq⟩, rfl⟩ := hw6
          have B6 := Lib.hid (B.out.trans ((below_regrown wr dq osq).mono B.out.size))
          clear q1 q2 B
          generalize Go.Sort.grow (redrawn wr dq) osq = w6 at *
          go_wp2_with fail
          go_roundw
          case rel => exact ⟨k + 1, HK.out, by go_num, Hq, B6⟩
          case measure => simp [intOf]; omega
        · have Hz : Hid (decide (la = lb) = false) := decide_eq_false (Hnk.out hpq)
          have hpq' : (p == q) = false := by rw [beq_eq_false_iff_ne]; exact hpq
          clear Hp' Hnk
          go_wp2_with fail
          clear x1 x2
          refine wp_region_quiet_below (by kernel_rfl) (by kernel_rfl) ?_
          repeat (first | go_big_quiet_step (fail) | quiet_step (fail))
          refine wpQuiet_nil ?_
          intro w6 hw6
          obtain ⟨⟨dq, osq⟩, rfl⟩ := hw6
          have B6 := Lib.hid (B.out.trans ((below_regrown wr dq osq).mono B.out.size))
          clear q1 q2 B
          generalize Go.Sort.grow (redrawn wr dq) osq = w6 at *
          go_wp2_with fail
          go_ret
          exact ⟨by rw [Hz.out]; rfl, B6.out⟩
      · have hlt' : ¬ (k : Int) < n := by omega
        have Hz : Hid (decide (la = lb) = true) := decide_eq_true (Hyes.out k Hp.out (by rw [Hn.out]; omega))
        clear Hp
        go_wp2_with fail
        go_ret
        exact ⟨by rw [Hz.out]; rfl, B.out⟩
  · have Hz : Hid (decide (la = lb) = false) := decide_eq_false fun h => hl (by rw [h])
    have hne : ((la.length : Int) == lb.length) = false := by rw [beq_eq_false_iff_ne]; omega
    clear r1 r2 hl
    generalize la.length = n at *
    generalize lb.length = m at *
    go_enter Tryz.func58, Tryz.ntmps58
    go_wp2_with fail
    go_ret
    exact ⟨by rw [Hz.out]; rfl, Below.refl _ _⟩


theorem row3 {w : World} {a0 a1 : Option Addr} (xs : List Int) (rp : Rd w a0 (ints [2, 3, 5])) (rx : Rd w a1 (ints xs)) (hl : xs.length = 3) (hx : ∀ x ∈ xs, -1000 ≤ x ∧ x ≤ 1000) : RowOk w [2, 3, 5] xs a0 a1 :=
  ⟨rp, rx, hl, by decide, by decide, hx⟩
theorem brackets12 (w : World) (a0 a1 : Option Addr) (c0 c1 : Nat) (rp : Rd w a0 (ints [2, 3, 5])) (rx : Rd w a1 (ints [-4, 4, -1])) (L : Laid w) :
    Gives Tryz.prog 54 #[.slice a0 3 c0, .slice a1 3 c1] w (.tuple #[.string ⟨#[91, 45, 52, 32, 52, 32, 45, 49, 62]⟩, .int .i64 0]) := by
  unfold Gives
  have HC := Lib.hid (show Gives Tryz.prog 92 #[.slice a0 3 c0, .slice a1 3 c1] w (.int .i64 0) from monCheck_any w a0 a1 c0 c1 [2, 3, 5] [-4, 4, -1] rp mt_ps.i (by decide) rx (by decide))
  have HT := Lib.hid (fun W (hW : Below w.heap.size w W) => show Gives Tryz.prog 50 #[.slice a1 3 c1, .bool true] W (.tuple #[.string ⟨#[91, 45, 52, 32, 52, 32, 45, 49, 62]⟩, .int .i64 0]) from by
    have := rowText_any W a1 c1 [-4, 4, -1] true (by decide) (by decide) (rx.below hW (Nat.le_refl _)) (by unfold I64s; decide) (by decide) (L.below hW)
    rw [show (if true = true then ByteArray.mk #[91] ++ jT [-4, 4, -1] 32 ++ ByteArray.mk #[62] else ByteArray.mk #[60] ++ jT [-4, 4, -1] 32 ++ ByteArray.mk #[93]) = ⟨#[91, 45, 52, 32, 52, 32, 45, 49, 62]⟩ from by decide +kernel] at this
    exact this)
  clear rp rx L
  go_enter Tryz.func54, Tryz.ntmps54
  go_wp2_with fail
  refine Calls.mono HC.out ?_
  rintro e w1 ⟨rfl, hb⟩
  have B1 := Lib.hid hb
  clear hb HC
  go_wp2_with fail
  refine Calls.mono (HT.out w1 B1.out) ?_
  rintro e w2 ⟨rfl, hb⟩
  have B2 := Lib.hid (B1.out.trans (hb.mono B1.out.size))
  clear hb HT
  go_wp2_with fail
  go_ret2
  exact ⟨rfl, B2.out⟩

theorem short12 (w : World) (n : Nat) (hn : (dec n).size ≤ 400) :
    Gives Tryz.prog 129 #[.string (dec n)] w (.tuple #[.string (dec n), .int .i64 0]) := by
  unfold Gives
  have HD := Lib.hid (digits_any w (dec n))
  have h1 : ¬ (400 : Int) < ((dec n).size : Int) := by omega
  clear hn
  generalize dec n = s at *
  go_enter Tryz.func129, Tryz.ntmps129
  go_wp2_with fail
  refine Calls.mono HD.out ?_
  rintro e w1 ⟨rfl, hb⟩
  have B1 := Lib.hid hb
  clear hb HD
  go_wp2_with fail
  go_ret2
  exact ⟨rfl, B1.out⟩

theorem sides12 (w : World) (a0 a1 : Option Addr) (c0 c1 : Nat) (xs : List Int) (p q : Nat) (rp : Rd w a0 (ints [2, 3, 5])) (rx : Rd w a1 (ints xs)) (hl : xs.length = 3) (hx : ∀ x ∈ xs, -1000 ≤ x ∧ x ≤ 1000) (hp : LN.upT (zl [2, 3, 5] xs) = p) (hq : LN.upT (LN.negT (zl [2, 3, 5] xs)) = q) (L : Laid w) :
    Gives Tryz.prog 98 #[.slice a0 3 c0, .slice a1 3 c1] w (.tuple #[.string (dec p), .string (dec q)]) := by
  have := sides_any w [2, 3, 5] xs a0 a1 c0 c1 (row3 xs rp rx hl hx) L
  rw [hp, hq] at this
  exact this

theorem height12 (w : World) (a0 a1 : Option Addr) (c0 c1 : Nat) (rp : Rd w a0 (ints [2, 3, 5])) (rx : Rd w a1 (ints [-4, 4, -1])) (L : Laid w) :
    Gives Tryz.prog 95 #[.slice a0 3 c0, .slice a1 3 c1, .func (.func 96) #[] #[]] w (.tuple #[.string (dec 6480), .int .i64 0]) := by
  unfold Gives
  have HC := Lib.hid (show Gives Tryz.prog 92 #[.slice a0 3 c0, .slice a1 3 c1] w (.int .i64 0) from monCheck_any w a0 a1 c0 c1 [2, 3, 5] [-4, 4, -1] rp mt_ps.i (by decide) rx (by decide))
  have HS := Lib.hid (fun W (hW : Below w.heap.size w W) => sides12 W a0 a1 c0 c1 [-4, 4, -1] 81 80 (rp.below hW (Nat.le_refl _)) (rx.below hW (Nat.le_refl _)) rfl (by decide) (by decide +kernel) (by decide +kernel) (L.below hW))
  have HM := Lib.hid (fun W (hW : Below w.heap.size w W) => show Gives Tryz.prog 96 #[.string (dec 81), .string (dec 80)] W (.string (dec 6480)) from mul_any W 81 80 (lim_num (by have := big_lim; omega)) (lim_num (by have := big_lim; omega)) (L.below hW))
  have HT := Lib.hid (fun W => short12 W 6480 (by decide +kernel))
  clear rp rx L
  go_enter Tryz.func95, Tryz.ntmps95
  go_wp2_with fail
  refine Calls.mono HC.out ?_
  rintro e w1 ⟨rfl, hb⟩
  have B1 := Lib.hid hb
  clear hb HC
  go_wp2_with fail
  refine Calls.mono (HS.out w1 B1.out) ?_
  rintro e w2 ⟨rfl, hb⟩
  have B2 := Lib.hid (B1.out.trans (hb.mono B1.out.size))
  clear hb HS B1
  go_wp2_with fail
  refine Calls.mono (HM.out w2 B2.out) ?_
  rintro e w3 ⟨rfl, hb⟩
  have B3 := Lib.hid (B2.out.trans (hb.mono B2.out.size))
  clear hb HM B2
  go_wp2_with fail
  refine Calls.mono (HT.out w3) ?_
  rintro e w4 ⟨rfl, hb⟩
  have B4 := Lib.hid (B3.out.trans (hb.mono B3.out.size))
  clear hb HT B3
  go_wp2_with fail
  go_ret2
  exact ⟨rfl, B4.out⟩

theorem product12 (w : World) (a0 a1 : Option Addr) (c0 c1 : Nat) (rp : Rd w a0 (ints [2, 3, 5])) (rx : Rd w a1 (ints [-4, 4, -1])) (L : Laid w) :
    Gives Tryz.prog 56 #[.slice a0 3 c0, .slice a1 3 c1] w (.tuple #[.string (dec 6480), .int .i64 0]) := by
  unfold Gives
  have HH := Lib.hid (height12 w a0 a1 c0 c1 rp rx L)
  clear rp rx L
  go_enter Tryz.func56, Tryz.ntmps56
  go_wp2_with fail
  refine Calls.mono HH.out ?_
  rintro e w1 ⟨rfl, hb⟩
  have B1 := Lib.hid hb
  clear hb HH
  go_wp2_with fail
  go_ret2
  exact ⟨rfl, B1.out⟩

theorem compare12 (w : World) (a0 a1 a2 : Option Addr) (c0 c1 c2 : Nat) (rp : Rd w a0 (ints [2, 3, 5])) (rx : Rd w a1 (ints [-1, 1, 0])) (ry : Rd w a2 (ints [3, -3, 1])) (L : Laid w) :
    Gives Tryz.prog 57 #[.slice a0 3 c0, .slice a1 3 c1, .slice a2 3 c2] w (.tuple #[.int .i64 1, .int .i64 0]) := by
  unfold Gives
  have hb := big_lim
  have HC := Lib.hid (fun W g (hW : Below w.heap.size w W) (hg : W.heap[g]? = some (.cells #[.slice a1 3 c1, .slice a2 3 c2] 54 (0, 0))) => show Gives Tryz.prog 97 #[.slice a0 3 c0, .slice (some ⟨g, 0, none⟩) 2 2] W (.int .i64 0) from
    monCheckAll_any W a0 _ c0 2 [2, 3, 5] [[-1, 1, 0], [3, -3, 1]] (rp.below hW (Nat.le_refl _)) mt_ps.i (by decide) (rdi_two hg (rx.below hW (Nat.le_refl _)) (ry.below hW (Nat.le_refl _))) (by decide) (by decide))
  have H1 := Lib.hid (fun W (hW : Below w.heap.size w W) => sides12 W a0 a1 c0 c1 [-1, 1, 0] 3 2 (rp.below hW (Nat.le_refl _)) (rx.below hW (Nat.le_refl _)) rfl (by decide) (by decide +kernel) (by decide +kernel) (L.below hW))
  have H2 := Lib.hid (fun W (hW : Below w.heap.size w W) => sides12 W a0 a2 c0 c2 [3, -3, 1] 40 27 (rp.below hW (Nat.le_refl _)) (ry.below hW (Nat.le_refl _)) rfl (by decide) (by decide +kernel) (by decide +kernel) (L.below hW))
  have M1 := Lib.hid (fun W (hW : Below w.heap.size w W) => show Gives Tryz.prog 96 #[.string (dec 3), .string (dec 27)] W (.string (dec 81)) from mul_any W 3 27 (lim_num (by omega)) (lim_num (by omega)) (L.below hW))
  have M2 := Lib.hid (fun W (hW : Below w.heap.size w W) => show Gives Tryz.prog 96 #[.string (dec 40), .string (dec 2)] W (.string (dec 80)) from mul_any W 40 2 (lim_num (by omega)) (lim_num (by omega)) (L.below hW))
  have HK := Lib.hid (fun W => show Gives Tryz.prog 99 #[.string (dec 81), .string (dec 80)] W (.int .i64 1) from compareS_any W 81 80 (by decide +kernel) (by decide +kernel))
  have K0 := Lib.hid (heap_at w #[.slice a1 3 c1, .slice a2 3 c2] 54 _ rfl)
  have B0 := Lib.hid ((Below.refl w.heap.size w).alloc (Nat.le_refl _) (.cells #[.slice a1 3 c1, .slice a2 3 c2] 54))
  clear rp rx ry L hb
  go_enter Tryz.func57, Tryz.ntmps57
  go_wp2_with fail
  generalize w.alloc (.cells #[.slice a1 3 c1, .slice a2 3 c2] 54) = w0 at *
  refine Calls.mono (HC.out w0 _ B0.out K0.out) ?_
  rintro e w1 ⟨rfl, hb⟩
  have B1 := Lib.hid (B0.out.trans (hb.mono B0.out.size))
  clear hb HC B0 K0
  go_wp2_with fail
  refine Calls.mono (H1.out w1 B1.out) ?_
  rintro e w2 ⟨rfl, hb⟩
  have B2 := Lib.hid (B1.out.trans (hb.mono B1.out.size))
  clear hb H1 B1
  go_wp2_with fail
  refine Calls.mono (H2.out w2 B2.out) ?_
  rintro e w3 ⟨rfl, hb⟩
  have B3 := Lib.hid (B2.out.trans (hb.mono B2.out.size))
  clear hb H2 B2
  go_wp2_with fail
  refine Calls.mono (M1.out w3 B3.out) ?_
  rintro e w4 ⟨rfl, hb⟩
  have B4 := Lib.hid (B3.out.trans (hb.mono B3.out.size))
  clear hb M1 B3
  go_wp2_with fail
  refine Calls.mono (M2.out w4 B4.out) ?_
  rintro e w5 ⟨rfl, hb⟩
  have B5 := Lib.hid (B4.out.trans (hb.mono B4.out.size))
  clear hb M2 B4
  go_wp2_with fail
  refine Calls.mono (HK.out w5) ?_
  rintro e w6 ⟨rfl, hb⟩
  have B6 := Lib.hid (B5.out.trans (hb.mono B5.out.size))
  clear hb HK B5
  go_wp2_with fail
  go_ret2
  exact ⟨rfl, B6.out⟩

theorem run_two0 (a b : Value) (w : World) : (Instr.index 176 (.agg #[a, b]) (.int .i64 0)).run Tryz.prog w = .ok a w := by
  simp [Instr.index, asIntOf, run_underlying Tryz.underlying176, part, Tryz.sizeOf84, Tryz.isAgg84]
theorem run_two1 (a b : Value) (w : World) : (Instr.index 176 (.agg #[a, b]) (.int .i64 1)).run Tryz.prog w = .ok b w := by
  simp [Instr.index, asIntOf, run_underlying Tryz.underlying176, part, Tryz.sizeOf84, Tryz.isAgg84]
theorem dec_81 : dec 81 = ⟨#[56, 49]⟩ := by decide +kernel
theorem dec_80 : dec 80 = ⟨#[56, 48]⟩ := by decide +kernel
theorem fraction12 (w : World) (a0 a1 : Option Addr) (c0 c1 : Nat) (rp : Rd w a0 (ints [2, 3, 5])) (rx : Rd w a1 (ints [-4, 4, -1])) (L : Laid w) :
    Gives Tryz.prog 93 #[.slice a0 3 c0, .slice a1 3 c1] w (.tuple #[.agg #[.string (dec 81), .string (dec 80)], .int .i64 0]) := by
  unfold Gives
  have HC := Lib.hid (fun W (hW : Below w.heap.size w W) => show Gives Tryz.prog 92 #[.slice a0 3 c0, .slice a1 3 c1] W (.int .i64 0) from monCheck_any W a0 a1 c0 c1 [2, 3, 5] [-4, 4, -1] (rp.below hW (Nat.le_refl _)) mt_ps.i (by decide) (rx.below hW (Nat.le_refl _)) (by decide))
  have HS := Lib.hid (fun W (hW : Below w.heap.size w W) => sides12 W a0 a1 c0 c1 [-4, 4, -1] 81 80 (rp.below hW (Nat.le_refl _)) (rx.below hW (Nat.le_refl _)) rfl (by decide) (by decide +kernel) (by decide +kernel) (L.below hW))
  have T1 := Lib.hid (fun W => short12 W 81 (by decide +kernel))
  have T2 := Lib.hid (fun W => short12 W 80 (by decide +kernel))
  clear rp rx L
  generalize dec 81 = s1 at *
  generalize dec 80 = s2 at *
  have K0 := Lib.hid (heap_at w #[.string ⟨#[]⟩, .string ⟨#[]⟩] 103 _ rfl)
  have B0 := Lib.hid ((Below.refl w.heap.size w).alloc (Nat.le_refl _) (.cells #[.string ⟨#[]⟩, .string ⟨#[]⟩] 103))
  go_enter Tryz.func93, Tryz.ntmps93
  go_wp2_with fail
  generalize w.alloc (.cells #[.string ⟨#[]⟩, .string ⟨#[]⟩] 103) = w0 at *
  refine Calls.mono (HC.out w0 B0.out) ?_
  rintro e w1 ⟨rfl, hb⟩
  have B1 := Lib.hid (B0.out.trans (hb.mono B0.out.size))
  have K1 := Lib.hid (heap_kept K0.out hb (Nat.le_refl _))
  clear hb HC B0 K0
  go_wp2_with fail
  refine Calls.mono (HS.out w1 B1.out) ?_
  rintro e w2 ⟨rfl, hb⟩
  have B2 := Lib.hid (B1.out.trans (hb.mono B1.out.size))
  have K2 := Lib.hid (heap_kept K1.out hb (Nat.le_refl _))
  clear hb HS B1 K1
  go_wp2_with fail
  go_loopw [29] (fun i wr => ∃ k : Nat, k ≤ 2 ∧ i = .int .i64 k ∧ Hid (Below w.heap.size w wr) ∧ Hid (wr.heap[w.heap.size]? = some (.cells #[.string ⟨#[]⟩, .string ⟨#[]⟩] 103 (0, 0)))) (fun i _ => 2 - (intOf i).toNat)
  case atStart => exact ⟨0, by omega, rfl, B2, K2⟩
  case round =>
    clear B2 K2
    obtain ⟨k, hk, rfl, D, K⟩ := hrel
    rcases (show k = 0 ∨ k = 1 ∨ k = 2 by omega) with rfl | rfl | rfl
    · go_wp2_with fail
      rw [show ((0 : Nat) : Int) = 0 from rfl, run_two0]
      simp only [Result.andThen]
      rw [Oper.upon_value]
      go_wp2_with fail
      refine Calls.mono (T1.out wr) ?_
      rintro e w3 ⟨rfl, hb⟩
      have D3 := Lib.hid (D.out.trans (hb.mono D.out.size))
      have K3 := Lib.hid (heap_kept K.out hb (Nat.le_refl _))
      clear hb D K
      go_wp2_with fail
      go_roundw
      case rel => exact ⟨1, by omega, by go_num, D3, K3⟩
      case measure => simp [intOf]
    · go_wp2_with fail
      rw [show ((1 : Nat) : Int) = 1 from rfl, run_two1]
      simp only [Result.andThen]
      rw [Oper.upon_value]
      go_wp2_with fail
      refine Calls.mono (T2.out wr) ?_
      rintro e w3 ⟨rfl, hb⟩
      have D3 := Lib.hid (D.out.trans (hb.mono D.out.size))
      have K3 := Lib.hid (heap_kept K.out hb (Nat.le_refl _))
      clear hb D K
      go_wp2_with fail
      go_roundw
      case rel => exact ⟨2, by omega, by go_num, D3, K3⟩
      case measure => simp [intOf]
    · go_wp2_with (refine wpList_store_row rfl 103 (.tmp 4) (.tmp 44) rfl w.heap.size _ rfl rfl 103 _ K.out (by kernel_rfl) rfl (by simp [Value.oneCell']) ?_)
      exact bodyPost_ret (results_ct rfl _ _ w.heap.size 103 _ (0, 0) _ rfl (setRow_heap _ _ _ _ _ _ K.out) Tryz.underlying103 rfl (by kernel_rfl)) rfl ⟨rfl, below_setRow D.out (Nat.le_refl _) _⟩

theorem ftext12 (W : World) : Gives Tryz.prog 94 #[.agg #[.string (dec 81), .string (dec 80)]] W (.string ⟨#[56, 49, 47, 56, 48]⟩) := by
  have := textR W (mkRat 81 80) ⟨by decide +kernel, by decide +kernel⟩
  have e1 : (mkRat 81 80).num = 81 := by decide +kernel
  have e2 : (mkRat 81 80).den = 80 := by decide +kernel
  unfold fr fv at this
  rw [e1, e2, if_neg (by decide), show itx 81 = dec 81 from itx_nat 81, dec_81, dec_80] at this
  rw [dec_81, dec_80]
  exact this
theorem text12 (w : World) (a0 a1 : Option Addr) (c0 c1 : Nat) (rp : Rd w a0 (ints [2, 3, 5])) (rx : Rd w a1 (ints [-4, 4, -1])) (L : Laid w) :
    Gives Tryz.prog 55 #[.slice a0 3 c0, .slice a1 3 c1] w (.tuple #[.string ⟨#[56, 49, 47, 56, 48]⟩, .int .i64 0]) := by
  unfold Gives
  have HF := Lib.hid (fraction12 w a0 a1 c0 c1 rp rx L)
  have HT := Lib.hid ftext12
  clear rp rx L
  generalize dec 81 = s1 at *
  generalize dec 80 = s2 at *
  go_enter Tryz.func55, Tryz.ntmps55
  go_wp2_with fail
  refine Calls.mono HF.out ?_
  rintro e w1 ⟨rfl, hb⟩
  have B1 := Lib.hid (hb.alloc hb.size (.cells #[.string s1, .string s2] 103))
  obtain ⟨j0, j1⟩ := two_c (heap_at w1 #[.string s1, .string s2] 103 _ rfl)
  clear hb HF
  go_wp2_with fail
  clear j0 j1
  refine Calls.mono (HT.out _) ?_
  rintro e w2 ⟨rfl, hb⟩
  have B2 := Lib.hid (B1.out.trans (hb.mono B1.out.size))
  clear hb HT
  go_wp2_with fail
  go_ret2
  exact ⟨rfl, B2.out⟩

theorem mzOf1 (w : World) (a0 : Option Addr) (c0 : Nat) (rp : Rd w a0 (ints [2, 3, 5])) (L : Laid w) :
    Calls Tryz.prog 53 #[.slice a0 3 c0, .agg #[.string ⟨#[56, 49]⟩, .string ⟨#[56, 48]⟩]] w fun e w' => ∃ a c, e = .returned (.tuple #[.slice a 3 c, .int .i64 0]) ∧ Rd w' a (ints [-4, 4, -1]) ∧ Below w.heap.size w w' := by
  have := mzOf_any w a0 c0 [2, 3, 5] 81 80 rp mt_ps (by decide) (by decide) (by decide) (by decide) (by decide) (by decide) (by unfold Xs; decide +kernel) L
  rw [dec_81, dec_80, show ofX [2, 3, 5] 81 80 ([2, 3, 5] : List Int).length = [-4, 4, -1] from by decide +kernel] at this
  refine this.mono ?_
  rintro e w' ⟨hb, h⟩
  rw [if_pos (by decide +kernel)] at h
  obtain ⟨a, c, rfl, hr⟩ := h
  exact ⟨a, c, rfl, hr, hb⟩
theorem mzOf2 (w : World) (a0 : Option Addr) (c0 : Nat) (rp : Rd w a0 (ints [2, 3, 5])) (L : Laid w) :
    Calls Tryz.prog 53 #[.slice a0 3 c0, .agg #[.string ⟨#[55]⟩, .string ⟨#[52]⟩]] w fun e w' => e = .returned (.tuple #[.slice none 0 0, .int .i64 25]) ∧ Below w.heap.size w w' := by
  have := mzOf_any w a0 c0 [2, 3, 5] 7 4 rp mt_ps (by decide) (by decide) (by decide) (by decide) (by decide) (by decide) (by unfold Xs; decide +kernel) L
  rw [show dec 7 = ⟨#[55]⟩ from by decide +kernel, show dec 4 = ⟨#[52]⟩ from by decide +kernel] at this
  refine this.mono ?_
  rintro e w' ⟨hb, h⟩
  rw [if_neg (by decide +kernel)] at h
  exact ⟨h, hb⟩

end Go.Proofs.YtepicfdhphiiaaaGreatDoor
