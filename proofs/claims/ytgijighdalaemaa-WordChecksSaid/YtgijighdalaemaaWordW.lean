/- The law on rotations: the walk. -/
import Derived.Test.YtgijighdalaemaaWordV
import Derived.Test.YtgijighdalaemaaWordT
namespace Go.Proofs.Ytgijighdalaemaa
open Go.RowKit

/-- Two described words, as the law makes them in one statement. -/
theorem two_regrown (w : World) (a : Option Addr) (l : List UInt8) (c : Nat) (few : UInt8) (n : Nat) (hn : l.length = n) (hr : ReadsBytes w a l) (hl : n ≤ maxLen) :
    ∀ d os, Calls Try.prog 12 #[.agg #[.slice a n c, .int .u8 few.toNat]] (Go.Sort.grow (redrawn w d) os) fun e w'' => e = .returned (.string (bs (mk l few))) ∧ ∃ p : Regrown, w'' = Go.Sort.grow (redrawn w p.d) p.os := fun d os => by
  subst hn
  exact Calls.regrown_of (make_any a l c few _ (hr.below (below_regrown w d os)) hl)

/-- The first rotation that is another word. -/
def SameP (s t : ByteArray) (D : Nat) (hb : Bool) : Prop :=
  (hb = true ∧ D < s.size ∧ rot s D = t ∧ ∀ j, j < D → rot s j ≠ t) ∨ (hb = false ∧ D = 0 ∧ ∀ j, j < s.size → rot s j ≠ t)

theorem same_out (s t : ByteArray) (hs : chk (lb s) = 0) (ht : chk (lb t) = 0) : ∃ D hb, SameP s t D hb ∧ ∀ w, Gives Try.prog 21 #[.string s, .string t] w (.tuple #[.int .i64 (D : Nat), .bool hb, .int .i64 0]) := by
  rcases find_first (fun k => rot s k = t) s.size with ⟨k, h1, h2, h3⟩ | h
  · exact ⟨k, true, .inl ⟨rfl, h1, h2, h3⟩, fun w => same_upto s t w hs ht k (by omega) h3 _ (.inl ⟨h1, h2, rfl⟩)⟩
  · exact ⟨0, false, .inr ⟨rfl, rfl, h⟩, fun w => same_upto s t w hs ht s.size (Nat.le_refl _) h _ (.inr ⟨rfl, rfl⟩)⟩

/-- What the law has found from the end on. -/
def SameFrom (s t : ByteArray) (k D : Nat) (hb : Bool) : Prop :=
  (hb = true ∧ k ≤ D ∧ D < s.size ∧ rot s D = t ∧ ∀ j, k ≤ j → j < D → rot s j ≠ t) ∨ (hb = false ∧ D = 0 ∧ ∀ j, k ≤ j → j < s.size → rot s j ≠ t)

theorem same_unique {s t : ByteArray} {D D' : Nat} {hb hb' : Bool} (h : SameP s t D hb) (h' : SameFrom s t 0 D' hb') : D' = D ∧ hb' = hb := by
  rcases h with ⟨rfl, h1, h2, h3⟩ | ⟨rfl, rfl, h3⟩ <;> rcases h' with ⟨rfl, -, g1, g2, g3⟩ | ⟨rfl, rfl, g3⟩
  · refine ⟨?_, rfl⟩
    rcases Nat.lt_trichotomy D D' with h | h | h
    · exact absurd h2 (g3 D (Nat.zero_le _) h)
    · exact h.symm
    · exact absurd g2 (h3 D' h)
  · exact absurd h2 (g3 D (Nat.zero_le _) h1)
  · exact absurd g2 (h3 D' g1)
  · exact ⟨rfl, rfl⟩

set_option maxRecDepth 100000 in
set_option maxHeartbeats 4000000 in
theorem lawRotations (w : World) (a1 a2 : Option Addr) (l1 l2 : List UInt8) (c1 c2 : Nat) (f1 f2 : UInt8) (hr1 : ReadsBytes w a1 l1) (hl1 : l1.length ≤ maxLen) (hr2 : ReadsBytes w a2 l2) (hl2 : l2.length ≤ maxLen) :
    Gives Try.prog 7 #[.agg #[.slice a1 l1.length c1, .int .u8 f1.toNat], .agg #[.slice a2 l2.length c2, .int .u8 f2.toNat]] w (.bool true) := by
  unfold Gives
  have Hr1 := Lib.hid hr1
  have Hr2 := Lib.hid hr2
  have Hl1 := Lib.hid hl1
  have Hl2 := Lib.hid hl2
  clear hr1 hr2 hl1 hl2
  generalize hn1 : l1.length = n1 at *
  generalize hn2 : l2.length = n2 at *
  have Hn1 := Lib.hid hn1
  have Hn2 := Lib.hid hn2
  clear hn1 hn2
  go_enter Try.func7, Try.ntmps7
  go_wp2_with fail
  refine (known_any _).mono ?_
  rintro e w1 ⟨rfl, hb1⟩
  have hA := heap_alloc2_old w (.cells #[.slice a1 n1 c1, .int .u8 f1.toNat] 24) (.cells #[.slice a2 n2 c2, .int .u8 f2.toNat] 24)
  have hB := heap_alloc2_new w (.cells #[.slice a1 n1 c1, .int .u8 f1.toNat] 24) (.cells #[.slice a2 n2 c2, .int .u8 f2.toNat] 24)
  rw [← hb1.block _ (by simp; omega)] at hA
  rw [← hb1.block _ (by simp)] at hB
  have k0 : w1.cell? ⟨w.heap.size, 0, none⟩ = some (.slice a1 n1 c1) := by rw [cell_of_row _ _ _ _ _ _ hA]; rfl
  have k1 : w1.cell? ⟨w.heap.size, 1, none⟩ = some (.int .u8 f1.toNat) := by rw [cell_of_row _ _ _ _ _ _ hA]; rfl
  have k2 : w1.cell? ⟨w.heap.size + 1, 0, none⟩ = some (.slice a2 n2 c2) := by rw [cell_of_row _ _ _ _ _ _ hB]; rfl
  have k3 : w1.cell? ⟨w.heap.size + 1, 1, none⟩ = some (.int .u8 f2.toNat) := by rw [cell_of_row _ _ _ _ _ _ hB]; rfl
  have Hb1 := Lib.hid (below_box w _ (below_box _ _ hb1))
  have q0 := cell_regrown k0
  have q1 := cell_regrown k1
  have q2 := cell_regrown k2
  have q3 := cell_regrown k3
  have hM1 := two_regrown w1 a1 l1 c1 f1 n1 Hn1.out (Hr1.out.below Hb1.out) Hl1.out
  have hM2 := two_regrown w1 a2 l2 c2 f2 n2 Hn2.out (Hr2.out.below Hb1.out) Hl2.out
  clear hb1 hA hB k0 k1 k2 k3
  go_wp2_with fail
  refine wp_region_quiet_below (by kernel_rfl) (by kernel_rfl) ?_
  repeat (first | go_big_quiet_step (first | with_reducible exact hM1 _ _ | with_reducible exact hM2 _ _) | quiet_step (first | with_reducible exact hM1 _ _ | with_reducible exact hM2 _ _))
  refine wpQuiet_nil ?_
  intro w2 hw2
  obtain ⟨⟨dq, osq⟩, rfl⟩ := hw2
  have Hb2 := Lib.hid (Hb1.out.trans ((below_regrown w1 dq osq).mono Hb1.out.size))
  generalize Go.Sort.grow (redrawn w1 dq) osq = w2 at *
  clear hM1 hM2 q0 q1 q2 q3 Hb1
  have Hc1 := Lib.hid (chk_mk l1 f1)
  have Hc2 := Lib.hid (chk_mk l2 f2)
  generalize bs (mk l1 f1) = s at *
  generalize bs (mk l2 f2) = t at *
  clear Hr1 Hr2 Hl1 Hl2 Hn1 Hn2
  obtain ⟨h0, h1⟩ := chk_zero s Hc1.out
  go_wp2_with fail
  refine (least_good s _ Hc1.out).mono ?_
  rintro e w3 ⟨rfl, hb3⟩
  have Hb3 := Lib.hid (Hb2.out.trans (hb3.mono Hb2.out.size))
  clear hb3 Hb2
  obtain ⟨D, hb, hsame, hcall⟩ := same_out s t Hc1.out Hc2.out
  have Hsame := Lib.hid hsame
  have Hcall := Lib.hid hcall
  clear hsame hcall
  go_wp2_with fail
  refine (Hcall.out _).mono ?_
  rintro e w4 ⟨rfl, hb4⟩
  have Hb4 := Lib.hid (Hb3.out.trans (hb4.mono Hb3.out.size))
  clear hb4 Hb3 Hcall
  obtain ⟨N, r1, r2, r3, r4, r5⟩ := root_first s h0
  have Hp := Lib.hid (fun w => prim_root s w Hc1.out N r1 r2 r3 r4 r5)
  have R3 := Lib.hid r3
  have R5 := Lib.hid r5
  have hQ : (s.size : Int) / (N : Int) = ((s.size / N : Nat) : Int) := (Int.natCast_ediv _ _).symm
  have hQ2 : s.size / N ≤ s.size := Nat.div_le_self _ _
  clear r3 r4 r5
  generalize s.size / N = Q at *
  go_wp2_with fail
  refine (Hp.out _).mono ?_
  rintro e w5 ⟨rfl, hb5⟩
  have Hb5 := Lib.hid (Hb4.out.trans (hb5.mono Hb4.out.size))
  clear hb5 Hb4 Hp
  go_wp2_with fail
  refine (lleast_any s _ h0 h1).mono ?_
  rintro e w6 ⟨rfl, hb6⟩
  have Hb6 := Lib.hid (Hb5.out.trans (hb6.mono Hb5.out.size))
  clear hb6 Hb5
  have x1 : ((rot s (leastOf s)).toList == (rot s (leastOf s)).toList) = true := by simp
  have x2 : (((leastOf s : Nat) : Int) != (leastOf s : Nat)) = false := by simp
  go_wp2_with fail
  go_loopw [18, 19, 20] (fun d h i wr => ∃ (z : Int) (d' : Nat) (h' : Bool), -1 ≤ z ∧ z < s.size ∧ i = .int .i64 z ∧ d = .int .i64 d' ∧ h = .bool h' ∧ Hid (SameFrom s t (z + 1).toNat d' h') ∧ Hid (Below w.heap.size w wr)) (fun _ _ i _ => (intOf i + 1).toNat)
  case atStart => exact ⟨(s.size : Int) - 1, 0, false, by omega, by omega, rfl, rfl, rfl, .inr ⟨rfl, rfl, fun j h1 h2 => by omega⟩, Hb6⟩
  case round =>
    clear Hb6
    obtain ⟨z, d, hh, hz1, hz2, rfl, rfl, rfl, Hst, Hb⟩ := hrel
    by_cases hz : 0 ≤ z
    · obtain ⟨m, rfl⟩ := Int.eq_ofNat_of_zero_le hz
      have hm : m < s.size := by omega
      go_wp2_with fail
      refine (lrotate_any s m _ h0 (by omega)).mono ?_
      rw [idx_cast m s.size hm]
      rintro e w7 ⟨rfl, hb7⟩
      have Hb7 := Lib.hid (Hb.out.trans (hb7.mono Hb.out.size))
      clear hb7 Hb
      by_cases he : rot s m = t
      · have Hst2 : Hid (SameFrom s t m m true) := .inl ⟨rfl, Nat.le_refl _, hm, he, fun j h1 h2 => by omega⟩
        have hq : ((rot s m).toList == t.toList) = true := by rw [he]; simp
        clear he Hst
        go_wp2
        go_roundw
        case rel => exact ⟨(m : Int) - 1, m, true, by omega, by omega, rfl, rfl, rfl, by rw [show ((m : Int) - 1 + 1).toNat = m by omega]; exact Hst2, Hb7⟩
        case measure => simp [intOf]
      · have hst := Hst.out
        rw [show ((m : Int) + 1).toNat = m + 1 by omega] at hst
        have Hst2 : Hid (SameFrom s t m d hh) := by
          rcases hst with ⟨g1, g2, g3, g4, g5⟩ | ⟨g1, g2, g3⟩
          · exact .inl ⟨g1, by omega, g3, g4, fun j j1 j2 => by
              rcases Nat.lt_or_ge m j with h | h
              · exact g5 j h j2
              · rw [show j = m by omega]; exact he⟩
          · exact .inr ⟨g1, g2, fun j j1 j2 => by
              rcases Nat.lt_or_ge m j with h | h
              · exact g3 j h j2
              · rw [show j = m by omega]; exact he⟩
        have hq : ((rot s m).toList == t.toList) = false := by
          rw [toList_lb, toList_lb, beq_eq_false_iff_ne]
          intro e
          exact he (by rw [← bs_lb (rot s m), e, bs_lb])
        clear he Hst hst
        go_wp2
        go_roundw
        case rel => exact ⟨(m : Int) - 1, d, hh, by omega, by omega, rfl, rfl, rfl, by rw [show ((m : Int) - 1 + 1).toNat = m by omega]; exact Hst2, Hb7⟩
        case measure => simp [intOf]
    · obtain rfl : z = -1 := by omega
      obtain ⟨rfl, rfl⟩ := same_unique Hsame.out Hst.out
      clear Hst Hsame hz
      go_wp2_with fail
      go_loopw [21] (fun n wr => ∃ k : Nat, 1 ≤ k ∧ k ≤ N ∧ n = .int .i64 k ∧ Hid (Below w.heap.size w wr)) (fun n _ => N - (intOf n).toNat)
      case atStart => exact ⟨1, Nat.le_refl _, r1, rfl, Hb⟩
      case round =>
        clear Hb
        obtain ⟨k, hk1, hk2, rfl, Hb⟩ := hrel
        by_cases hlt : k < N
        · have Hne := Lib.hid (R5.out k hk1 hlt)
          go_wp2_with fail
          refine (lrotate_any s k _ h0 (by omega)).mono ?_
          rw [idx_cast k s.size (by omega)]
          rintro e w7 ⟨rfl, hb7⟩
          have Hb7 := Lib.hid (Hb.out.trans (hb7.mono Hb.out.size))
          clear hb7 Hb
          have hq : ((rot s k).toList == s.toList) = false := by
            rw [toList_lb, toList_lb, beq_eq_false_iff_ne]
            intro e
            exact Hne.out (by rw [← bs_lb (rot s k), e, bs_lb])
          go_wp2
          go_roundw
          case rel => exact ⟨k + 1, by omega, by omega, by go_num, Hb7⟩
          case measure => simp [intOf]; omega
        · obtain rfl : k = N := by omega
          go_wp2_with fail
          refine (lrotate_any s k _ h0 (by omega)).mono ?_
          rw [show ((k : Int) % (s.size : Int)).toNat = k % s.size by omega, R3.out]
          rintro e w7 ⟨rfl, hb7⟩
          have Hb7 := Lib.hid (Hb.out.trans (hb7.mono Hb.out.size))
          clear hb7 Hb
          have hq : (s.toList == s.toList) = true := by simp
          have hq2 : ((s.extract 0 k).toList == (s.extract 0 k).toList) = true := by simp
          have hq3 : ((d : Int) == d) = true := by simp
          have hq4 : (hh == hh) = true := by simp
          have hq5 : ((Q : Int) == Q) = true := by simp
          go_wp2
          go_ret
          exact ⟨rfl, Hb7.out⟩

end Go.Proofs.Ytgijighdalaemaa
