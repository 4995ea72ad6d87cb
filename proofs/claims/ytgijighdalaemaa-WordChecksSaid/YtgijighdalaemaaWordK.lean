/- The walk of the law's balanced. -/
import Derived.Test.YtgijighdalaemaaWordJ
namespace Go.Proofs.Ytgijighdalaemaa
open Go.RowKit

/-- What the law's balanced returns. -/
def LBalOut (s : ByteArray) (m : Nat) (w : World) (e : Ending) (w' : World) : Prop :=
  ((∃ n i j c : Nat, Found s m n i j c ∧ e = .returned (.tuple #[.agg #[.int .i64 n, .int .i64 i, .int .i64 j, .string (ltr c)], .bool false])) ∨
   (okN s m s.size ∧ e = .returned (.tuple #[.agg #[.int .i64 0, .int .i64 0, .int .i64 0, .string ⟨#[]⟩], .bool true]))) ∧ Below w.heap.size w w'

/-- How often the letter with an index occurs in a part. -/
def pc (s : ByteArray) (f c n : Nat) : Nat := partTo s f (97 + c).toUInt8 n
theorem pc_le (s : ByteArray) (f c n : Nat) : pc s f c n ≤ n := partTo_le _ _ _ _

theorem part_letter (s : ByteArray) (f n c : Nat) (w : World) (h0 : 0 < s.size) (h1 : s.size ≤ 60) (hf : f ≤ 60) (hn : n ≤ 60) (hc : c ≤ 25) :
    Gives Try.prog 35 #[.string s, .int .i64 f, .int .i64 n, .int .u8 (97 + (c : Int))] w (.int .i64 (pc s f c n : Nat)) := by
  have := part_any s f n (97 + c).toUInt8 w h0 h1 hf hn
  rw [u8_toNat _ (by omega)] at this
  exact this

set_option maxHeartbeats 4000000 in
theorem lbalanced_good (s : ByteArray) (w : World) (hv : chk (lb s) = 0) :
    Calls Try.prog 14 #[.string s] w (LBalOut s (cnt (lb s)).length w) := by
  obtain ⟨h0, h1⟩ := chk_zero s hv
  have Hv := Lib.hid hv
  have hm := cnt_length (lb s) (chk_letters s hv)
  clear hv
  go_enter Try.func14, Try.ntmps14
  go_wp2_with fail
  refine (lcounts_any s _ Hv.out).mono ?_
  rintro e w1 ⟨v, rfl, hown, hb1⟩
  have Hwit := Lib.hid (show Wit w w1 from ⟨by rw [hb1.block _ (by simp)]; exact heap_alloc_new _ _, ((Below.refl _ _).alloc (Nat.le_refl _) _).trans (hb1.mono (by simp)), by have := hb1.size; simpa using this⟩)
  obtain ⟨a, cc, rfl⟩ := own_form hown
  clear hown hb1
  generalize (cnt (lb s)).length = m at *
  go_wp2_with fail
  go_loopw [5] (fun n wr => ∃ k : Nat, 1 ≤ k ∧ k ≤ s.size ∧ n = .int .i64 k ∧ Hid (okN s m k) ∧ Hid (Wit w wr)) (fun n _ => s.size - (intOf n).toNat)
  case atStart => exact ⟨1, Nat.le_refl _, h0, rfl, fun n a b => by omega, Hwit⟩
  case round =>
    clear Hwit
    obtain ⟨n, hn1, hn2, rfl, Hok, Hwit⟩ := hrel
    by_cases hlt : n < s.size
    · go_wp2_with fail
      go_loopw [6] (fun i wr => ∃ k : Nat, k ≤ s.size ∧ i = .int .i64 k ∧ Hid (okI s m n k) ∧ Hid (Wit w wr)) (fun i _ => s.size - (intOf i).toNat)
      case atStart => exact ⟨0, Nat.zero_le _, rfl, fun i hi => by omega, Hwit⟩
      case round =>
        clear Hwit
        obtain ⟨i, hi, rfl, HokI, Hwit⟩ := hrel
        by_cases hlt2 : i < s.size
        · go_wp2_with fail
          go_loopw [7] (fun j wr => ∃ k : Nat, i + 1 ≤ k ∧ k ≤ s.size ∧ j = .int .i64 k ∧ Hid (okJ s m n i k) ∧ Hid (Wit w wr)) (fun j _ => s.size - (intOf j).toNat)
          case atStart => exact ⟨i + 1, Nat.le_refl _, by omega, by go_num, fun j h1 h2 => by omega, Hwit⟩
          case round =>
            clear Hwit
            obtain ⟨j, hj1, hj2, rfl, HokJ, Hwit⟩ := hrel
            by_cases hlt3 : j < s.size
            · go_wp2_with fail
              go_loopw [8] (fun c wr => ∃ k : Nat, k ≤ m ∧ c = .int .i64 k ∧ Hid (okC s n i j k) ∧ Hid (Wit w wr)) (fun c _ => m - (intOf c).toNat)
              case atStart => exact ⟨0, Nat.zero_le _, rfl, fun c h1 => by omega, Hwit⟩
              case round =>
                clear Hwit
                obtain ⟨c, hc1, rfl, HokC, Hwit⟩ := hrel
                by_cases hlt4 : c < m
                · go_wp2_with fail
                  refine (part_letter s i n c _ h0 h1 (by omega) (by omega) (by omega)).mono ?_
                  rintro e w2 ⟨rfl, hb2⟩
                  have Hwit2 := Lib.hid (Hwit.out.step hb2)
                  clear Hwit hb2
                  go_wp2_with fail
                  refine (part_letter s j n c _ h0 h1 (by omega) (by omega) (by omega)).mono ?_
                  rintro e w3 ⟨rfl, hb3⟩
                  have Hwit3 := Lib.hid (Hwit2.out.step hb3)
                  clear Hwit2 hb3
                  have b1 := pc_le s i c n
                  have b2 := pc_le s j c n
                  have Hbad := Lib.hid (show bad s n i j c ↔ ((1 : Int) < (pc s i c n : Int) - pc s j c n ∨ (pc s i c n : Int) - pc s j c n < -1) from Iff.rfl)
                  generalize pc s i c n = p at *
                  generalize pc s j c n = q at *
                  by_cases hd1 : 1 < (p : Int) - q
                  · have Hb := Lib.hid (Hbad.out.2 (.inl hd1))
                    clear Hbad
                    go_wp2_with fail
                    refine (letter_any c _ (by omega) (by omega)).mono ?_
                    rintro e w4 ⟨rfl, hb4⟩
                    have Hwit4 := Lib.hid (Hwit3.out.step hb4)
                    clear Hwit3 hb4
                    rw [Int.toNat_natCast]
                    go_wp2_with (refine wpList_store_row rfl 28 (.tmp 2) (.tmp 64) rfl w.heap.size _ rfl rfl 28 _ Hwit4.out.1 (by kernel_rfl) rfl (by simp [Value.oneCell']) ?_)
                    refine bodyPost_ret (results_ct rfl _ _ w.heap.size 28 _ (0, 0) _ rfl (setRow_heap _ _ _ _ _ _ Hwit4.out.1) Try.underlying28 rfl (by kernel_rfl)) rfl ⟨.inl ⟨n, i, j, c, ⟨hn1, hlt, hj1, hlt3, hlt4, Hb.out, HokC.out, HokJ.out, HokI.out, Hok.out⟩, rfl⟩, below_setRow Hwit4.out.2.1 (Nat.le_refl _) _⟩
                  · by_cases hd2 : (p : Int) - q < -1
                    · have Hb := Lib.hid (Hbad.out.2 (.inr hd2))
                      clear Hbad
                      go_wp2_with fail
                      refine (letter_any c _ (by omega) (by omega)).mono ?_
                      rintro e w4 ⟨rfl, hb4⟩
                      have Hwit4 := Lib.hid (Hwit3.out.step hb4)
                      clear Hwit3 hb4
                      rw [Int.toNat_natCast]
                      go_wp2_with (refine wpList_store_row rfl 28 (.tmp 2) (.tmp 64) rfl w.heap.size _ rfl rfl 28 _ Hwit4.out.1 (by kernel_rfl) rfl (by simp [Value.oneCell']) ?_)
                      refine bodyPost_ret (results_ct rfl _ _ w.heap.size 28 _ (0, 0) _ rfl (setRow_heap _ _ _ _ _ _ Hwit4.out.1) Try.underlying28 rfl (by kernel_rfl)) rfl ⟨.inl ⟨n, i, j, c, ⟨hn1, hlt, hj1, hlt3, hlt4, Hb.out, HokC.out, HokJ.out, HokI.out, Hok.out⟩, rfl⟩, below_setRow Hwit4.out.2.1 (Nat.le_refl _) _⟩
                    · have HokC2 : Hid (okC s n i j (c + 1)) := fun c' hc' hb => by
                        rcases Nat.lt_or_ge c' c with h | h
                        · exact HokC.out c' h hb
                        · obtain rfl : c' = c := by omega
                          rcases Hbad.out.1 hb with h | h
                          · exact hd1 h
                          · exact hd2 h
                      clear Hbad HokC
                      have r1 : (p : Int) - q ≤ 1 := by omega
                      have r2 : -1 ≤ (p : Int) - q := by omega
                      clear hd1 hd2
                      go_wp2
                      go_roundw
                      case rel => exact ⟨c + 1, by omega, by go_num, HokC2, Hwit3⟩
                      case measure => simp [intOf]; omega
                · obtain rfl : c = m := by omega
                  have HokJ2 : Hid (okJ s c n i (j + 1)) := fun j' h1 h2 => by
                    rcases Nat.lt_or_ge j' j with h | h
                    · exact HokJ.out j' h1 h
                    · obtain rfl : j' = j := by omega
                      exact HokC.out
                  clear HokJ HokC
                  go_wp2
                  go_roundw
                  case rel => exact ⟨j + 1, by omega, by omega, by go_num, HokJ2, Hwit⟩
                  case measure => simp [intOf]; omega
            · obtain rfl : j = s.size := by omega
              have HokI2 : Hid (okI s m n (i + 1)) := fun i' h1 => by
                rcases Nat.lt_or_ge i' i with h | h
                · exact HokI.out i' h
                · obtain rfl : i' = i := by omega
                  exact HokJ.out
              clear HokI HokJ
              go_wp2
              go_roundw
              case rel => exact ⟨i + 1, by omega, by go_num, HokI2, Hwit⟩
              case measure => simp [intOf]; omega
        · obtain rfl : i = s.size := by omega
          have HokN2 : Hid (okN s m (n + 1)) := fun n' h1 h2 => by
            rcases Nat.lt_or_ge n' n with h | h
            · exact Hok.out n' h1 h
            · obtain rfl : n' = n := by omega
              exact HokI.out
          clear HokI Hok
          go_wp2
          go_roundw
          case rel => exact ⟨n + 1, by omega, by omega, by go_num, HokN2, Hwit⟩
          case measure => simp [intOf]; omega
    · obtain rfl : n = s.size := by omega
      go_wp2_with (refine wpList_store_row rfl 28 (.tmp 2) (.tmp 65) rfl w.heap.size _ rfl rfl 28 _ Hwit.out.1 (by kernel_rfl) rfl (by simp [Value.oneCell']) ?_)
      refine bodyPost_ret (results_ct rfl _ _ w.heap.size 28 _ (0, 0) _ rfl (setRow_heap _ _ _ _ _ _ Hwit.out.1) Try.underlying28 rfl (by kernel_rfl)) rfl ⟨.inr ⟨Hok.out, rfl⟩, below_setRow Hwit.out.2.1 (Nat.le_refl _) _⟩

end Go.Proofs.Ytgijighdalaemaa
