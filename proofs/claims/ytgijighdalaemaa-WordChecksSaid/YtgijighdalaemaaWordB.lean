/- Walks of word.Least, word.Same, word.Primitive and the law's own least. -/
import Derived.Test.YtgijighdalaemaaWordA
namespace Go.Proofs.Ytgijighdalaemaa
open Go.RowKit

set_option maxHeartbeats 400000 in
theorem least_bad (s : ByteArray) (w : World) (v : Int) (hv : v = chk (lb s)) (hne : v ≠ 0) :
    Gives Try.prog 20 #[.string s] w (.tuple #[.string ⟨#[]⟩, .int .i64 0, .int .i64 v]) := by
  unfold Gives
  have hb : (v == 0) = false := by simpa using hne
  have hb' : (v != 0) = true := by simpa using hne
  have Hv := Lib.hid hv
  clear hv hne
  go_enter Try.func20, Try.ntmps20
  go_wp2_with fail
  refine (check_any s w v Hv.out).mono ?_
  rintro e w1 ⟨rfl, hb1⟩
  go_wp2
  go_ret3
  exact ⟨rfl, hb1⟩

/-- Where the least rotation begins. -/
def leastOf (s : ByteArray) : Nat := leastAt s s.size

theorem chk_zero (s : ByteArray) (h : chk (lb s) = 0) : 0 < s.size ∧ s.size ≤ 60 := by
  rcases Nat.eq_zero_or_pos s.size with h0 | h0
  · rw [chk_empty s h0] at h; omega
  · by_cases h1 : s.size ≤ 60
    · exact ⟨h0, h1⟩
    · rw [chk_long s (by omega)] at h; omega

set_option maxHeartbeats 400000 in
theorem least_good (s : ByteArray) (w : World) (hv : chk (lb s) = 0) :
    Gives Try.prog 20 #[.string s] w (.tuple #[.string (rot s (leastOf s)), .int .i64 (leastOf s : Nat), .int .i64 0]) := by
  unfold Gives
  obtain ⟨h0, h1⟩ := chk_zero s hv
  have Hv := Lib.hid hv
  clear hv
  go_enter Try.func20, Try.ntmps20
  go_wp2_with fail
  refine (check_any s w 0 Hv.out.symm).mono ?_
  rintro e w1 ⟨rfl, hb1⟩
  go_wp2_with fail
  go_loopw [2, 3, 16] (fun l a i wr => ∃ k : Nat, k ≤ s.size ∧ i = .int .i64 k ∧ l = .string (rot s (leastAt s k)) ∧ a = .int .i64 (leastAt s k : Nat) ∧ Below w.heap.size w wr) (fun _ _ i _ => s.size - (intOf i).toNat)
  case atStart => exact ⟨0, Nat.zero_le _, rfl, by rw [show leastAt s 0 = 0 from rfl, rot_zero], rfl, hb1⟩
  case round =>
    obtain ⟨k, hk, rfl, rfl, rfl, hb2⟩ := hrel
    by_cases hlt : k < s.size
    · go_wp2_with fail
      refine (rotate_any s k _ h0 (by omega)).mono ?_
      rintro e w2 ⟨rfl, hb3⟩
      rw [idx_cast k s.size hlt]
      have H := Lib.hid (show leastAt s (k + 1) = if Op.bytesLess (rot s k).toList (rot s (leastAt s k)).toList then k else leastAt s k from rfl)
      cases hc : Op.bytesLess (rot s k).toList (rot s (leastAt s k)).toList with
      | true =>
        have H2 := Lib.hid (H.out.trans (by rw [hc]; rfl) : leastAt s (k + 1) = k)
        clear H
        go_wp2
        go_roundw
        case rel => exact ⟨k + 1, by omega, by go_num, by rw [H2.out], by rw [H2.out], hb2.trans (hb3.mono hb2.size)⟩
        case measure => simp [intOf]; omega
      | false =>
        have H2 := Lib.hid (H.out.trans (by rw [hc]; rfl) : leastAt s (k + 1) = leastAt s k)
        clear H
        go_wp2
        go_roundw
        case rel => exact ⟨k + 1, by omega, by go_num, by rw [H2.out], by rw [H2.out], hb2.trans (hb3.mono hb2.size)⟩
        case measure => simp [intOf]; omega
    · obtain rfl : k = s.size := by omega
      go_wp2
      go_ret3
      exact ⟨rfl, hb2⟩

end Go.Proofs.Ytgijighdalaemaa
