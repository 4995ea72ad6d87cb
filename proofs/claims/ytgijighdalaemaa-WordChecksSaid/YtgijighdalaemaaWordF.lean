/- Walks of the law's part, and of both functions that count letters. -/
import Derived.Test.YtgijighdalaemaaWordE
namespace Go.Proofs.Ytgijighdalaemaa
open Go.RowKit

/-- How often a letter occurs among the first k letters from a place on, read around. -/
def partTo (s : ByteArray) (from_ : Nat) (c : UInt8) : Nat → Nat
  | 0 => 0
  | k + 1 => partTo s from_ c k + if (lb s).getD ((from_ + k) % s.size) 0 = c then 1 else 0

theorem partTo_le (s : ByteArray) (f : Nat) (c : UInt8) (k : Nat) : partTo s f c k ≤ k := by
  induction k with
  | zero => simp [partTo]
  | succ k ih => simp only [partTo]; split <;> omega

theorem getD_lb (s : ByteArray) (i : Nat) (h : i < s.size) : (lb s).getD i 0 = s[i] := by
  rw [List.getD_eq_getElem?_getD, List.getElem?_eq_getElem (by rw [lb_length]; exact h)]
  exact lb_getElem s i h

set_option maxHeartbeats 400000 in
theorem part_any (s : ByteArray) (f n : Nat) (c : UInt8) (w : World) (h0 : 0 < s.size) (h1 : s.size ≤ 60) (hf : f ≤ 60) (hn : n ≤ 60) :
    Gives Try.prog 35 #[.string s, .int .i64 f, .int .i64 n, .int .u8 c.toNat] w (.int .i64 (partTo s f c n : Nat)) := by
  unfold Gives
  go_enter Try.func35, Try.ntmps35
  go_wp2_with fail
  go_loop [9, 10] (fun m i => ∃ k : Nat, k ≤ n ∧ i = .int .i64 k ∧ m = .int .i64 (partTo s f c k : Nat)) (fun _ i => n - (intOf i).toNat)
  case atStart => exact ⟨0, Nat.zero_le _, rfl, rfl⟩
  case round =>
    obtain ⟨k, hk, rfl, rfl⟩ := hrel
    have hle := partTo_le s f c k
    by_cases hlt : k < n
    · have hm : (f + k) % s.size < s.size := Nat.mod_lt _ h0
      have hmc : ((f : Int) + k) % (s.size : Int) = ((f + k) % s.size : Nat) := by push_cast; rfl
      have hg := getD_lb s _ hm
      have H := Lib.hid (show partTo s f c (k + 1) = partTo s f c k + if (lb s).getD ((f + k) % s.size) 0 = c then 1 else 0 from rfl)
      rw [hg] at H
      clear hg
      generalize (f + k) % s.size = m at *
      by_cases hc : s[m] = c
      · rw [if_pos hc] at H
        have he : ((s[m].toNat : Int) == c.toNat) = true := by simp [hc]
        clear hc
        go_wp2
        go_round
        case rel => exact ⟨k + 1, by omega, by go_num, by rw [H.out]; go_num⟩
        case measure => simp [intOf]; omega
      · rw [if_neg hc] at H
        have he : ((s[m].toNat : Int) == c.toNat) = false := by
          rw [beq_eq_false_iff_ne]; intro e; exact hc (UInt8.toNat_inj.1 (by omega))
        clear hc
        go_wp2
        go_round
        case rel => exact ⟨k + 1, by omega, by go_num, by rw [H.out]; go_num⟩
        case measure => simp [intOf]; omega
    · obtain rfl : k = n := by omega
      go_wp2
      go_ret
      exact ⟨rfl, Below.refl _ _⟩

end Go.Proofs.Ytgijighdalaemaa
