/- Walks of the law's christoffel. -/
import Derived.Test.YtgijighdalaemaaWordD
namespace Go.Proofs.Ytgijighdalaemaa
open Go.RowKit

/-- The first letters of a Christoffel word with n letters, b of them the second one. -/
def chrisTo (n b k : Nat) : List UInt8 := (List.range k).map fun i => if i * b / n < (i + 1) * b / n then 98 else 97

theorem chrisTo_succ (n b k : Nat) : chrisTo n b (k + 1) = chrisTo n b k ++ [if k * b / n < (k + 1) * b / n then 98 else 97] := by
  simp [chrisTo, List.range_succ]

theorem bs_append (l m : List UInt8) : bs l ++ bs m = bs (l ++ m) := by
  apply ByteArray.ext; simp [bs, ByteArray.data_append]

set_option maxHeartbeats 400000 in
theorem lchris_any (a b : Nat) (w : World) (h0 : 1 ≤ a + b) (h1 : a + b ≤ 60) :
    Gives Try.prog 16 #[.int .i64 a, .int .i64 b] w (.string (bs (chrisTo (a + b) b (a + b)))) := by
  unfold Gives
  generalize hn : a + b = n at *
  have Hn := Lib.hid hn
  have hs : (a : Int) + b = n := by omega
  clear hn
  go_enter Try.func16, Try.ntmps16
  go_wp2_with fail
  go_loopw [6, 7] (fun l i wr => ∃ k : Nat, k ≤ n ∧ i = .int .i64 k ∧ l = .string (bs (chrisTo n b k)) ∧ Below w.heap.size w wr) (fun _ i _ => n - (intOf i).toNat)
  case atStart => exact ⟨0, Nat.zero_le _, rfl, rfl, Below.refl _ _⟩
  case round =>
    obtain ⟨k, hk, rfl, rfl, hb2⟩ := hrel
    by_cases hlt : k < n
    · have hb : b ≤ n := by omega
      have p1 : (k + 1) * b ≤ 60 * 60 := Nat.mul_le_mul (by omega) (by omega)
      have p2 : k * b ≤ 60 * 60 := Nat.mul_le_mul (by omega) (by omega)
      have e1 := wrap_mul1 k b (by omega)
      have e2 := wrap_mul k b (by omega)
      have hs2 := Lib.hid (chrisTo_succ n b k)
      have hl : (chrisTo n b k).length ≤ 60 := by simp [chrisTo]; omega
      generalize (k + 1) * b = p at *
      generalize k * b = q at *
      have w1 := wrap_div p n (by omega)
      have w2 := wrap_div q n (by omega)
      generalize p / n = x at *
      generalize q / n = y at *
      by_cases hxy : y < x
      · have hc : decide (y < x) = true := by simpa using hxy
        rw [if_pos hxy] at hs2
        clear hxy
        go_wp2_with fail
        go_quiet (fail)
        go_wp2
        go_roundw
        case rel => exact ⟨k + 1, by omega, by go_num, by rw [hs2.out, ← bs_append]; rfl, below_dn hb2 _⟩
        case measure => simp [intOf]; omega
      · have hc : decide (y < x) = false := by simpa using hxy
        rw [if_neg hxy] at hs2
        clear hxy
        go_wp2_with fail
        go_quiet (fail)
        go_wp2
        go_roundw
        case rel => exact ⟨k + 1, by omega, by go_num, by rw [hs2.out, ← bs_append]; rfl, below_dn hb2 _⟩
        case measure => simp [intOf]; omega
    · obtain rfl : k = n := by omega
      go_wp2
      go_ret
      exact ⟨rfl, hb2⟩

end Go.Proofs.Ytgijighdalaemaa
