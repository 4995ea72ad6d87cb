/- The walk of word.Christoffel. -/
import Derived.Test.YtgijighdalaemaaWordK
import Derived.Test.YtgijighdalaemaaBuild
namespace Go.Proofs.Ytgijighdalaemaa
open Go.RowKit

set_option maxHeartbeats 1000000 in
theorem chris_bad (a b : Int) (w : World) (h : a < 0 ∨ b < 0 ∨ 60 < a ∨ 60 < b ∨ a + b < 1 ∨ 60 < a + b) :
    Gives Try.prog 15 #[.int .i64 a, .int .i64 b] w (.tuple #[.string ⟨#[]⟩, .int .i64 3]) := by
  unfold Gives
  by_cases h1 : a < 0
  · clear h
    go_enter Try.func15, Try.ntmps15
    go_wp2
    go_ret2
    exact ⟨rfl, Below.refl _ _⟩
  · by_cases h2 : b < 0
    · clear h
      go_enter Try.func15, Try.ntmps15
      go_wp2
      go_ret2
      exact ⟨rfl, Below.refl _ _⟩
    · by_cases h3 : 60 < a
      · clear h
        go_enter Try.func15, Try.ntmps15
        go_wp2
        go_ret2
        exact ⟨rfl, Below.refl _ _⟩
      · by_cases h4 : 60 < b
        · clear h
          go_enter Try.func15, Try.ntmps15
          go_wp2
          go_ret2
          exact ⟨rfl, Below.refl _ _⟩
        · by_cases h5 : a + b < 1
          · clear h
            go_enter Try.func15, Try.ntmps15
            go_wp2
            go_ret2
            exact ⟨rfl, Below.refl _ _⟩
          · have h6 : 60 < a + b := by omega
            clear h
            go_enter Try.func15, Try.ntmps15
            go_wp2
            go_ret2
            exact ⟨rfl, Below.refl _ _⟩

theorem byteCells_snoc (l : List UInt8) (c : UInt8) : Lib.byteCells (l ++ [c]) = Lib.byteCells l ++ [.int .u8 c.toNat] := by simp [Lib.byteCells]
theorem byteCells_length (l : List UInt8) : (Lib.byteCells l).length = l.length := by simp [Lib.byteCells]

set_option maxHeartbeats 1000000 in
theorem chris_good (a b : Nat) (w : World) (h0 : 1 ≤ a + b) (h1 : a + b ≤ 60) :
    Gives Try.prog 15 #[.int .i64 a, .int .i64 b] w (.tuple #[.string (bs (chrisTo (a + b) b (a + b))), .int .i64 0]) := by
  unfold Gives
  generalize hn : a + b = n at *
  have Hn := Lib.hid hn
  have hs : (a : Int) + b = n := by omega
  have ha : (a : Int) ≤ 60 := by omega
  have hb : (b : Int) ≤ 60 := by omega
  have hbn : b ≤ n := by omega
  have hn1 : (1 : Int) ≤ n := by omega
  have hn2 : (n : Int) ≤ 60 := by omega
  clear hn
  go_enter Try.func15, Try.ntmps15
  go_wp2_with fail
  go_loopw [39] (fun i wr => ∃ k : Nat, k ≤ n ∧ i = .int .i64 k ∧ Hid (Lib.IsBuilder 75 5 w.heap.size w.heap.size (Lib.byteCells (chrisTo n b k)) wr ∧ Below w.heap.size w wr)) (fun i _ => n - (intOf i).toNat)
  case atStart => exact ⟨0, Nat.zero_le _, rfl, Lib.fresh_isBuilder _ _ _, (Below.refl _ _).alloc (Nat.le_refl _) _⟩
  case round =>
    obtain ⟨k, hk, rfl, Hw⟩ := hrel
    by_cases hlt : k < n
    · have p1 : (k + 1) * b ≤ 60 * 60 := Nat.mul_le_mul (by omega) (by omega)
      have p2 : k * b ≤ 60 * 60 := Nat.mul_le_mul (by omega) (by omega)
      have e1 := wrap_mul1 k b (by omega)
      have e2 := wrap_mul k b (by omega)
      have hs2 := Lib.hid (chrisTo_succ n b k)
      have Hl := Lib.hid (show (chrisTo n b k).length = k by simp [chrisTo])
      generalize (k + 1) * b = p at *
      generalize k * b = q at *
      have w1 := wrap_div p n (by omega)
      have w2 := wrap_div q n (by omega)
      generalize p / n = x at *
      generalize q / n = y at *
      by_cases hxy : y < x
      · have hc : decide (y < x) = true := by simpa using hxy
        rw [if_pos hxy] at hs2
        clear hxy
        go_wp2_with fail
        go_quiet (fail)
        have Hw2 := Lib.hid (show Lib.IsBuilder 75 5 w.heap.size w.heap.size (Lib.byteCells (chrisTo n b k)) (wr.drewN nq) ∧ Below w.heap.size w (wr.drewN nq) from ⟨Hw.out.1, below_dn Hw.out.2 _⟩)
        clear Hw
        go_wp2_with fail
        refine (writeByte_any w.heap.size w.heap.size (Lib.byteCells (chrisTo n b k)) 98 _ Hw2.out.1 (by rw [byteCells_length, Hl.out]; omega) Hw2.out.2.size).mono ?_
        rintro e w3 ⟨rfl, hat, hb3⟩
        have Hw3 : Hid (Lib.IsBuilder 75 5 w.heap.size w.heap.size (Lib.byteCells (chrisTo n b (k + 1))) w3 ∧ Below w.heap.size w w3) := ⟨.inr (by rw [hs2.out, byteCells_snoc]; exact hat), Hw2.out.2.trans hb3⟩
        clear hat hb3 Hw2
        go_wp2
        go_roundw
        case rel => exact ⟨k + 1, by omega, by go_num, Hw3⟩
        case measure => simp [intOf]; omega
      · have hc : decide (y < x) = false := by simpa using hxy
        rw [if_neg hxy] at hs2
        clear hxy
        go_wp2_with fail
        go_quiet (fail)
        have Hw2 := Lib.hid (show Lib.IsBuilder 75 5 w.heap.size w.heap.size (Lib.byteCells (chrisTo n b k)) (wr.drewN nq) ∧ Below w.heap.size w (wr.drewN nq) from ⟨Hw.out.1, below_dn Hw.out.2 _⟩)
        clear Hw
        go_wp2_with fail
        refine (writeByte_any w.heap.size w.heap.size (Lib.byteCells (chrisTo n b k)) 97 _ Hw2.out.1 (by rw [byteCells_length, Hl.out]; omega) Hw2.out.2.size).mono ?_
        rintro e w3 ⟨rfl, hat, hb3⟩
        have Hw3 : Hid (Lib.IsBuilder 75 5 w.heap.size w.heap.size (Lib.byteCells (chrisTo n b (k + 1))) w3 ∧ Below w.heap.size w w3) := ⟨.inr (by rw [hs2.out, byteCells_snoc]; exact hat), Hw2.out.2.trans hb3⟩
        clear hat hb3 Hw2
        go_wp2
        go_roundw
        case rel => exact ⟨k + 1, by omega, by go_num, Hw3⟩
        case measure => simp [intOf]; omega
    · obtain rfl : k = n := by omega
      go_wp2_with fail
      refine (Try.Builder_String_any w.heap.size w.heap.size (chrisTo k b k) _ Hw.out.1 Hw.out.2.size).mono ?_
      rintro e w3 ⟨rfl, hb3⟩
      go_wp2
      go_ret2
      exact ⟨rfl, Hw.out.2.trans hb3⟩

end Go.Proofs.Ytgijighdalaemaa
