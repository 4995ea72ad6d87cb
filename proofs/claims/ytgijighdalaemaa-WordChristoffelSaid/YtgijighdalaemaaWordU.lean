/- The law on Christoffel words: what the law's function returns. -/
import Derived.Test.YtgijighdalaemaaWordT
namespace Go.Proofs.Ytgijighdalaemaa
open Go.RowKit

set_option maxRecDepth 100000 in
set_option maxHeartbeats 2000000 in
theorem lawChris_bad (a b : Int) (w : World) (h : a < 0 ∨ b < 0 ∨ 60 < a ∨ 60 < b ∨ a + b < 1 ∨ 60 < a + b) :
    Gives Try.prog 4 #[.int .i64 a, .int .i64 b] w (.bool true) := by
  unfold Gives
  have H := Lib.hid h
  by_cases h1 : a < 0
  · clear h
    go_enter Try.func4, Try.ntmps4
    go_wp2_with fail
    refine (known_any _).mono ?_
    rintro e w1 ⟨rfl, hb1⟩
    go_wp2_with fail
    refine (chris_bad a b _ H.out).mono ?_
    rintro e w2 ⟨rfl, hb2⟩
    go_wp2
    go_ret
    exact ⟨rfl, hb1.trans (hb2.mono hb1.size)⟩
  · skip
    by_cases h2 : b < 0
    · clear h
      go_enter Try.func4, Try.ntmps4
      go_wp2_with fail
      refine (known_any _).mono ?_
      rintro e w1 ⟨rfl, hb1⟩
      go_wp2_with fail
      refine (chris_bad a b _ H.out).mono ?_
      rintro e w2 ⟨rfl, hb2⟩
      go_wp2
      go_ret
      exact ⟨rfl, hb1.trans (hb2.mono hb1.size)⟩
    · skip
      by_cases h3 : 60 < a
      · clear h
        go_enter Try.func4, Try.ntmps4
        go_wp2_with fail
        refine (known_any _).mono ?_
        rintro e w1 ⟨rfl, hb1⟩
        go_wp2_with fail
        refine (chris_bad a b _ H.out).mono ?_
        rintro e w2 ⟨rfl, hb2⟩
        go_wp2
        go_ret
        exact ⟨rfl, hb1.trans (hb2.mono hb1.size)⟩
      · skip
        by_cases h4 : 60 < b
        · clear h
          go_enter Try.func4, Try.ntmps4
          go_wp2_with fail
          refine (known_any _).mono ?_
          rintro e w1 ⟨rfl, hb1⟩
          go_wp2_with fail
          refine (chris_bad a b _ H.out).mono ?_
          rintro e w2 ⟨rfl, hb2⟩
          go_wp2
          go_ret
          exact ⟨rfl, hb1.trans (hb2.mono hb1.size)⟩
        · skip
          by_cases h5 : a + b < 1
          · clear h
            go_enter Try.func4, Try.ntmps4
            go_wp2_with fail
            refine (known_any _).mono ?_
            rintro e w1 ⟨rfl, hb1⟩
            go_wp2_with fail
            refine (chris_bad a b _ H.out).mono ?_
            rintro e w2 ⟨rfl, hb2⟩
            go_wp2
            go_ret
            exact ⟨rfl, hb1.trans (hb2.mono hb1.size)⟩
          · have h6 : 60 < a + b := by omega
            clear h
            go_enter Try.func4, Try.ntmps4
            go_wp2_with fail
            refine (known_any _).mono ?_
            rintro e w1 ⟨rfl, hb1⟩
            go_wp2_with fail
            refine (chris_bad a b _ H.out).mono ?_
            rintro e w2 ⟨rfl, hb2⟩
            go_wp2
            go_ret
            exact ⟨rfl, hb1.trans (hb2.mono hb1.size)⟩

set_option maxRecDepth 100000 in
set_option maxHeartbeats 2000000 in
theorem lawChris_good (a b : Nat) (w : World) (h0 : 1 ≤ a + b) (h1 : a + b ≤ 60) :
    Gives Try.prog 4 #[.int .i64 a, .int .i64 b] w (.bool true) := by
  unfold Gives
  go_enter Try.func4, Try.ntmps4
  go_wp2_with fail
  refine (known_any _).mono ?_
  rintro e w1 ⟨rfl, hb1⟩
  go_wp2_with fail
  refine (chris_good a b _ h0 h1).mono ?_
  rintro e w2 ⟨rfl, hb2⟩
  have Hb2 := Lib.hid (hb1.trans (hb2.mono hb1.size))
  clear hb1 hb2
  go_wp2_with fail
  refine (lchris_any a b _ h0 h1).mono ?_
  rintro e w3 ⟨rfl, hb3⟩
  have hq : ((bs (chrisTo (a + b) b (a + b))).toList == (bs (chrisTo (a + b) b (a + b))).toList) = true := by simp
  go_wp2
  go_ret
  exact ⟨rfl, Hb2.out.trans (hb3.mono Hb2.out.size)⟩

theorem lawChris (a b : Int) (w : World) : Gives Try.prog 4 #[.int .i64 a, .int .i64 b] w (.bool true) := by
  by_cases h : a < 0 ∨ b < 0 ∨ 60 < a ∨ 60 < b ∨ a + b < 1 ∨ 60 < a + b
  · exact lawChris_bad a b w h
  · obtain ⟨n, rfl⟩ := Int.eq_ofNat_of_zero_le (show 0 ≤ a by omega)
    obtain ⟨m, rfl⟩ := Int.eq_ofNat_of_zero_le (show 0 ≤ b by omega)
    exact lawChris_good n m w (by omega) (by omega)

end Go.Proofs.Ytgijighdalaemaa
