/- The law on many letters: what the law's function returns. -/
import Derived.Test.YtgijighdalaemaaWordY
import Derived.Deep.OwnRows
namespace Go.Proofs.Ytgijighdalaemaa
open Go.RowKit

theorem capSum_two_long (k : Nat) (h : 60 ≤ k) : 60 < capSum [(k : Int), 1] := by
  simp only [capSum, capTo, List.length_cons, List.length_nil, List.take, List.foldl_cons, List.foldl_nil]
  omega

theorem capSum_two_good (k : Nat) (h : k < 60) : 1 ≤ capSum [(k : Int), 1] ∧ capSum [(k : Int), 1] ≤ 60 := by
  simp only [capSum, capTo, List.length_cons, List.length_nil, List.take, List.foldl_cons, List.foldl_nil]
  omega

theorem reads_new (w : World) (l : List Int) : ReadsInts (w.alloc (.cells (ints l).toArray 3)) (some ⟨w.heap.size, 0, none⟩) l := by
  refine .inr ⟨_, 0, rfl, by simp, fun i hi => ?_⟩
  rw [cell_of_row _ _ _ _ _ _ (heap_alloc_new w _)]
  simp [ints, List.getD_eq_getElem?_getD, hi]

/-- A row of texts just made. -/
theorem own_str (w : World) (x : List UInt8) : (w.alloc (.cells #[.string (bs x)] 9)).ownsRow w.heap.size 9 1 (.slice (some ⟨w.heap.size, 0, none⟩) 1 1) 1 (strs [x]) :=
  ⟨by simp [strs], .inr ⟨w.heap.size, 1, #[.string (bs x)], rfl, Nat.le_refl _, heap_alloc_new _ _, Nat.le_refl _, by unfold maxLen; omega, by simp, by simp [strs]⟩⟩

/-- Three times as many letters are too many. -/
theorem neck_three_calls (w : World) (M : Int) (h1 : 9 ≤ M) (h2 : M ≤ 20) :
    Calls Try.prog 17 #[.slice (some ⟨w.heap.size, 0, none⟩) 3 3] (w.alloc (.cells #[.int .i64 M, .int .i64 M, .int .i64 M] 3)) fun e w' => e = .returned (.tuple #[.slice none 0 0, .int .i64 4]) ∧ Below w.heap.size w w' := by
  obtain ⟨m, rfl⟩ := Int.eq_ofNat_of_zero_le (show 0 ≤ M by omega)
  have hs := capSum_three m (by omega)
  refine (neck_good _ (some ⟨w.heap.size, 0, none⟩) 3 [(m : Int), m, m] (reads_new w [(m : Int), m, m]) (by simp) (by simp) (by rw [hs]; omega) (by rw [hs]; omega)).mono ?_
  rintro e w' ⟨h, hb⟩
  rcases h with ⟨_, rfl⟩ | ⟨h, _⟩
  · exact ⟨rfl, below_box w _ hb⟩
  · rw [neck_three m (by omega) (by omega)] at h; cases h

theorem neck_one_calls (w : World) (k : Nat) (h1 : k < 60) :
    Calls Try.prog 17 #[.slice (some ⟨w.heap.size, 0, none⟩) 2 2] (w.alloc (.cells #[.int .i64 k, .int .i64 1] 3)) fun e w' =>
      ∃ v, e = .returned (.tuple #[v, .int .i64 0]) ∧ w'.ownsRow (w.heap.size + 1) 9 1 v 1 (strs [List.replicate k 97 ++ [98]]) ∧ Below w.heap.size w w' := by
  obtain ⟨g1, g2⟩ := capSum_two_good k h1
  refine (neck_good _ (some ⟨w.heap.size, 0, none⟩) 2 [(k : Int), 1] (reads_new w [(k : Int), 1]) (by simp) (by simp) g1 g2).mono ?_
  rintro e w' ⟨h, hb⟩
  rw [neck_one_b k h1] at h
  have hb' := below_box w _ hb
  rw [show (w.alloc (.cells (ints [(k : Int), 1]).toArray 3)).heap.size = w.heap.size + 1 by simp] at h
  rcases h with ⟨h, _⟩ | ⟨_, v, rfl, hown⟩
  · cases h
  · exact ⟨v, rfl, hown, hb'⟩

theorem neck_long_calls (w : World) (k : Nat) (h1 : 60 ≤ k) :
    Calls Try.prog 17 #[.slice (some ⟨w.heap.size, 0, none⟩) 2 2] (w.alloc (.cells #[.int .i64 k, .int .i64 1] 3)) fun e w' => e = .returned (.tuple #[.slice none 0 0, .int .i64 16]) ∧ Below w.heap.size w w' :=
  (neck_long _ (some ⟨w.heap.size, 0, none⟩) 2 [(k : Int), 1] (reads_new w [(k : Int), 1]) (by simp) (by simp) (capSum_two_long k h1)).mono fun _ _ h => ⟨h.1, below_box w _ h.2⟩

theorem infoInt : (Try.prog.info? 3).map (fun i => (i.zero, i.size, i.bytes)) = some (some (.int .i64 0), 1, 8) := by kernel_rfl

theorem made27 (w : World) : (Instr.makeSlice 39 (.int .i64 27) (.int .i64 27)).run Try.prog w = .ok (.slice (some ⟨w.heap.size, 0, none⟩) 27 27) (w.alloc (.cells (madeCells #[.int .i64 0] 27) 3)) :=
  run_make_row' 39 3 (.int .i64 0) 8 Try.underlying39 infoInt rfl .i64 .i64 27 (by decide) (by decide) w

set_option maxRecDepth 100000 in
set_option maxHeartbeats 4000000 in
theorem lawMany (w : World) (n : UInt8) : Gives Try.prog 6 #[.int .u8 n.toNat] w (.bool true) := by
  unfold Gives
  obtain ⟨k, hk⟩ : ∃ k, n.toNat % 64 = k := ⟨_, rfl⟩
  have hk64 : k < 64 := by omega
  have hmod : ((n.toNat : Int) % 64) = k := by omega
  obtain ⟨m, hm⟩ : ∃ m, k % 12 = m := ⟨_, rfl⟩
  have hm12 : m < 12 := by omega
  have hmod2 : ((k : Int) % 12) = m := by omega
  have hn8 : n.toNat < 256 := UInt8.toNat_lt n
  generalize n.toNat = N at *
  clear hk hm
  go_enter Try.func6, Try.ntmps6
  go_wp2_with fail
  refine (known_any _).mono ?_
  rintro e w1 ⟨rfl, hb1⟩
  have Hb1 := Lib.hid hb1
  clear hb1
  have htm : ((N : Int).tmod 64) = k := by rw [Int.tmod_eq_emod_of_nonneg (by omega)]; omega
  have htm2 : ((k : Int).tmod 12) = m := by rw [Int.tmod_eq_emod_of_nonneg (by omega)]; omega
  by_cases h59 : 59 < k
  · have h59' : (59 : Int) < k := by omega
    go_wp2_with fail
    refine (neck_long_calls w1 k (by omega)).mono ?_
    rintro e w2 ⟨rfl, hb2⟩
    have Hb2 := Lib.hid (Hb1.out.trans (hb2.mono Hb1.out.size))
    clear hb2 Hb1
    go_wp2_with fail
    refine (neck_three_calls w2 _ (by omega) (by omega)).mono ?_
    rintro e w3 ⟨rfl, hb3⟩
    have Hb3 := Lib.hid (Hb2.out.trans (hb3.mono Hb2.out.size))
    clear hb3 Hb2
    have hmk := made27 w3
    go_wp2_with fail
    refine (neck_many _ _ 27 27 (by decide) (by unfold maxLen; omega)).mono ?_
    rintro e w4 ⟨rfl, hb4⟩
    have Hb4 := Lib.hid (Hb3.out.trans ((below_box _ _ hb4).mono Hb3.out.size))
    clear hb4 Hb3
    go_wp2
    go_ret
    exact ⟨rfl, Hb4.out⟩
  · have h59' : ¬ (59 : Int) < k := by omega
    go_wp2_with fail
    refine (neck_one_calls w1 k (by omega)).mono ?_
    rintro e w2 ⟨v, rfl, hown, hb2⟩
    obtain ⟨a1, c1, rfl⟩ := own_form hown
    have Hb2 := Lib.hid (Hb1.out.trans (hb2.mono Hb1.out.size))
    have Hown := Lib.hid hown
    clear hb2 Hb1 hown
    go_wp2_with fail
    refine (neck_three_calls w2 _ (by omega) (by omega)).mono ?_
    rintro e w3 ⟨rfl, hb3⟩
    have Hown3 := Lib.hid (own_below Hown.out hb3 (Nat.le_refl _))
    have Hb3 := Lib.hid (Hb2.out.trans (hb3.mono Hb2.out.size))
    clear hb3 Hb2 Hown
    have hmk := made27 w3
    go_wp2_with fail
    refine (neck_many _ _ 27 27 (by decide) (by unfold maxLen; omega)).mono ?_
    rintro e w4 ⟨rfl, hb4⟩
    have hb4' := below_box _ _ hb4
    have Hown4 := Lib.hid (own_below Hown3.out hb4' (Nat.le_refl _))
    have Hb4 := Lib.hid (Hb3.out.trans (hb4'.mono Hb3.out.size))
    clear hb4 hb4' Hb3 Hown3
    go_wp2_with fail
    go_loop [11, 12] (fun s i => ∃ j : Nat, j ≤ k ∧ i = .int .i64 j ∧ s = .string (bs (List.replicate j 97))) (fun _ i => k - (intOf i).toNat)
    case atStart => exact ⟨0, Nat.zero_le _, rfl, rfl⟩
    case round =>
      obtain ⟨j, hj, rfl, rfl⟩ := hrel
      have hl : (List.replicate j (97 : UInt8)).length ≤ 60 := by rw [List.length_replicate]; omega
      by_cases hlt : j < k
      · have hj2 : j ≤ 60 := by omega
        go_wp2
        go_round
        case rel => exact ⟨j + 1, by omega, by go_num, by rw [List.replicate_succ', ← bs_append]; rfl⟩
        case measure => simp [intOf]; omega
      · obtain rfl : j = k := by omega
        have eb : bs (List.replicate j 97) ++ ⟨#[98]⟩ = bs (List.replicate j 97 ++ [98]) := bs_append _ [98]
        go_wp2_with fail
        have hn := own_below Hown4.out ((Below.refl w4.heap.size w4).alloc (Nat.le_refl _) (.cells #[.string (bs (List.replicate j 97 ++ [98]))] 9)) (Nat.le_refl _)
        refine (same_any _ _ _ _ _ [List.replicate j 97 ++ [98]] [List.replicate j 97 ++ [98]] hn (own_str _ _) (by simp) (by simp) true (by simp)).mono ?_
        rintro e w5 ⟨rfl, hb5⟩
        go_wp2
        go_ret
        exact ⟨rfl, Hb4.out.trans ((below_box _ _ hb5).mono Hb4.out.size)⟩

end Go.Proofs.Ytgijighdalaemaa
