/- Walks of word.Same, word.Rotate. -/
import Derived.Test.YtgijighdalaemaaWordC
import Derived.LoopN
namespace Go.Proofs.Ytgijighdalaemaa
open Go.RowKit

theorem idx2_0 (a b : Value) : ∀ w, (Instr.index 85 (.agg #[a, b]) (.int .i64 0)).run Try.prog w = .ok a w := fun _ => by kernel_rfl
theorem idx2_1 (a b : Value) : ∀ w, (Instr.index 85 (.agg #[a, b]) (.int .i64 1)).run Try.prog w = .ok b w := fun _ => by kernel_rfl

set_option maxHeartbeats 400000 in
theorem same_bad1 (a b : ByteArray) (w : World) (v : Int) (hv : v = chk (lb a)) (hne : v ≠ 0) :
    Gives Try.prog 21 #[.string a, .string b] w (.tuple #[.int .i64 0, .bool false, .int .i64 v]) := by
  unfold Gives
  have hb : (v == 0) = false := by simpa using hne
  have hb' : (v != 0) = true := by simpa using hne
  have i0 := idx2_0 (.string a) (.string b)
  have Hv := Lib.hid hv
  clear hv hne
  go_enter Try.func21, Try.ntmps21
  go_wp2_with fail
  refine wp_loop_rounds 1 ?_; rw [rounds_succ]
  go_wp2_with fail
  refine (check_any a w v Hv.out).mono ?_
  rintro e w1 ⟨rfl, hb1⟩
  go_wp2
  go_ret3
  exact ⟨rfl, hb1⟩

set_option maxHeartbeats 400000 in
theorem same_bad2 (a b : ByteArray) (w : World) (ha : chk (lb a) = 0) (v : Int) (hv : v = chk (lb b)) (hne : v ≠ 0) :
    Gives Try.prog 21 #[.string a, .string b] w (.tuple #[.int .i64 0, .bool false, .int .i64 v]) := by
  unfold Gives
  have hb : (v == 0) = false := by simpa using hne
  have hb' : (v != 0) = true := by simpa using hne
  have i0 := idx2_0 (.string a) (.string b)
  have i1 := idx2_1 (.string a) (.string b)
  have Hv := Lib.hid hv
  have Ha := Lib.hid ha
  clear hv hne ha
  go_enter Try.func21, Try.ntmps21
  go_wp2_with fail
  refine wp_loop_rounds 2 ?_; rw [rounds_succ]
  go_wp2_with fail
  refine (check_any a w 0 Ha.out.symm).mono ?_
  rintro e w1 ⟨rfl, hb1⟩
  go_wp2_with fail
  rw [rounds_succ]
  go_wp2_with fail
  refine (check_any b w1 v Hv.out).mono ?_
  rintro e w2 ⟨rfl, hb2⟩
  go_wp2
  go_ret3
  exact ⟨rfl, hb1.trans (hb2.mono hb1.size)⟩

set_option maxHeartbeats 400000 in
/-- The search up to n, where nothing before n is the other word. -/
theorem same_upto (a b : ByteArray) (w : World) (ha : chk (lb a) = 0) (hb : chk (lb b) = 0) (n : Nat) (hn : n ≤ a.size) (hno : ∀ m, m < n → rot a m ≠ b) (v : Value)
    (hres : (n < a.size ∧ rot a n = b ∧ v = .tuple #[.int .i64 n, .bool true, .int .i64 0]) ∨ (n = a.size ∧ v = .tuple #[.int .i64 0, .bool false, .int .i64 0])) :
    Gives Try.prog 21 #[.string a, .string b] w v := by
  unfold Gives
  obtain ⟨h0, h1⟩ := chk_zero a ha
  have i0 := idx2_0 (.string a) (.string b)
  have i1 := idx2_1 (.string a) (.string b)
  have Hb := Lib.hid hb
  have Ha := Lib.hid ha
  have Hno := Lib.hid hno
  have Hres := Lib.hid hres
  clear ha hb hno hres
  go_enter Try.func21, Try.ntmps21
  go_wp2_with fail
  refine wp_loop_rounds 3 ?_; rw [rounds_succ]
  go_wp2_with fail
  refine (check_any a w 0 Ha.out.symm).mono ?_
  rintro e w1 ⟨rfl, hb1⟩
  go_wp2_with fail
  rw [rounds_succ]
  go_wp2_with fail
  refine (check_any b w1 0 Hb.out.symm).mono ?_
  rintro e w2 ⟨rfl, hb2⟩
  have hb3 := hb1.trans (hb2.mono hb1.size)
  clear hb1 hb2
  go_wp2_with fail
  rw [rounds_succ]
  go_wp2_with fail
  clear i0 i1
  go_loopw [25] (fun i wr => ∃ k : Nat, k ≤ n ∧ i = .int .i64 k ∧ Below w.heap.size w wr) (fun i _ => a.size - (intOf i).toNat)
  case atStart => exact ⟨0, Nat.zero_le _, rfl, hb3⟩
  case round =>
    clear hb3
    obtain ⟨k, hk, rfl, hb2⟩ := hrel
    by_cases hlt : k < n
    · have Hne := Lib.hid (Hno.out k hlt)
      go_wp2_with fail
      refine (rotate_any a k _ h0 (by omega)).mono ?_
      rintro e w2 ⟨rfl, hb3⟩
      rw [idx_cast k a.size (by omega)]
      have hq : ((rot a k).toList == b.toList) = false := by
        rw [toList_lb, toList_lb, beq_eq_false_iff_ne]
        intro e
        exact Hne.out (by rw [← bs_lb (rot a k), e, bs_lb])
      go_wp2
      go_roundw
      case rel => exact ⟨k + 1, by omega, by go_num, hb2.trans (hb3.mono hb2.size)⟩
      case measure => simp [intOf]; omega
    · obtain rfl : k = n := by omega
      clear hlt
      rcases Hres.out with ⟨hlt, hrot, rfl⟩ | ⟨hq, rfl⟩
      · have Hrot := Lib.hid hrot
        clear hrot Hres
        go_wp2_with fail
        refine (rotate_any a k _ h0 (by omega)).mono ?_
        rintro e w2 ⟨rfl, hb3⟩
        rw [idx_cast k a.size (by omega), Hrot.out]
        have hq : (b.toList == b.toList) = true := by simp
        go_wp2
        go_ret3
        exact ⟨rfl, hb2.trans (hb3.mono hb2.size)⟩
      · have hge : ¬ k < a.size := by omega
        clear hq Hres
        go_wp2
        go_ret3
        exact ⟨rfl, hb2⟩

set_option maxHeartbeats 400000 in
theorem rot_bad (s : ByteArray) (k : Int) (w : World) (v : Int) (hv : v = chk (lb s)) (hne : v ≠ 0) :
    Gives Try.prog 25 #[.string s, .int .i64 k] w (.tuple #[.string ⟨#[]⟩, .int .i64 v]) := by
  unfold Gives
  have hb : (v == 0) = false := by simpa using hne
  have hb' : (v != 0) = true := by simpa using hne
  have Hv := Lib.hid hv
  clear hv hne
  go_enter Try.func25, Try.ntmps25
  go_wp2_with fail
  refine (check_any s w v Hv.out).mono ?_
  rintro e w1 ⟨rfl, hb1⟩
  go_wp2
  go_ret2
  exact ⟨rfl, hb1⟩

set_option maxHeartbeats 400000 in
theorem rot_good (s : ByteArray) (k : Int) (w : World) (hv : chk (lb s) = 0) :
    Gives Try.prog 25 #[.string s, .int .i64 k] w (.tuple #[.string (rot s (k % s.size).toNat), .int .i64 0]) := by
  unfold Gives
  obtain ⟨h0, h1⟩ := chk_zero s hv
  have Hv := Lib.hid hv
  clear hv
  go_enter Try.func25, Try.ntmps25
  go_wp2_with fail
  refine (check_any s w 0 Hv.out.symm).mono ?_
  rintro e w1 ⟨rfl, hb1⟩
  go_wp2_with fail
  refine (rotate_any s k _ h0 (by omega)).mono ?_
  rintro e w2 ⟨rfl, hb3⟩
  go_wp2
  go_ret2
  exact ⟨rfl, hb1.trans (hb3.mono hb1.size)⟩

end Go.Proofs.Ytgijighdalaemaa
