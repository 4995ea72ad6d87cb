/- Walks of word.Reverse, the law's check, EqualRows, and of the functions of package word at a word that is not right. -/
import Derived.Test.YtgijighdalaemaaRev
import Derived.Test.YtgijighdalaemaaConjB
namespace Go.Proofs.Ytgijighdalaemaa
open Go.RowKit
open Go.Sort (putRow Holds holds_putRow holds_ahead)

set_option maxHeartbeats 1000000 in
theorem reverse_good (s : ByteArray) (w : World) (hv : chk (lb s) = 0) : Gives Try.prog 30 #[.string s] w (.tuple #[.string (bs (lb s).reverse), .int .i64 0]) := by
  unfold Gives
  obtain ⟨h0, h1⟩ := chk_zero s hv
  have Hv := Lib.hid hv
  clear hv
  go_enter Try.func30, Try.ntmps30
  go_wp2_with fail
  refine (check_any s _ 0 Hv.out.symm).mono ?_
  rintro e w1 ⟨rfl, hb1⟩
  have hcv := Lib.run_convert_string_bytes (P := Try.prog) w1 9 22 5 s Try.underlying9 Try.underlying22 Try.underlying5
  have Hh := Lib.hid (holds_bytes w1 5 s)
  have hbb := below_bytes w1 5 s
  have Hb2 := Lib.hid (hb1.trans (hbb.mono hb1.size))
  have hg := hb1.size
  generalize Lib.bytesWorld w1 5 s = w2 at *
  generalize grownCap w1 s.size 0 5 = cap at *
  clear hbb
  go_wp2_with fail
  refine (reverse_bytes w1.heap.size 0 cap s.data w2 Hh.out (by show s.size ≤ _; omega)).mono ?_
  rintro e w3 ⟨rfl, n, rfl⟩
  have Hb3 := Lib.hid (Lib.below_putRow (enc := encB) (q := n) (d := s.data.reverse) Hb2.out hg)
  have hcv2 := conv_holds (putRow encB (Sort.ahead w2 n) w1.heap.size 0 s.data.reverse) w1.heap.size cap s.size s.data.reverse (by simp) (holds_putRow encB _ w1.heap.size 0 s.data s.data.reverse (holds_ahead encB w2 n _ 0 s.data Hh.out) (by simp))
  have er : (⟨s.data.reverse⟩ : ByteArray) = bs (lb s).reverse := by unfold bs lb; congr 1; exact Array.ext' (by simp)
  rw [er] at hcv2
  clear er
  generalize putRow encB (Sort.ahead w2 n) w1.heap.size 0 s.data.reverse = w4 at *
  go_wp2
  go_ret2
  exact ⟨rfl, Hb3.out⟩

theorem reverse_bad (s : ByteArray) (w : World) (v : Int) (hv : v = chk (lb s)) (hne : v ≠ 0) :
    Gives Try.prog 30 #[.string s] w (.tuple #[.string ⟨#[]⟩, .int .i64 v]) := by
  unfold Gives
  have hb : (v == 0) = false := by simpa using hne
  have hb' : (v != 0) = true := by simpa using hne
  have Hv := Lib.hid hv
  clear hv hne
  go_enter Try.func30, Try.ntmps30
  go_wp2_with fail
  refine (check_any s _ v Hv.out).mono ?_
  rintro e w1 ⟨rfl, hb1⟩
  go_wp2
  go_ret2
  exact ⟨rfl, hb1⟩

theorem conjugate_bad (s : ByteArray) (w : World) (v : Int) (hv : v = chk (lb s)) (hne : v ≠ 0) :
    Gives Try.prog 27 #[.string s] w (.tuple #[.bool false, .int .i64 v]) := by
  unfold Gives
  have hb : (v == 0) = false := by simpa using hne
  have hb' : (v != 0) = true := by simpa using hne
  have Hv := Lib.hid hv
  clear hv hne
  go_enter Try.func27, Try.ntmps27
  go_wp2_with fail
  refine (check_any s _ v Hv.out).mono ?_
  rintro e w1 ⟨rfl, hb1⟩
  go_wp2
  go_ret2
  exact ⟨rfl, hb1⟩

set_option maxRecDepth 100000 in
theorem balanced_bad (s : ByteArray) (w : World) (v : Int) (hv : v = chk (lb s)) (hne : v ≠ 0) :
    Gives Try.prog 13 #[.string s] w (.tuple #[.bool false, .agg #[.int .i64 0, .int .i64 0, .int .i64 0, .string ⟨#[]⟩], .int .i64 v]) := by
  unfold Gives
  have hb : (v == 0) = false := by simpa using hne
  have hb' : (v != 0) = true := by simpa using hne
  have Hv := Lib.hid hv
  clear hv hne
  go_enter Try.func13, Try.ntmps13
  go_wp2_with fail
  refine (check_any s _ v Hv.out).mono ?_
  rintro e w1 ⟨rfl, hb1⟩
  have hwit : Wit w w1 := by
    refine ⟨by rw [hb1.block _ (by simp)]; exact heap_alloc_new _ _, ((Below.refl _ _).alloc (Nat.le_refl _) _).trans (hb1.mono (by simp)), by have := hb1.size; simpa using this⟩
  clear hb1
  have Hwit := Lib.hid hwit
  clear hwit
  go_wp2_with (refine wpList_store_row rfl 28 (.tmp 3) (.tmp 18) rfl w.heap.size _ rfl rfl 28 _ Hwit.out.1 (by kernel_rfl) rfl (by simp [Value.oneCell']) ?_)
  exact bodyPost_ret (results_tct rfl _ _ w.heap.size 28 _ (0, 0) _ rfl (setRow_heap _ _ _ _ _ _ Hwit.out.1) Try.underlying28 rfl (by kernel_rfl)) rfl ⟨rfl, below_setRow Hwit.out.2.1 (Nat.le_refl _) _⟩

set_option maxHeartbeats 400000 in
theorem lcheck_loop (s : ByteArray) (w : World) (h0 : 0 < s.size) (h1 : s.size ≤ 60) (v : Int) (hv : v = chk (lb s)) :
    Gives Try.prog 29 #[.string s] w (.int .i64 v) := by
  unfold Gives
  have Hv := Lib.hid hv
  clear hv
  have e0 := isEmpty_false s h0
  go_enter Try.func29, Try.ntmps29
  go_wp2
  go_loop [3] (fun i => ∃ k : Nat, k ≤ s.size ∧ i = .int .i64 k ∧ Hid (∀ j (hj : j < s.size), j < k → badB s[j] = false)) (fun i => s.size - (intOf i).toNat)
  case atStart => exact ⟨0, Nat.zero_le _, rfl, fun j _ hj => absurd hj (Nat.not_lt_zero _)⟩
  case round =>
    obtain ⟨k, hk, rfl, H⟩ := hrel
    by_cases hlt : k < s.size
    · cases hb : badB s[k] with
      | true =>
        have hv2 := Hv.out.trans (chk_bad s k hlt h1 hb)
        clear Hv
        by_cases hc : (s[k].toNat : Int) < 97
        · clear hb
          go_wp2
          go_ret
          exact ⟨rfl, Below.refl _ _⟩
        · have hd : (122 : Int) < s[k].toNat := by simp [badB] at hb; omega
          clear hb
          go_wp2
          go_ret
          exact ⟨rfl, Below.refl _ _⟩
      | false =>
        have hc : 97 ≤ (s[k].toNat : Int) ∧ (s[k].toNat : Int) ≤ 122 := by simp [badB] at hb; omega
        have H2 : Hid (∀ j (hj : j < s.size), j < k + 1 → badB s[j] = false) := fun j hj hjk => by
          rcases Nat.lt_or_ge j k with h | h
          · exact H.out j hj h
          · have : j = k := by omega
            subst this; exact hb
        clear hb H
        obtain ⟨hc1, hc2⟩ := hc
        go_wp2
        go_round
        case rel => exact ⟨k + 1, by omega, by go_num, H2⟩
        case measure => simp [intOf]; omega
    · have hv2 := Hv.out.trans (chk_good s h0 h1 fun j hj => H.out j hj (by omega))
      clear Hv
      go_wp2
      go_ret
      exact ⟨rfl, Below.refl _ _⟩

theorem lcheck_any (s : ByteArray) (w : World) (v : Int) (hv : v = chk (lb s)) :
    Gives Try.prog 29 #[.string s] w (.int .i64 v) := by
  rcases Nat.eq_zero_or_pos s.size with h | h
  · have hv2 := hv.trans (chk_empty s h)
    clear hv
    have e0 : s.toList.isEmpty = true := by rw [toList_lb, List.isEmpty_iff_length_eq_zero, lb_length, h]
    unfold Gives
    go_enter Try.func29, Try.ntmps29
    subst hv2
    go_wp2
    go_ret
    exact ⟨rfl, Below.refl _ _⟩
  · by_cases h1 : s.size ≤ 60
    · exact lcheck_loop s w h h1 v hv
    · have hv2 := hv.trans (chk_long s (by omega))
      clear hv
      have e0 := isEmpty_false s h
      have hn : (60 : Int) < s.size := by omega
      unfold Gives
      go_enter Try.func29, Try.ntmps29
      subst hv2
      go_wp2
      go_ret
      exact ⟨rfl, Below.refl _ _⟩

set_option maxHeartbeats 1000000 in
/-- EqualRows at two lists of the same numbers. -/
theorem equalRows_same (w : World) (a1 a2 : Option Addr) (c1 c2 : Nat) (l : List Int) (h1 : ReadsInts w a1 l) (h2 : ReadsInts w a2 l) (hl : l.length ≤ 1000) :
    Gives Try.prog 32 #[.slice a1 l.length c1, .slice a2 l.length c2] w (.bool true) := by
  unfold Gives
  have H1 := Lib.hid h1
  have H2 := Lib.hid h2
  clear h1 h2
  generalize hn : l.length = n at *
  have Hn := Lib.hid hn
  clear hn
  have hnn : ((n : Int) != n) = false := by simp
  go_enter Try.func32, Try.ntmps32
  go_wp2_with fail
  go_loopw [5] (fun i wr => ∃ k : Nat, k ≤ n ∧ i = .int .i64 k ∧ Hid (Below w.heap.size w wr)) (fun i _ => n - (intOf i).toNat)
  case atStart => exact ⟨0, Nat.zero_le _, rfl, Below.refl _ _⟩
  case round =>
    obtain ⟨k, hk, rfl, Hb⟩ := hrel
    by_cases hlt : k < n
    · rcases H1.out with hr | ⟨b1, o1, rfl, hb1, hc1⟩
      · have := Hn.out; rw [hr] at this; simp at this; omega
      rcases H2.out with hr | ⟨b2, o2, rfl, hb2, hc2⟩
      · have := Hn.out; rw [hr] at this; simp at this; omega
      have x1 := hc1 k (by rw [Hn.out]; exact hlt)
      have x2 := hc2 k (by rw [Hn.out]; exact hlt)
      rw [← Hb.out.cell (p := ⟨b1, o1 + k, none⟩) hb1] at x1
      rw [← Hb.out.cell (p := ⟨b2, o2 + k, none⟩) hb2] at x2
      clear hc1 hc2
      generalize l.getD k 0 = x at *
      have hxx : (x != x) = false := by simp
      go_wp2_with fail
      go_quiet (fail)
      have Hb2 : Hid (Below w.heap.size w (wr.drewN nq)) := below_dn Hb.out _
      clear Hb
      go_wp2
      go_roundw
      case rel => exact ⟨k + 1, by omega, by go_num, Hb2⟩
      case measure => simp [intOf]; omega
    · obtain rfl : k = n := by omega
      go_wp2
      go_ret
      exact ⟨rfl, Hb.out⟩

end Go.Proofs.Ytgijighdalaemaa
