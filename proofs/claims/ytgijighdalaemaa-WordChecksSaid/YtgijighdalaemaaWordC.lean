/- Walks of word.Same, word.Primitive and the law's own least. -/
import Derived.Test.YtgijighdalaemaaWordB
namespace Go.Proofs.Ytgijighdalaemaa
open Go.RowKit

theorem leastAt_one (s : ByteArray) : leastAt s 1 = 0 := by
  show (if _ then 0 else 0) = 0; split <;> rfl

set_option maxHeartbeats 400000 in
theorem lleast_any (s : ByteArray) (w : World) (h0 : 0 < s.size) (h1 : s.size ≤ 60) :
    Gives Try.prog 23 #[.string s] w (.tuple #[.string (rot s (leastOf s)), .int .i64 (leastOf s : Nat)]) := by
  unfold Gives
  go_enter Try.func23, Try.ntmps23
  go_wp2_with fail
  go_loopw [4, 5] (fun a i wr => ∃ k : Nat, 1 ≤ k ∧ k ≤ s.size ∧ i = .int .i64 k ∧ a = .int .i64 (leastAt s k : Nat) ∧ Below w.heap.size w wr) (fun _ i _ => s.size - (intOf i).toNat)
  case atStart => exact ⟨1, Nat.le_refl _, h0, rfl, by rw [leastAt_one]; rfl, Below.refl _ _⟩
  case round =>
    obtain ⟨k, hk0, hk, rfl, rfl, hb2⟩ := hrel
    have hle := leastAt_le s k
    by_cases hlt : k < s.size
    · go_wp2_with fail
      refine (lrotate_any s k _ h0 (by omega)).mono ?_
      rintro e w2 ⟨rfl, hb3⟩
      rw [idx_cast k s.size hlt]
      go_wp2_with fail
      refine (lrotate_any s _ _ h0 (by omega)).mono ?_
      rintro e w3 ⟨rfl, hb4⟩
      rw [idx_cast _ s.size (by omega)]
      have hbb := (hb2.trans (hb3.mono hb2.size))
      have hbb2 := (hbb.trans (hb4.mono hbb.size))
      clear hb2 hb3 hb4 hbb
      have H := Lib.hid (show leastAt s (k + 1) = if Op.bytesLess (rot s k).toList (rot s (leastAt s k)).toList then k else leastAt s k from rfl)
      cases hc : Op.bytesLess (rot s k).toList (rot s (leastAt s k)).toList with
      | true =>
        have H2 := Lib.hid (H.out.trans (by rw [hc]; rfl) : leastAt s (k + 1) = k)
        clear H
        go_wp2
        go_roundw
        case rel => exact ⟨k + 1, by omega, by omega, by go_num, by rw [H2.out], hbb2⟩
        case measure => simp [intOf]; omega
      | false =>
        have H2 := Lib.hid (H.out.trans (by rw [hc]; rfl) : leastAt s (k + 1) = leastAt s k)
        clear H
        go_wp2
        go_roundw
        case rel => exact ⟨k + 1, by omega, by omega, by go_num, by rw [H2.out], hbb2⟩
        case measure => simp [intOf]; omega
    · obtain rfl : k = s.size := by omega
      go_wp2_with fail
      refine (lrotate_any s _ _ h0 (by omega)).mono ?_
      rintro e w3 ⟨rfl, hb4⟩
      rw [idx_cast _ s.size (leastAt_lt s s.size h0)]
      go_wp2
      go_ret2
      exact ⟨rfl, hb2.trans (hb4.mono hb2.size)⟩

set_option maxHeartbeats 400000 in
theorem prim_bad (s : ByteArray) (w : World) (v : Int) (hv : v = chk (lb s)) (hne : v ≠ 0) :
    Gives Try.prog 22 #[.string s] w (.tuple #[.string ⟨#[]⟩, .int .i64 0, .int .i64 v]) := by
  unfold Gives
  have hb : (v == 0) = false := by simpa using hne
  have hb' : (v != 0) = true := by simpa using hne
  have Hv := Lib.hid hv
  clear hv hne
  go_enter Try.func22, Try.ntmps22
  go_wp2_with fail
  refine (check_any s w v Hv.out).mono ?_
  rintro e w1 ⟨rfl, hb1⟩
  go_wp2
  go_ret3
  exact ⟨rfl, hb1⟩

/-- A rotation by n leaves the word alone, and n divides its length. -/
def per (s : ByteArray) (n : Nat) : Prop := s.size % n = 0 ∧ rot s n = s

set_option maxHeartbeats 400000 in
/-- The search for the root up to n, where nothing before n is a period. -/
theorem prim_upto (s : ByteArray) (w : World) (hv : chk (lb s) = 0) (n : Nat) (hn : 1 ≤ n) (hn2 : n ≤ s.size) (hno : ∀ m, 1 ≤ m → m < n → ¬ per s m) (v : Value)
    (hres : (n < s.size ∧ per s n ∧ v = .tuple #[.string (s.extract 0 n), .int .i64 ((s.size : Int) / n), .int .i64 0]) ∨ (n = s.size ∧ v = .tuple #[.string s, .int .i64 1, .int .i64 0])) :
    Gives Try.prog 22 #[.string s] w v := by
  unfold Gives
  obtain ⟨h0, h1⟩ := chk_zero s hv
  have Hv := Lib.hid hv
  have Hno := Lib.hid hno
  have Hres := Lib.hid hres
  clear hv hno hres
  go_enter Try.func22, Try.ntmps22
  go_wp2_with fail
  refine (check_any s w 0 Hv.out.symm).mono ?_
  rintro e w1 ⟨rfl, hb1⟩
  go_wp2_with fail
  go_loopw [6] (fun i wr => ∃ k : Nat, 1 ≤ k ∧ k ≤ n ∧ i = .int .i64 k ∧ Below w.heap.size w wr) (fun i _ => s.size - (intOf i).toNat)
  case atStart => exact ⟨1, Nat.le_refl _, by omega, rfl, hb1⟩
  case round =>
    obtain ⟨k, hk0, hk, rfl, hb2⟩ := hrel
    by_cases hlt : k < n
    · have Hk := Lib.hid (Hno.out k hk0 hlt)
      by_cases hd : s.size % k = 0
      · have he : ((s.size : Int) % (k : Int) == 0) = true := by rw [beq_iff_eq]; omega
        have Hne := Lib.hid (fun e => Hk.out ⟨hd, e⟩ : ¬ rot s k = s)
        clear hd Hk
        go_wp2_with fail
        refine (rotate_any s k _ h0 (by omega)).mono ?_
        rintro e w2 ⟨rfl, hb3⟩
        rw [idx_cast k s.size (by omega)]
        have hq : ((rot s k).toList == s.toList) = false := by
          rw [toList_lb, toList_lb, beq_eq_false_iff_ne]
          intro e
          exact Hne.out (by rw [← bs_lb (rot s k), e, bs_lb])
        go_wp2
        go_roundw
        case rel => exact ⟨k + 1, by omega, by omega, by go_num, hb2.trans (hb3.mono hb2.size)⟩
        case measure => simp [intOf]; omega
      · have he : ((s.size : Int) % (k : Int) == 0) = false := by rw [beq_eq_false_iff_ne]; omega
        clear hd Hk
        go_wp2
        go_roundw
        case rel => exact ⟨k + 1, by omega, by omega, by go_num, hb2⟩
        case measure => simp [intOf]; omega
    · obtain rfl : k = n := by omega
      clear hlt
      rcases Hres.out with ⟨hlt, ⟨hd, hrot⟩, rfl⟩ | ⟨hq, rfl⟩
      · have he : ((s.size : Int) % (k : Int) == 0) = true := by rw [beq_iff_eq]; omega
        have Hrot := Lib.hid hrot
        clear hd hrot Hres
        go_wp2_with fail
        refine (rotate_any s k _ h0 (by omega)).mono ?_
        rintro e w2 ⟨rfl, hb3⟩
        rw [idx_cast k s.size (by omega), Hrot.out]
        have hq : (s.toList == s.toList) = true := by simp
        have q0 : 0 ≤ (s.size : Int) / k := Int.ediv_nonneg (by omega) (by omega)
        have q1 : (s.size : Int) / k ≤ s.size := Int.ediv_le_self _ (by omega)
        have hw1 : wrap64 ((s.size : Int) / k) = (s.size : Int) / k := IntWalk.wrap64_in _ ⟨by omega, by omega⟩
        have hw2 : IntKind.i64.wrap ((s.size : Int) / k) = (s.size : Int) / k := IntWalk.i64_in _ (by omega)
        go_wp2_with fail
        go_quiet (fail)
        go_wp2
        go_ret3
        exact ⟨rfl, below_dn (hb2.trans (hb3.mono hb2.size)) _⟩
      · have hge : ¬ k < s.size := by omega
        clear hq Hres
        go_wp2
        go_ret3
        exact ⟨rfl, hb2⟩

end Go.Proofs.Ytgijighdalaemaa
