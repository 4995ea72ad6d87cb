/- Walks of word.Check, word.rotate and the law's own versions of them. -/
import Derived.Test.YtgijighdalaemaaRows
import Derived.Test.YtgijighdalaemaaBase
namespace Go.Proofs.Ytgijighdalaemaa
open Go.RowKit

/-- Is a byte no letter? -/
def badB (c : UInt8) : Bool := decide ((c.toNat : Int) < 97) || decide ((122 : Int) < c.toNat)

/-- The error of a word. -/
def chk (l : List UInt8) : Int := if l = [] then 13 else if 60 < l.length then 16 else if l.any badB then 15 else 0

theorem lb_getElem (s : ByteArray) (k : Nat) (h : k < s.size) : (lb s)[k]'(by rw [lb_length]; exact h) = s[k] := by simp [lb]; rfl

theorem chk_bad (s : ByteArray) (k : Nat) (hk : k < s.size) (h1 : s.size ≤ 60) (h : badB s[k] = true) : chk (lb s) = 15 := by
  have hl := lb_length s
  have hne : lb s ≠ [] := by intro e; rw [e] at hl; simp at hl; omega
  have ha : (lb s).any badB = true := by
    rw [List.any_eq_true]
    exact ⟨s[k], by rw [← lb_getElem s k hk]; exact List.getElem_mem _, h⟩
  simp only [chk, hne, hl, ha, if_true, if_false]
  rw [if_neg (by omega)]

theorem chk_good (s : ByteArray) (h0 : 0 < s.size) (h1 : s.size ≤ 60) (h : ∀ j (hj : j < s.size), badB s[j] = false) : chk (lb s) = 0 := by
  have hl := lb_length s
  have hne : lb s ≠ [] := by intro e; rw [e] at hl; simp at hl; omega
  have ha : (lb s).any badB = false := by
    rw [List.any_eq_false]
    intro x hx
    obtain ⟨i, hi, rfl⟩ := List.getElem_of_mem hx
    have hi' : i < s.size := by omega
    rw [lb_getElem s i hi', h i hi']; simp
  simp only [chk, hne, hl, ha, if_false]
  rw [if_neg (by omega)]; simp

theorem chk_long (s : ByteArray) (h1 : 60 < s.size) : chk (lb s) = 16 := by
  have hl := lb_length s
  have hne : lb s ≠ [] := by intro e; rw [e] at hl; simp at hl; omega
  simp only [chk, hne, hl, if_false]
  rw [if_pos h1]

theorem chk_empty (s : ByteArray) (h1 : s.size = 0) : chk (lb s) = 13 := by
  have hl := lb_length s
  have : lb s = [] := List.eq_nil_of_length_eq_zero (by omega)
  simp [chk, this]

theorem toList_lb (s : ByteArray) : s.toList = lb s := ByteArray.toList_eq s

theorem isEmpty_false (s : ByteArray) (h : 0 < s.size) : s.toList.isEmpty = false := by
  have hl := lb_length s
  rw [toList_lb]
  cases h' : lb s with
  | nil => rw [h'] at hl; simp at hl; omega
  | cons a b => rfl

theorem good_of (c : UInt8) (h1 : 97 ≤ (c.toNat : Int)) (h2 : (c.toNat : Int) ≤ 122) : badB c = false := by
  simp [badB]; omega

set_option maxHeartbeats 400000 in
theorem check_loop (s : ByteArray) (w : World) (h0 : 0 < s.size) (h1 : s.size ≤ 60) (v : Int) (hv : v = chk (lb s)) :
    Gives Try.prog 31 #[.string s] w (.int .i64 v) := by
  unfold Gives
  have Hv := Lib.hid hv
  clear hv
  have e0 := isEmpty_false s h0
  go_enter Try.func31, Try.ntmps31
  go_wp2
  go_loop [11] (fun i => ∃ k : Nat, k ≤ s.size ∧ i = .int .i64 k ∧ Hid (∀ j (hj : j < s.size), j < k → badB s[j] = false)) (fun i => s.size - (intOf i).toNat)
  case atStart => exact ⟨0, Nat.zero_le _, rfl, fun j _ hj => absurd hj (Nat.not_lt_zero _)⟩
  case round =>
    obtain ⟨k, hk, rfl, H⟩ := hrel
    by_cases hlt : k < s.size
    · cases hb : badB s[k] with
      | true =>
        have hv2 := Hv.out.trans (chk_bad s k hlt h1 hb)
        clear Hv
        by_cases hc : (s[k].toNat : Int) < 97
        · clear hb
          go_wp2
          go_ret
          exact ⟨rfl, Below.refl _ _⟩
        · have hd : (122 : Int) < s[k].toNat := by simp [badB] at hb; omega
          clear hb
          go_wp2
          go_ret
          exact ⟨rfl, Below.refl _ _⟩
      | false =>
        have hc : 97 ≤ (s[k].toNat : Int) ∧ (s[k].toNat : Int) ≤ 122 := by simp [badB] at hb; omega
        have H2 : Hid (∀ j (hj : j < s.size), j < k + 1 → badB s[j] = false) := fun j hj hjk => by
          rcases Nat.lt_or_ge j k with h | h
          · exact H.out j hj h
          · have : j = k := by omega
            subst this; exact hb
        clear hb H
        obtain ⟨hc1, hc2⟩ := hc
        go_wp2
        go_round
        case rel => exact ⟨k + 1, by omega, by go_num, H2⟩
        case measure => simp [intOf]; omega
    · have hv2 := Hv.out.trans (chk_good s h0 h1 fun j hj => H.out j hj (by omega))
      clear Hv
      go_wp2
      go_ret
      exact ⟨rfl, Below.refl _ _⟩



theorem check_any (s : ByteArray) (w : World) (v : Int) (hv : v = chk (lb s)) :
    Gives Try.prog 31 #[.string s] w (.int .i64 v) := by
  rcases Nat.eq_zero_or_pos s.size with h | h
  · have hv2 := hv.trans (chk_empty s h)
    clear hv
    have e0 : s.toList.isEmpty = true := by rw [toList_lb, List.isEmpty_iff_length_eq_zero, lb_length, h]
    unfold Gives
    go_enter Try.func31, Try.ntmps31
    subst hv2
    go_wp2
    go_ret
    exact ⟨rfl, Below.refl _ _⟩
  · by_cases h1 : s.size ≤ 60
    · exact check_loop s w h h1 v hv
    · have hv2 := hv.trans (chk_long s (by omega))
      clear hv
      have e0 := isEmpty_false s h
      have hn : (60 : Int) < s.size := by omega
      unfold Gives
      go_enter Try.func31, Try.ntmps31
      subst hv2
      go_wp2
      go_ret
      exact ⟨rfl, Below.refl _ _⟩

/-- A rotation. -/
def rot (s : ByteArray) (r : Nat) : ByteArray := s.extract r s.size ++ s.extract 0 r

theorem rot_idx (k : Int) (n : Nat) (h0 : 0 < n) (h1 : n ≤ 4611686018427387904) :
    (wrap64 (k.tmod ↑n + ↑n)).tmod ↑n = (((k % n).toNat : Nat) : Int) := by
  have e1 : -(n : Int) < k.tmod n := by have := Int.lt_tmod_of_pos k (show (0:Int) < n by omega); omega
  have e2 : k.tmod n < n := Int.tmod_lt_of_pos k (by omega)
  rw [IntWalk.wrap64_in _ ⟨by omega, by omega⟩]
  rw [Int.tmod_eq_emod_of_nonneg (by omega)]
  have : (k.tmod n + n) % (n : Int) = k % n := by
    rw [Int.add_emod_right, Int.tmod_eq_emod]
    split
    · simp
    · simp
  rw [this, Int.toNat_of_nonneg (Int.emod_nonneg _ (by omega))]

set_option maxHeartbeats 400000 in
theorem rotate_any (s : ByteArray) (k : Int) (w : World) (h0 : 0 < s.size) (h1 : s.size ≤ 1000) :
    Gives Try.prog 40 #[.string s, .int .i64 k] w (.string (rot s (k % s.size).toNat)) := by
  have hr : (k % s.size).toNat < s.size := by have := Int.emod_lt_of_pos k (show (0:Int) < s.size by omega); omega
  have hidx := rot_idx k s.size h0 (by omega)
  unfold Gives
  generalize (k % (s.size : Int)).toNat = r at hr hidx ⊢
  go_enter Try.func40, Try.ntmps40
  go_wp2
  go_quiet (fail)
  go_wp2
  go_ret
  exact ⟨rfl, below_drawn _ _⟩

set_option maxHeartbeats 400000 in
theorem lrotate_any (s : ByteArray) (k : Int) (w : World) (h0 : 0 < s.size) (h1 : s.size ≤ 1000) :
    Gives Try.prog 24 #[.string s, .int .i64 k] w (.string (rot s (k % s.size).toNat)) := by
  have hr : (k % s.size).toNat < s.size := by have := Int.emod_lt_of_pos k (show (0:Int) < s.size by omega); omega
  have hidx := rot_idx k s.size h0 (by omega)
  unfold Gives
  generalize (k % (s.size : Int)).toNat = r at hr hidx ⊢
  go_enter Try.func24, Try.ntmps24
  go_wp2
  go_quiet (fail)
  go_wp2
  go_ret
  exact ⟨rfl, below_drawn _ _⟩

/-- The letter with an index. -/
def ltr (i : Nat) : ByteArray := bs [(97 + i).toUInt8]

set_option maxHeartbeats 400000 in
theorem letter_any (i : Int) (w : World) (h0 : 0 ≤ i) (h1 : i ≤ 25) :
    Gives Try.prog 33 #[.int .i64 i] w (.string (ltr i.toNat)) := by
  obtain ⟨n, rfl⟩ := Int.eq_ofNat_of_zero_le h0
  unfold Gives
  have hconv : (convert 22 9 (.slice (some ⟨w.heap.size, 0, none⟩) 1 1)).run Try.prog (w.alloc (.cells #[.int .u8 (97 + (n : Int))] 5)) =
      .ok (.string (ltr n)) (w.alloc (.cells #[.int .u8 (97 + (n : Int))] 5)) := by
    refine run_bytes_str _ _ _ 5 Try.underlying22 Try.underlying5 Try.underlying9 _ _ _ _ _ rfl ?_
    intro i hi
    have : i = 0 := by simpa using hi
    subst this
    simp [Nat.toUInt8, UInt8.toNat_ofNat']
    omega
  simp only [Int.toNat_natCast]
  go_enter Try.func33, Try.ntmps33
  go_wp2
  go_ret
  exact ⟨rfl, (Below.refl _ _).alloc (Nat.le_refl _) _⟩

/-- Where the least rotation begins, among the first ones: the first of the least. -/
def leastAt (s : ByteArray) : Nat → Nat
  | 0 => 0
  | k + 1 => if Op.bytesLess (rot s k).toList (rot s (leastAt s k)).toList then k else leastAt s k

theorem leastAt_le (s : ByteArray) (k : Nat) : leastAt s k ≤ k := by
  induction k with
  | zero => simp [leastAt]
  | succ k ih => simp only [leastAt]; split <;> omega

theorem leastAt_lt (s : ByteArray) (k : Nat) (h : 0 < k) : leastAt s k < k := by
  induction k with
  | zero => omega
  | succ k ih =>
    simp only [leastAt]; split
    · omega
    · rcases Nat.eq_zero_or_pos k with h | h
      · subst h; simp [leastAt]
      · have := ih h; omega

theorem rot_zero (s : ByteArray) : rot s 0 = s := by
  simp [rot]

theorem rot_size (s : ByteArray) (r : Nat) (h : r ≤ s.size) : (rot s r).size = s.size := by
  simp [rot, ByteArray.size_append, ByteArray.size_extract]; omega

theorem idx_cast (k n : Nat) (h : k < n) : ((k : Int) % (n : Int)).toNat = k := by
  rw [Int.emod_eq_of_lt (by omega) (by omega)]; simp

end Go.Proofs.Ytgijighdalaemaa
