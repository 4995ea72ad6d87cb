/- The walk of word.Necklaces. -/
import Derived.Test.YtgijighdalaemaaWordP
namespace Go.Proofs.Ytgijighdalaemaa
open Go.RowKit

/-- Ints that lie in memory where a slice begins. -/
def ReadsInts (w : World) (a : Option Addr) (l : List Int) : Prop :=
  l = [] ∨ ∃ b off, a = some ⟨b, off, none⟩ ∧ b < w.heap.size ∧ ∀ i, i < l.length → w.cell? ⟨b, off + i, none⟩ = some (.int .i64 (l.getD i 0))

/-- The sum as the program takes it. -/
def capTo (l : List Int) (k : Nat) : Int := (l.take k).foldl (fun n x => min (n + min x 61) 61) 0

theorem capTo_succ (l : List Int) (k : Nat) (h : k < l.length) : capTo l (k + 1) = min (capTo l k + min (l.getD k 0) 61) 61 := by
  have e : l.getD k 0 = l[k] := by rw [List.getD_eq_getElem?_getD, List.getElem?_eq_getElem h]; rfl
  unfold capTo
  rw [List.take_succ_eq_append_getElem h, List.foldl_append, e]; rfl

theorem getD_nonneg {l : List Int} (h : ∀ x ∈ l, 0 ≤ x) (k : Nat) : 0 ≤ l.getD k 0 := by
  rw [List.getD_eq_getElem?_getD]
  cases hk : l[k]? with
  | none => simp
  | some x => exact h x (List.mem_of_getElem? hk)

def capSum (l : List Int) : Int := capTo l l.length

theorem capTo_range (l : List Int) (h : ∀ x ∈ l, 0 ≤ x) (k : Nat) : 0 ≤ capTo l k ∧ capTo l k ≤ 61 := by
  induction k with
  | zero => simp [capTo]
  | succ k ih =>
    by_cases hk : k < l.length
    · rw [capTo_succ l k hk]
      have := getD_nonneg h k
      omega
    · have : capTo l (k + 1) = capTo l k := by simp [capTo, List.take_of_length_le (show l.length ≤ k by omega), List.take_of_length_le (show l.length ≤ k + 1 by omega)]
      rw [this]; exact ih

set_option maxHeartbeats 1000000 in
theorem neck_many (w : World) (a : Option Addr) (n c : Nat) (hn : 26 < n) (hn2 : n ≤ maxLen) :
    Gives Try.prog 17 #[.slice a n c] w (.tuple #[.slice none 0 0, .int .i64 4]) := by
  unfold Gives
  unfold maxLen at hn2
  go_enter Try.func17, Try.ntmps17
  go_wp2
  go_ret2
  exact ⟨rfl, Below.refl _ _⟩

set_option maxHeartbeats 1000000 in
/-- A number less than 0: the first one is at j. -/
theorem neck_neg (w : World) (a : Option Addr) (c : Nat) (l : List Int) (hr : ReadsInts w a l) (hl : l.length ≤ 26) (j : Nat) (hj : j < l.length) (hneg : l.getD j 0 < 0) (hpos : ∀ i, i < j → 0 ≤ l.getD i 0) :
    Gives Try.prog 17 #[.slice a l.length c] w (.tuple #[.slice none 0 0, .int .i64 3]) := by
  unfold Gives
  rcases hr with rfl | ⟨b, off, rfl, hb, hc⟩
  · simp at hj
  have Hc := Lib.hid hc
  have Hpos := Lib.hid hpos
  have Hneg := Lib.hid hneg
  clear hc hpos hneg
  generalize hn : l.length = n at *
  have Hn := Lib.hid hn
  go_enter Try.func17, Try.ntmps17
  go_wp2_with fail
  go_loop [15] (fun i => ∃ k : Nat, k ≤ j ∧ i = .int .i64 k) (fun i => n - (intOf i).toNat)
  case atStart => exact ⟨0, Nat.zero_le _, rfl⟩
  case round =>
    obtain ⟨k, hk, rfl⟩ := hrel
    have hkl : k < l.length := by rw [Hn.out]; omega
    have cx := Hc.out k (by omega)
    by_cases hkj : k = j
    · subst hkj
      have hx := Hneg.out
      clear Hneg Hpos hn
      generalize l.getD k 0 = x at *
      go_wp2
      go_ret2
      exact ⟨rfl, Below.refl _ _⟩
    · have hx := Hpos.out k (by omega)
      clear Hneg Hpos hn
      generalize l.getD k 0 = x at *
      go_wp2
      go_round
      case rel => exact ⟨k + 1, by omega, by go_num⟩
      case measure => simp [intOf]; omega


set_option maxHeartbeats 1000000 in
theorem neck_empty (w : World) (a : Option Addr) (c : Nat) (l : List Int) (hr : ReadsInts w a l) (hl : l.length ≤ 26) (hpos : ∀ x ∈ l, 0 ≤ x) (hz : capSum l = 0) :
    Gives Try.prog 17 #[.slice a l.length c] w (.tuple #[.slice none 0 0, .int .i64 13]) := by
  unfold Gives
  have Hz := Lib.hid hz
  clear hz
  have hcr := capTo_range l hpos
  have Hcr := Lib.hid hcr
  have Hpos := Lib.hid (fun k => getD_nonneg hpos k)
  have Hr := Lib.hid hr
  clear hr hpos hcr
  generalize hn : l.length = n at *
  have Hn := Lib.hid hn
  clear hn
  go_enter Try.func17, Try.ntmps17
  go_wp2_with fail
  go_loop [15] (fun i => ∃ k : Nat, k ≤ n ∧ i = .int .i64 k) (fun i => n - (intOf i).toNat)
  case atStart => exact ⟨0, Nat.zero_le _, rfl⟩
  case round =>
    obtain ⟨k, hk, rfl⟩ := hrel
    by_cases hlt : k < n
    · rcases Hr.out with hr | ⟨b, off, rfl, hb, hc⟩
      · have := Hn.out; rw [hr] at this; simp at this; omega
      have cx := hc k (by rw [Hn.out]; exact hlt)
      have hx := Hpos.out k
      clear hc
      generalize l.getD k 0 = x at *
      go_wp2
      go_round
      case rel => exact ⟨k + 1, by omega, by go_num⟩
      case measure => simp [intOf]; omega
    · obtain rfl : k = n := by omega
      clear hlt hk
      go_wp2_with fail
      go_loop [4, 24] (fun s i => ∃ j : Nat, j ≤ k ∧ i = .int .i64 j ∧ s = .int .i64 (capTo l j)) (fun _ i => k - (intOf i).toNat)
      case atStart => exact ⟨0, Nat.zero_le _, rfl, rfl⟩
      case round =>
        obtain ⟨j, hj, rfl, rfl⟩ := hrel
        by_cases hlt : j < k
        · rcases Hr.out with hr | ⟨b, off, rfl, hb, hc⟩
          · have := Hn.out; rw [hr] at this; simp at this; omega
          have cx := hc j (by rw [Hn.out]; exact hlt)
          have hx := Hpos.out j
          obtain ⟨hs1, hs2⟩ := Hcr.out j
          have Hs := Lib.hid (capTo_succ l j (by rw [Hn.out]; exact hlt))
          clear hc
          generalize l.getD j 0 = x at *
          generalize capTo l j = s at *
          go_wp2
          go_round
          case rel => exact ⟨j + 1, by omega, by go_num, by rw [Hs.out]⟩
          case measure => simp [intOf]; omega
        · obtain rfl : j = k := by omega
          clear hlt hj
          have hz : capTo l j = 0 := by rw [← Hz.out, capSum, Hn.out]
          generalize capTo l j = s at *
          subst hz
          go_wp2
          go_ret2
          exact ⟨rfl, Below.refl _ _⟩

set_option maxHeartbeats 1000000 in
theorem neck_long (w : World) (a : Option Addr) (c : Nat) (l : List Int) (hr : ReadsInts w a l) (hl : l.length ≤ 26) (hpos : ∀ x ∈ l, 0 ≤ x) (hz : 60 < capSum l) :
    Gives Try.prog 17 #[.slice a l.length c] w (.tuple #[.slice none 0 0, .int .i64 16]) := by
  unfold Gives
  have Hz := Lib.hid hz
  clear hz
  have hcr := capTo_range l hpos
  have Hcr := Lib.hid hcr
  have Hpos := Lib.hid (fun k => getD_nonneg hpos k)
  have Hr := Lib.hid hr
  clear hr hpos hcr
  generalize hn : l.length = n at *
  have Hn := Lib.hid hn
  clear hn
  go_enter Try.func17, Try.ntmps17
  go_wp2_with fail
  go_loop [15] (fun i => ∃ k : Nat, k ≤ n ∧ i = .int .i64 k) (fun i => n - (intOf i).toNat)
  case atStart => exact ⟨0, Nat.zero_le _, rfl⟩
  case round =>
    obtain ⟨k, hk, rfl⟩ := hrel
    by_cases hlt : k < n
    · rcases Hr.out with hr | ⟨b, off, rfl, hb, hc⟩
      · have := Hn.out; rw [hr] at this; simp at this; omega
      have cx := hc k (by rw [Hn.out]; exact hlt)
      have hx := Hpos.out k
      clear hc
      generalize l.getD k 0 = x at *
      go_wp2
      go_round
      case rel => exact ⟨k + 1, by omega, by go_num⟩
      case measure => simp [intOf]; omega
    · obtain rfl : k = n := by omega
      clear hlt hk
      go_wp2_with fail
      go_loop [4, 24] (fun s i => ∃ j : Nat, j ≤ k ∧ i = .int .i64 j ∧ s = .int .i64 (capTo l j)) (fun _ i => k - (intOf i).toNat)
      case atStart => exact ⟨0, Nat.zero_le _, rfl, rfl⟩
      case round =>
        obtain ⟨j, hj, rfl, rfl⟩ := hrel
        by_cases hlt : j < k
        · rcases Hr.out with hr | ⟨b, off, rfl, hb, hc⟩
          · have := Hn.out; rw [hr] at this; simp at this; omega
          have cx := hc j (by rw [Hn.out]; exact hlt)
          have hx := Hpos.out j
          obtain ⟨hs1, hs2⟩ := Hcr.out j
          have Hs := Lib.hid (capTo_succ l j (by rw [Hn.out]; exact hlt))
          clear hc
          generalize l.getD j 0 = x at *
          generalize capTo l j = s at *
          go_wp2
          go_round
          case rel => exact ⟨j + 1, by omega, by go_num, by rw [Hs.out]⟩
          case measure => simp [intOf]; omega
        · obtain rfl : j = k := by omega
          clear hlt hj
          have hz : 60 < capTo l j := by have := Hz.out; rw [capSum, Hn.out] at this; exact this
          generalize capTo l j = s at *
          go_wp2
          go_ret2
          exact ⟨rfl, Below.refl _ _⟩


/-- All necklaces that the search finds. -/
def neckOf (l : List Int) : Col := ext (capSum l).toNat (capSum l).toNat l [] 1 ([], false)

theorem capTo_mono (l : List Int) (h : ∀ x ∈ l, 0 ≤ x) (k : Nat) : capTo l k ≤ capTo l (k + 1) := by
  have hr := capTo_range l h k
  by_cases hk : k < l.length
  · rw [capTo_succ l k hk]
    have := getD_nonneg h k
    omega
  · have : capTo l (k + 1) = capTo l k := by simp [capTo, List.take_of_length_le (show l.length ≤ k by omega), List.take_of_length_le (show l.length ≤ k + 1 by omega)]
    omega

theorem capTo_le (l : List Int) (h : ∀ x ∈ l, 0 ≤ x) {i j : Nat} (hij : i ≤ j) : capTo l i ≤ capTo l j := by
  induction hij with
  | refl => exact Int.le_refl _
  | step _ ih => exact Int.le_trans ih (capTo_mono l h _)

theorem small_of_sum (l : List Int) (h : ∀ x ∈ l, 0 ≤ x) (hs : capSum l ≤ 60) : Small 61 l := by
  intro x hx
  obtain ⟨i, hi, rfl⟩ := List.getElem_of_mem hx
  refine ⟨h _ hx, ?_⟩
  have h1 := capTo_le l h (show i + 1 ≤ l.length by omega)
  have h2 := capTo_range l h i
  rw [capTo_succ l i hi] at h1
  have e : l.getD i 0 = l[i] := by rw [List.getD_eq_getElem?_getD, List.getElem?_eq_getElem hi]; rfl
  unfold capSum at hs
  omega

/-- What Necklaces returns. -/
def NeckOut (l : List Int) (w : World) (e : Ending) (w' : World) : Prop :=
  (((neckOf l).2 = true ∧ e = .returned (.tuple #[.slice none 0 0, .int .i64 4])) ∨
   ((neckOf l).2 = false ∧ ∃ v, e = .returned (.tuple #[v, .int .i64 0]) ∧ w'.ownsRow w.heap.size 9 1 v (neckOf l).1.length (strs (neckOf l).1))) ∧ Below w.heap.size w w'

set_option maxHeartbeats 2000000 in
theorem neck_good (w : World) (a : Option Addr) (c : Nat) (l : List Int) (hr : ReadsInts w a l) (hl : l.length ≤ 26) (hpos : ∀ x ∈ l, 0 ≤ x) (hz1 : 1 ≤ capSum l) (hz2 : capSum l ≤ 60) :
    Calls Try.prog 17 #[.slice a l.length c] w (NeckOut l w) := by
  have Hsm := Lib.hid (small_of_sum l hpos hz2)
  have Hz := Lib.hid (show 1 ≤ capSum l ∧ capSum l ≤ 60 from ⟨hz1, hz2⟩)
  have Hl := Lib.hid hl
  clear hz1 hz2
  have hcr := capTo_range l hpos
  have Hcr := Lib.hid hcr
  have Hpos := Lib.hid (fun k => getD_nonneg hpos k)
  have Hr := Lib.hid hr
  clear hr hpos hcr
  generalize hn : l.length = n at *
  have Hn := Lib.hid hn
  clear hn
  go_enter Try.func17, Try.ntmps17
  go_wp2_with fail
  go_loop [15] (fun i => ∃ k : Nat, k ≤ n ∧ i = .int .i64 k) (fun i => n - (intOf i).toNat)
  case atStart => exact ⟨0, Nat.zero_le _, rfl⟩
  case round =>
    obtain ⟨k, hk, rfl⟩ := hrel
    by_cases hlt : k < n
    · rcases Hr.out with hr | ⟨b, off, rfl, hb, hc⟩
      · have := Hn.out; rw [hr] at this; simp at this; omega
      have cx := hc k (by rw [Hn.out]; exact hlt)
      have hx := Hpos.out k
      clear hc
      generalize l.getD k 0 = x at *
      go_wp2
      go_round
      case rel => exact ⟨k + 1, by omega, by go_num⟩
      case measure => simp [intOf]; omega
    · obtain rfl : k = n := by omega
      clear hlt hk
      go_wp2_with fail
      go_loop [4, 24] (fun s i => ∃ j : Nat, j ≤ k ∧ i = .int .i64 j ∧ s = .int .i64 (capTo l j)) (fun _ i => k - (intOf i).toNat)
      case atStart => exact ⟨0, Nat.zero_le _, rfl, rfl⟩
      case round =>
        obtain ⟨j, hj, rfl, rfl⟩ := hrel
        by_cases hlt : j < k
        · rcases Hr.out with hr | ⟨b, off, rfl, hb, hc⟩
          · have := Hn.out; rw [hr] at this; simp at this; omega
          have cx := hc j (by rw [Hn.out]; exact hlt)
          have hx := Hpos.out j
          obtain ⟨hs1, hs2⟩ := Hcr.out j
          have Hs := Lib.hid (capTo_succ l j (by rw [Hn.out]; exact hlt))
          clear hc
          generalize l.getD j 0 = x at *
          generalize capTo l j = s at *
          go_wp2
          go_round
          case rel => exact ⟨j + 1, by omega, by go_num, by rw [Hs.out]⟩
          case measure => simp [intOf]; omega
        · obtain rfl : j = k := by omega
          clear hlt hj
          obtain ⟨N, hN⟩ : ∃ N : Nat, capSum l = N := ⟨(capSum l).toNat, by have := Hz.out.1; omega⟩
          have hz : capTo l j = N := by rw [← hN, capSum, Hn.out]
          have hN1 : 1 ≤ N := by have := Hz.out.1; omega
          have hN2 : N ≤ 60 := by have := Hz.out.2; omega
          have HN := Lib.hid hN
          rw [hz]
          clear hz hN
          rcases Hr.out with hr | ⟨b, off, rfl, hb, hc⟩
          · have h1 := HN.out; rw [hr] at h1; simp [capSum, capTo] at h1; omega
          have Hc := Lib.hid hc
          clear hc
          go_wp2_with fail
          refine (Try.slices_Clone_int b off j c l _ (by rw [Hn.out]; exact Nat.le_refl _) (by omega) Hc.out).mono ?_
          rintro e w1 ⟨v, rfl, hown, hne, hb1⟩
          rw [List.take_of_length_le (by rw [Hn.out]; exact Nat.le_refl _)] at hown
          have hown1 : w1.ownsRow w.heap.size 3 1 v l.length (ints l) := by rw [Hn.out]; exact hown
          obtain ⟨av, cv, rfl⟩ := own_form hown
          have Hown := Lib.hid hown1
          have Hb1 := Lib.hid hb1
          clear hown hown1 hne hb1
          go_wp2_with fail
          have Hmk : Hid (Mk (w1.alloc (.cells #[.slice av j cv, .slice none 0 0, .slice none 0 0, .bool false] 83)) w.heap.size w1.heap.size l [] ([], false) (.slice av j cv) (.slice none 0 0) (.slice none 0 0)) :=
            ⟨heap_alloc_new _ _, Hb1.out.size, Hown.out.alloc _, World.ownsRow_nil .., World.ownsRow_nil ..⟩
          have Hfit : Hid (Fit N N l [] 1 ([], false)) := ⟨hN2, by simp, by omega, by omega, by rw [Hn.out]; exact hl, Hsm.out, by intro x hx; simp at hx, by simp⟩
          have Hbl := Lib.hid (Hb1.out.alloc Hb1.out.size (.cells #[.slice av j cv, .slice none 0 0, .slice none 0 0, .bool false] 83))
          refine (extend_any N _ w.heap.size w1.heap.size N 1 1 l [] ([], false) _ _ _ Hmk.out Hfit.out (by have := Hbl.out.size; omega) (by omega) rfl).mono ?_
          rintro e w2 ⟨rfl, ⟨rv, wv, ov, hmk⟩, hb2⟩
          have HO := Lib.hid (show neckOf l = ext N N l [] 1 ([], false) from by unfold neckOf; rw [HN.out, Int.toNat_natCast])
          rw [← HO.out] at hmk
          have Hb2 := Lib.hid (Hbl.out.trans hb2)
          clear hb2 Hmk Hfit Hbl
          obtain ⟨d0, d1, d2, d3, df⟩ := hmk.cells
          have Hown2 := Lib.hid hmk.ho
          obtain ⟨ao, co, hov⟩ := own_form hmk.ho
          rw [hov] at d2
          cases hfull : (neckOf l).2 with
          | true =>
            rw [hfull] at d3
            have Hfull := Lib.hid hfull
            clear hmk hov df d0 d1 hfull
            go_wp2
            go_ret2
            exact ⟨.inl ⟨Hfull.out, rfl⟩, Hb2.out⟩
          | false =>
            rw [hfull] at d3
            have Hfull := Lib.hid hfull
            rw [hov] at Hown2
            clear hmk hov df d0 d1 hfull
            go_wp2
            go_ret2
            exact ⟨.inr ⟨Hfull.out, _, rfl, Hown2.out⟩, Hb2.out⟩

end Go.Proofs.Ytgijighdalaemaa
