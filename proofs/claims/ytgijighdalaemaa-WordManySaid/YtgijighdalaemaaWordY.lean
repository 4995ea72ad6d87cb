/- The law on necklaces: what the law's function returns. -/
import Derived.Test.YtgijighdalaemaaNeckC
import Derived.Test.YtgijighdalaemaaWordT
namespace Go.Proofs.Ytgijighdalaemaa
open Go.RowKit

/-- What the law's loop has seen. -/
def Seen (l : List Int) (k : Nat) (wt S : Int) : Prop :=
  (∀ j, j < k → l.getD j 0 ≤ 4) ∧ ((wt = 0 ∧ (∀ j, j < k → 0 ≤ l.getD j 0) ∧ S = sumK l k) ∨ (wt = 3 ∧ ∃ j, j < k ∧ l.getD j 0 < 0 ∧ ∀ i, i < j → 0 ≤ l.getD i 0))

theorem seen_more {l : List Int} {k : Nat} {wt S : Int} (h : Seen l k wt S) (hk : k < l.length) (h4 : l.getD k 0 ≤ 4) (h0 : 0 ≤ l.getD k 0) : Seen l (k + 1) wt (S + l.getD k 0) := by
  refine ⟨fun j hj => ?_, ?_⟩
  · rcases Nat.lt_or_ge j k with h1 | h1
    · exact h.1 j h1
    · rw [show j = k by omega]; exact h4
  · rcases h.2 with ⟨h1, h2, h3⟩ | ⟨h1, j, h2, h3, h5⟩
    · refine .inl ⟨h1, fun j hj => ?_, by rw [sumK_succ l k hk, h3]⟩
      rcases Nat.lt_or_ge j k with h1 | h1
      · exact h2 j h1
      · rw [show j = k by omega]; exact h0
    · exact .inr ⟨h1, j, by omega, h3, h5⟩

theorem seen_neg {l : List Int} {k : Nat} {wt S S' : Int} (h : Seen l k wt S) (hneg : l.getD k 0 < 0) : Seen l (k + 1) 3 S' := by
  refine ⟨fun j hj => ?_, ?_⟩
  · rcases Nat.lt_or_ge j k with h1 | h1
    · exact h.1 j h1
    · rw [show j = k by omega]; omega
  · rcases h.2 with ⟨h1, h2, h3⟩ | ⟨h1, j, h2, h3, h5⟩
    · exact .inr ⟨rfl, k, by omega, hneg, h2⟩
    · exact .inr ⟨rfl, j, by omega, h3, h5⟩

theorem all_of_getD {l : List Int} {P : Int → Prop} (h : ∀ j, j < l.length → P (l.getD j 0)) : ∀ x ∈ l, P x := by
  intro x hx
  obtain ⟨i, hi, rfl⟩ := List.getElem_of_mem hx
  have := h i hi
  rw [List.getD_eq_getElem?_getD, List.getElem?_eq_getElem hi] at this
  exact this

theorem ReadsInts.below {w w' : World} {a : Option Addr} {l : List Int} (h : ReadsInts w a l) (hb : Below w.heap.size w w') : ReadsInts w' a l := by
  rcases h with h | ⟨b, off, h1, h2, h3⟩
  · exact .inl h
  · exact .inr ⟨b, off, h1, Nat.lt_of_lt_of_le h2 hb.size, fun i hi => by rw [hb.cell (p := ⟨b, off + i, none⟩) h2]; exact h3 i hi⟩

set_option maxRecDepth 100000 in
set_option maxHeartbeats 4000000 in
theorem lawNecklaces (w : World) (a : Option Addr) (c : Nat) (l : List Int) (hr : ReadsInts w a l) (hl : l.length ≤ maxLen) :
    Gives Try.prog 5 #[.slice a l.length c] w (.bool true) := by
  unfold Gives
  unfold maxLen at hl
  have Hr := Lib.hid hr
  clear hr
  generalize hn : l.length = n at *
  have Hn := Lib.hid hn
  clear hn
  by_cases h4 : 4 < n
  · have h4' : (4 : Int) < n := by omega
    go_enter Try.func5, Try.ntmps5
    go_wp2_with fail
    refine (known_any _).mono ?_
    rintro e w1 ⟨rfl, hb1⟩
    go_wp2_with fail
    refine (known_any _).mono ?_
    rintro e w2 ⟨rfl, hb2⟩
    go_wp2
    go_ret
    exact ⟨rfl, hb1.trans (hb2.mono hb1.size)⟩
  · have h4' : ¬ (4 : Int) < n := by omega
    go_enter Try.func5, Try.ntmps5
    go_wp2_with fail
    refine (known_any _).mono ?_
    rintro e w1 ⟨rfl, hb1⟩
    have Hb1 := Lib.hid hb1
    clear hb1
    go_wp2_with fail
    go_loop [3, 4, 5] (fun t s i => ∃ (k : Nat) (wt S : Int), k ≤ n ∧ i = .int .i64 k ∧ t = .int .i64 wt ∧ s = .int .i64 S ∧ 0 ≤ S ∧ S ≤ 4 * k ∧ Hid (Seen l k wt S)) (fun _ _ i => n - (intOf i).toNat)
    case atStart => exact ⟨0, 0, 0, Nat.zero_le _, rfl, rfl, rfl, by omega, by omega, ⟨fun j hj => by omega, .inl ⟨rfl, fun j hj => by omega, by simp [sumK]⟩⟩⟩
    case round =>
      obtain ⟨k, wt, S, hk, rfl, rfl, rfl, hS1, hS2, Hs⟩ := hrel
      by_cases hlt : k < n
      · rcases Hr.out with hr | ⟨b, off, rfl, hb, hc⟩
        · have := Hn.out; rw [hr] at this; simp at this; omega
        have cx := hc k (by rw [Hn.out]; exact hlt)
        rw [← Hb1.out.cell (p := ⟨b, off + k, none⟩) hb] at cx
        clear hc
        have Hm := Lib.hid (fun h4 h0 => seen_more Hs.out (by rw [Hn.out]; exact hlt) h4 h0)
        have Hg := Lib.hid (fun h0 => seen_neg (S' := S) Hs.out h0)
        generalize l.getD k 0 = x at *
        by_cases hx4 : 4 < x
        · go_wp2
          go_ret
          exact ⟨rfl, Hb1.out⟩
        · by_cases hx0 : x < 0
          · have hmx : max x 0 = 0 := by omega
            have Hs2 := Lib.hid (Hg.out hx0)
            clear Hm Hg Hs
            go_wp2
            go_round
            case rel => exact ⟨k + 1, 3, S, by omega, by go_num, rfl, rfl, by omega, by omega, Hs2⟩
            case measure => simp [intOf]; omega
          · have hmx : max x 0 = x := by omega
            have Hs2 := Lib.hid (Hm.out (by omega) (by omega))
            clear Hm Hg Hs
            go_wp2
            go_round
            case rel => exact ⟨k + 1, wt, S + x, by omega, by go_num, rfl, rfl, by omega, by omega, Hs2⟩
            case measure => simp [intOf]; omega
      · obtain rfl : k = n := by omega
        obtain ⟨hs4, hs⟩ := Hs.out
        clear Hs
        rcases hs with ⟨rfl, hpos, rfl⟩ | ⟨rfl, j, hj, hneg, hpos⟩
        · have hp : ∀ x ∈ l, 0 ≤ x ∧ x ≤ 4 := all_of_getD (P := fun x => 0 ≤ x ∧ x ≤ 4) (by rw [Hn.out]; exact fun j hj => ⟨hpos j hj, hs4 j hj⟩)
          have hsum : sumK l k = l.sum := by unfold sumK; rw [← Hn.out, List.take_length]
          rw [hsum] at hS1 hS2 ⊢
          have Hp := Lib.hid hp
          clear hpos hs4 hsum hp
          obtain ⟨f, hf⟩ := Int.eq_ofNat_of_zero_le hS1
          rw [hf] at hS1 hS2 ⊢
          have Hf := Lib.hid hf
          clear hf hS1
          have hcs := Lib.hid (capSum_sum l (fun x hx => (Hp.out x hx).1) (by rw [Hf.out]; omega))
          by_cases hz : f = 0
          · subst hz
            have hne := neck_empty w1 a c l (Hr.out.below Hb1.out) (by rw [Hn.out]; omega) (fun x hx => (Hp.out x hx).1) (by rw [hcs.out, Hf.out]; rfl)
            rw [Hn.out] at hne
            have Hne := Lib.hid hne
            clear hne
            go_wp2_with fail
            refine Calls.mono Hne.out ?_
            rintro e w2 ⟨rfl, hb2⟩
            go_wp2
            go_ret
            exact ⟨rfl, Hb1.out.trans (hb2.mono Hb1.out.size)⟩
          · have hz' : ((f : Int) == 0) = false := by simpa using hz
            by_cases h8 : 8 < f
            · have h8' : (8 : Int) < f := by omega
              go_wp2
              go_ret
              exact ⟨rfl, Hb1.out⟩
            · have h8' : ¬ (8 : Int) < f := by omega
              have hng := neck_good w1 a c l (Hr.out.below Hb1.out) (by rw [Hn.out]; omega) (fun x hx => (Hp.out x hx).1) (by rw [hcs.out, Hf.out]; omega) (by rw [hcs.out, Hf.out]; omega)
              rw [Hn.out] at hng
              have Hng := Lib.hid hng
              clear hng
              go_wp2_with fail
              refine Calls.mono Hng.out ?_
              rintro e w2 ⟨h2, hb2⟩
              have Hb2 := Lib.hid (Hb1.out.trans (hb2.mono Hb1.out.size))
              have hfew := neck_few l (by rw [Hn.out]; omega) Hp.out f Hf.out (by omega) (by omega)
              rw [hfew] at h2
              rcases h2 with ⟨h, _⟩ | ⟨_, v, rfl, hown⟩
              · cases h
              have Hown := Lib.hid hown
              obtain ⟨av, cv, rfl⟩ := own_form hown
              have hlen : (brute f l []).length ≤ 5000 := by
                have := (ext_free f f l [] 1 ([], false) rfl (by have := leaves_few l (by rw [Hn.out]; omega) Hp.out f Hf.out (by omega); simpa using this)).2
                have h5 := leaves_few l (by rw [Hn.out]; omega) Hp.out f Hf.out (by omega)
                have e : (neckOf l).1 = (ext f f l [] 1 ([], false)).1 := by unfold neckOf; rw [hcs.out, Hf.out, Int.toNat_natCast]
                rw [← e, hfew] at this
                simp at this
                omega
              have hnk := nk_any f w2 a c l [] (Hr.out.below Hb2.out) (by rw [Hn.out]; omega) (fun x hx => (Hp.out x hx).1) Hf.out (by simp; omega) (by simp; omega)
              rw [Hn.out] at hnk
              have Hnk := Lib.hid hnk
              clear hown hfew hb2 Hng Hb1 hnk
              generalize hB : brute f l [] = B at *
              have HB := Lib.hid hB
              clear hB
              go_wp2_with fail
              refine Calls.mono Hnk.out ?_
              rintro e w3 ⟨v3, rfl, hown3, hb3⟩
              rw [HB.out] at hown3
              have Hb3 := Lib.hid (Hb2.out.trans (hb3.mono Hb2.out.size))
              have hown4 := own_below Hown.out hb3 (Nat.le_refl _)
              have Hown3 := Lib.hid hown3
              have Hown4 := Lib.hid hown4
              obtain ⟨a3, c3, rfl⟩ := own_form hown3
              clear hown3 hown4 hb3 Hnk Hown
              go_wp2_with fail
              refine (same_any w3 _ _ _ _ B B Hown4.out Hown3.out hlen (by omega) true (by simp)).mono ?_
              rintro e w4 ⟨rfl, hb4⟩
              go_wp2
              go_ret
              exact ⟨rfl, Hb3.out.trans (hb4.mono Hb3.out.size)⟩
        · have hne := neck_neg w1 a c l (Hr.out.below Hb1.out) (by rw [Hn.out]; omega) j (by rw [Hn.out]; exact hj) hneg hpos
          rw [Hn.out] at hne
          have Hne := Lib.hid hne
          clear hne hneg hpos hs4
          go_wp2_with fail
          refine Calls.mono Hne.out ?_
          rintro e w2 ⟨rfl, hb2⟩
          go_wp2
          go_ret
          exact ⟨rfl, Hb1.out.trans (hb2.mono Hb1.out.size)⟩

end Go.Proofs.Ytgijighdalaemaa
