/- The walk of the law's known. -/
import Derived.Test.YtgijighdalaemaaWordQ
namespace Go.Proofs.Ytgijighdalaemaa
open Go.RowKit

def w1S : ByteArray := bs [97, 97, 98, 97, 97, 97, 98]
def w2S : ByteArray := bs [97, 97, 98, 98, 97, 97, 98]
def w3S : ByteArray := bs [97, 98, 97, 98, 97, 98]

theorem chk_w1 : chk (lb w1S) = 0 := by decide +kernel
theorem chk_w2 : chk (lb w2S) = 0 := by decide +kernel
theorem chk_w3 : chk (lb w3S) = 0 := by decide +kernel
theorem least_w1 : leastOf w1S = 3 := by decide +kernel
theorem rot_w1 : rot w1S 3 = ⟨#[97, 97, 97, 98, 97, 97, 98]⟩ := by decide +kernel
theorem chris52 : bs (chrisTo 7 2 7) = ⟨#[97, 97, 97, 98, 97, 97, 98]⟩ := by decide +kernel
theorem neck22 : neckOf [2, 2] = ([[97, 97, 98, 98], [97, 98, 97, 98]], false) := by decide +kernel
theorem sum22 : capSum [2, 2] = 4 := by decide +kernel

instance (s : ByteArray) (n i j c : Nat) : Decidable (bad s n i j c) := by unfold bad; infer_instance

theorem bal_w2 {n i j c : Nat} (h : Found w2S 26 n i j c) : n = 2 ∧ i = 0 ∧ j = 2 ∧ c = 0 := by
  have hb : bad w2S 2 0 2 0 := by decide +kernel
  have hsz : w2S.size = 7 := rfl
  have hn : n ≤ 2 := by
    rcases Nat.lt_or_ge 2 n with h1 | h1
    · exact absurd hb (h.hn 2 (by omega) h1 0 (by omega) 2 (by omega) (by omega) 0 (by omega))
    · exact h1
  have h1 : ∀ i, i < 7 → ∀ j, j < 7 → ∀ c, c < 26 → ¬ bad w2S 1 i j c := by decide +kernel
  have hn2 : n = 2 := by
    have := h.n1
    rcases Nat.lt_or_ge n 2 with h2 | h2
    · obtain rfl : n = 1 := by omega
      exact absurd h.isBad (h1 i (by have := h.ij; have := h.j2; omega) j (by have := h.j2; omega) c h.c2)
    · omega
  subst hn2
  have hi : i = 0 := by
    rcases Nat.eq_zero_or_pos i with h2 | h2
    · exact h2
    · exact absurd hb (h.hi 0 h2 2 (by omega) (by omega) 0 (by omega))
  subst hi
  have h3 : ∀ c, c < 26 → ¬ bad w2S 2 0 1 c := by decide +kernel
  have hj : j = 2 := by
    have := h.ij
    rcases Nat.lt_or_ge 2 j with h2 | h2
    · exact absurd hb (h.hj 2 (by omega) h2 0 (by omega))
    · rcases Nat.lt_or_ge j 2 with h4 | h4
      · obtain rfl : j = 1 := by omega
        exact absurd h.isBad (h3 c h.c2)
      · omega
  subst hj
  refine ⟨rfl, rfl, rfl, ?_⟩
  rcases Nat.eq_zero_or_pos c with h2 | h2
  · exact h2
  · exact absurd hb (h.hc 0 h2)

theorem bal_w2_out {w w' : World} {e : Ending} (h : BalOut w2S w e w') : e = .returned (.tuple #[.bool false, .agg #[.int .i64 2, .int .i64 0, .int .i64 2, .string ⟨#[97]⟩], .int .i64 0]) ∧ Below w.heap.size w w' := by
  refine ⟨?_, h.2⟩
  rcases h.1 with ⟨n, i, j, c, hf, rfl⟩ | ⟨hok, rfl⟩
  · obtain ⟨rfl, rfl, rfl, rfl⟩ := bal_w2 hf
    rfl
  · exact absurd (show bad w2S 2 0 2 0 by decide +kernel) (hok 2 (by omega) (by decide) 0 (by decide) 2 (by omega) (by decide) 0 (by omega))

set_option maxRecDepth 100000 in
set_option maxHeartbeats 2000000 in
theorem known_any (w : World) : Gives Try.prog 11 #[] w (.bool true) := by
  unfold Gives
  go_enter Try.func11, Try.ntmps11
  go_wp2_with fail
  refine (least_good w1S _ chk_w1).mono ?_
  rw [least_w1, rot_w1]
  rintro e w1 ⟨rfl, hb1⟩
  go_wp2_with fail
  refine (chris_good 5 2 _ (by decide) (by decide)).mono ?_
  rw [chris52]
  rintro e w2 ⟨rfl, hb2⟩
  have Hb2 := Lib.hid (hb1.trans (hb2.mono hb1.size))
  clear hb1 hb2
  go_wp2_with fail
  refine (balanced_good w2S _ chk_w2).mono ?_
  intro e w3 h3
  obtain ⟨rfl, hb3⟩ := bal_w2_out h3
  have Hb3 := Lib.hid (Hb2.out.trans (hb3.mono Hb2.out.size))
  clear h3 hb3 Hb2
  go_wp2_with fail
  refine (neck_good _ (some ⟨w3.heap.size + 1, 0, none⟩) 2 [2, 2] (.inr ⟨_, 0, rfl, by simp, ?hcells⟩) (by decide) (by decide) (by rw [sum22]; decide) (by rw [sum22]; decide)).mono ?_
  case hcells =>
    intro i hi
    have hh := heap_alloc_new (w3.alloc (.cells #[.int .i64 2, .int .i64 0, .int .i64 2, .string ⟨#[97]⟩] 28)) (.cells #[.int .i64 2, .int .i64 2] 3)
    rw [show (w3.alloc (.cells #[.int .i64 2, .int .i64 0, .int .i64 2, .string ⟨#[97]⟩] 28)).heap.size = w3.heap.size + 1 by simp] at hh
    rw [cell_of_row _ _ _ _ _ _ hh]
    match i, hi with
    | 0, _ => rfl
    | 1, _ => rfl
  intro e w4 h4
  obtain ⟨h4, hb4⟩ := h4
  rw [neck22] at h4
  obtain ⟨v, rfl, hown⟩ : ∃ v, e = .returned (.tuple #[v, .int .i64 0]) ∧ w4.ownsRow _ 9 1 v 2 (strs [[97, 97, 98, 98], [97, 98, 97, 98]]) := by
    rcases h4 with ⟨h, _⟩ | ⟨_, h⟩
    · cases h
    · exact h
  obtain ⟨g, cap, rfl, hg1, hg2, hg3, hg4, hg5⟩ := own_open hown (by decide)
  have x0 : w4.cell? ⟨g, 0, none⟩ = some (.string ⟨#[97, 97, 98, 98]⟩) := hg4 0 (by decide)
  have x1 : w4.cell? ⟨g, 1, none⟩ = some (.string ⟨#[97, 98, 97, 98]⟩) := hg4 1 (by decide)
  have hW := hb4.block w3.heap.size (by simp; omega)
  have hWB : w4.heap[w3.heap.size]? = some (.cells #[.int .i64 2, .int .i64 0, .int .i64 2, .string ⟨#[97]⟩] 28 (0, 0)) := by
    rw [hW, heap_alloc2_old]
  have Hb4 : Hid (Below w.heap.size w w4) := Hb3.out.trans ((((Below.refl _ _).alloc (Nat.le_refl _) _).alloc (by simp) _).trans (hb4.mono (by simp; omega)) |>.mono Hb3.out.size)
  have HWB := Lib.hid hWB
  have hgW : w3.heap.size < w4.heap.size := (Array.getElem?_eq_some_iff.1 hWB).1
  have Hx0 := Lib.hid x0
  have Hx1 := Lib.hid x1
  clear hown hg4 hg5 hW hWB hb4 h4 Hb3 x0 x1
  go_wp2_with fail
  refine (prim_upto w3S _ chk_w3 2 (by decide) (by decide) ?_ _ (.inl ⟨by decide, ⟨by decide +kernel, by decide +kernel⟩, rfl⟩)).mono ?_
  · intro m h1 h2
    obtain rfl : m = 1 := by omega
    exact fun h => absurd h.2 (by decide +kernel)
  rintro e w5 ⟨rfl, hb5⟩
  have x0 : w5.cell? ⟨g, 0, none⟩ = some (.string ⟨#[97, 97, 98, 98]⟩) := by rw [hb5.cell (p := ⟨g, 0, none⟩) hg2]; exact Hx0.out
  have x1 : w5.cell? ⟨g, 1, none⟩ = some (.string ⟨#[97, 98, 97, 98]⟩) := by rw [hb5.cell (p := ⟨g, 1, none⟩) hg2]; exact Hx1.out
  have hWB5 : w5.heap[w3.heap.size]? = some (.cells #[.int .i64 2, .int .i64 0, .int .i64 2, .string ⟨#[97]⟩] 28 (0, 0)) := by rw [hb5.block _ hgW]; exact HWB.out
  have y0 : w5.cell? ⟨w3.heap.size, 0, none⟩ = some (.int .i64 2) := by rw [cell_of_row _ _ _ _ _ _ hWB5]; rfl
  have y1 : w5.cell? ⟨w3.heap.size, 1, none⟩ = some (.int .i64 0) := by rw [cell_of_row _ _ _ _ _ _ hWB5]; rfl
  have y2 : w5.cell? ⟨w3.heap.size, 2, none⟩ = some (.int .i64 2) := by rw [cell_of_row _ _ _ _ _ _ hWB5]; rfl
  have y3 : w5.cell? ⟨w3.heap.size, 3, none⟩ = some (.string ⟨#[97]⟩) := by rw [cell_of_row _ _ _ _ _ _ hWB5]; rfl
  have Hb5 := Lib.hid (Hb4.out.trans (hb5.mono Hb4.out.size))
  clear Hx0 Hx1 HWB hWB5 hb5 Hb4
  have ex : w3S.extract 0 2 = ⟨#[97, 98]⟩ := by decide +kernel
  have es : (w3S.size : Int) / (2 : Nat) = 3 := by decide +kernel
  rw [ex, es]
  clear ex es
  go_wp2
  go_ret
  exact ⟨rfl, Hb5.out⟩

end Go.Proofs.Ytgijighdalaemaa
