/- Walks of the law's same and necklaces. -/
import Derived.Test.YtgijighdalaemaaNeckA
namespace Go.Proofs.Ytgijighdalaemaa
open Go.RowKit

theorem strs_cell {w : World} {B n c : Nat} {a : Option Addr} {l : List (List UInt8)} (h : w.ownsRow B 9 1 (.slice a n c) n (strs l)) (hn : 0 < n) :
    ∃ g, a = some ⟨g, 0, none⟩ ∧ B ≤ g ∧ g < w.heap.size ∧ n ≤ c ∧ ∀ j, j < n → w.cell? ⟨g, j, none⟩ = some (.string (bs (l.getD j []))) := by
  have hl : l.length = n := by have := h.1; rw [strs_length] at this; omega
  obtain ⟨g, cap, hv, h1, h2, h3, h4, h5⟩ := own_open h hn
  simp only [Value.slice.injEq] at hv
  obtain ⟨rfl, -, rfl⟩ := hv
  refine ⟨g, rfl, h1, h2, h3, fun j hj => ?_⟩
  rw [h4 j (by omega), strs_get l j (by omega), List.getD_eq_getElem?_getD, List.getElem?_eq_getElem (by omega)]
  rfl

set_option maxHeartbeats 1000000 in
theorem same_any (w : World) (B1 B2 : Nat) (v1 v2 : Value) (l m : List (List UInt8)) (h1 : w.ownsRow B1 9 1 v1 l.length (strs l)) (h2 : w.ownsRow B2 9 1 v2 m.length (strs m)) (hl : l.length ≤ 5000) (hm : m.length ≤ 1000000) (r : Bool) (hr : r = decide (l = m)) :
    Gives Try.prog 18 #[v1, v2] w (.bool r) := by
  unfold Gives
  obtain ⟨a1, c1, rfl⟩ := own_form h1
  obtain ⟨a2, c2, rfl⟩ := own_form h2
  by_cases hlen : l.length = m.length
  · rw [← hlen] at h2 ⊢
    have Hlen := Lib.hid hlen
    have Hr := Lib.hid hr
    have H1 := Lib.hid h1
    have H2 := Lib.hid h2
    generalize hn : l.length = n at *
    have Hn := Lib.hid hn
    have hnn : ((n : Int) != n) = false := by simp
    clear hlen hr h1 h2 hn hm
    go_enter Try.func18, Try.ntmps18
    go_wp2_with fail
    go_loopw [5] (fun i wr => ∃ k : Nat, k ≤ n ∧ i = .int .i64 k ∧ Hid (∀ j, j < k → l.getD j [] = m.getD j []) ∧ Hid (Below w.heap.size w wr)) (fun i _ => n - (intOf i).toNat)
    case atStart => exact ⟨0, Nat.zero_le _, rfl, fun j hj => by omega, Below.refl _ _⟩
    case round =>
      obtain ⟨k, hk, rfl, Heq, Hb⟩ := hrel
      by_cases hlt : k < n
      · obtain ⟨g1, rfl, hg1, hg2, hg3, hc1⟩ := strs_cell H1.out (by omega)
        obtain ⟨g2, rfl, hg4, hg5, hg6, hc2⟩ := strs_cell H2.out (by omega)
        have x1 : wr.cell? ⟨g1, k, none⟩ = some (.string (bs (l.getD k []))) := by rw [Hb.out.cell (p := ⟨g1, k, none⟩) hg2]; exact hc1 k hlt
        have x2 : wr.cell? ⟨g2, k, none⟩ = some (.string (bs (m.getD k []))) := by rw [Hb.out.cell (p := ⟨g2, k, none⟩) hg5]; exact hc2 k hlt
        clear hc1 hc2
        by_cases he : l.getD k [] = m.getD k []
        · have hq : ((bs (l.getD k [])).toList == (bs (m.getD k [])).toList) = true := by rw [he]; simp
          have Heq2 : Hid (∀ j, j < k + 1 → l.getD j [] = m.getD j []) := fun j hj => by
            rcases Nat.lt_or_ge j k with h | h
            · exact Heq.out j h
            · rw [show j = k by omega]; exact he
          clear he Heq
          generalize bs (l.getD k []) = s1 at *
          generalize bs (m.getD k []) = s2 at *
          go_wp2_with fail
          go_quiet (fail)
          have Hb2 : Hid (Below w.heap.size w (wr.drewN nq)) := below_dn Hb.out _
          clear Hb
          go_wp2
          go_roundw
          case rel => exact ⟨k + 1, by omega, by go_num, Heq2, Hb2⟩
          case measure => simp [intOf]; omega
        · have hq : ((bs (l.getD k [])).toList == (bs (m.getD k [])).toList) = false := by
            rw [toList_lb, toList_lb, lb_bs, lb_bs, beq_eq_false_iff_ne]; exact he
          have Hf : Hid (r = false) := by
            show r = false
            rw [Hr.out, decide_eq_false_iff_not]
            rintro rfl; exact he rfl
          clear he Heq
          generalize bs (l.getD k []) = s1 at *
          generalize bs (m.getD k []) = s2 at *
          go_wp2_with fail
          go_quiet (fail)
          have Hb2 : Hid (Below w.heap.size w (wr.drewN nq)) := below_dn Hb.out _
          clear Hb
          go_wp2
          go_ret
          exact ⟨by rw [Hf.out]; rfl, Hb2.out⟩
      · obtain rfl : k = n := by omega
        have Hf : Hid (r = true) := by
          show r = true
          rw [Hr.out, decide_eq_true_eq]
          apply List.ext_getElem (by have := Hlen.out; have := Hn.out; omega)
          intro j hj1 hj2
          have := Heq.out j (by have := Hn.out; omega)
          rw [List.getD_eq_getElem?_getD, List.getD_eq_getElem?_getD, List.getElem?_eq_getElem hj1, List.getElem?_eq_getElem hj2] at this
          exact this
        go_wp2
        go_ret
        exact ⟨by rw [Hf.out]; rfl, Hb.out⟩
  · have hf : r = false := by
      rw [hr, decide_eq_false_iff_not]
      rintro rfl; exact hlen rfl
    subst hf
    clear hr
    generalize l.length = n at *
    generalize m.length = k at *
    have hq : (decide (n = k)) = false := by simpa using hlen
    clear h1 h2
    go_enter Try.func18, Try.ntmps18
    go_wp2
    go_ret
    exact ⟨rfl, Below.refl _ _⟩

end Go.Proofs.Ytgijighdalaemaa
