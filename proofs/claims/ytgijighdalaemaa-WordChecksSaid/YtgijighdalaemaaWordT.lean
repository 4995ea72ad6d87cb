/- The laws on balanced words and on Christoffel words: what the law's function returns. -/
import Derived.Test.YtgijighdalaemaaWordS
namespace Go.Proofs.Ytgijighdalaemaa
open Go.RowKit

theorem ReadsBytes.below {w w' : World} {a : Option Addr} {l : List UInt8} (h : ReadsBytes w a l) (hb : Below w.heap.size w w') : ReadsBytes w' a l := by
  rcases h with h | ⟨b, off, h1, h2, h3⟩
  · exact .inl h
  · exact .inr ⟨b, off, h1, Nat.lt_of_lt_of_le h2 hb.size, fun i hi => by rw [hb.cell (p := ⟨b, off + i, none⟩) h2]; exact h3 i hi⟩

theorem below_box (w : World) (o : Obj) {w' : World} (h : Below (w.alloc o).heap.size (w.alloc o) w') : Below w.heap.size w w' :=
  ((Below.refl _ _).alloc (Nat.le_refl _) o).trans (h.mono (by simp))

set_option maxRecDepth 100000 in
set_option maxHeartbeats 2000000 in
theorem lawBalances (w : World) (a : Option Addr) (l : List UInt8) (c : Nat) (few : UInt8) (hr : ReadsBytes w a l) (hl : l.length ≤ maxLen) :
    Gives Try.prog 3 #[.agg #[.slice a l.length c, .int .u8 few.toNat]] w (.bool true) := by
  unfold Gives
  have Hr := Lib.hid hr
  have Hl := Lib.hid hl
  clear hr hl
  generalize hn : l.length = n at *
  have Hn := Lib.hid hn
  clear hn
  go_enter Try.func3, Try.ntmps3
  go_wp2_with fail
  refine (known_any _).mono ?_
  rintro e w1 ⟨rfl, hb1⟩
  have k0 : w1.cell? ⟨w.heap.size, 0, none⟩ = some (.slice a n c) := by rw [hb1.cell (p := ⟨w.heap.size, 0, none⟩) (by simp), cell_of_row _ _ _ _ _ _ (heap_alloc_new w _)]; rfl
  have k1 : w1.cell? ⟨w.heap.size, 1, none⟩ = some (.int .u8 few.toNat) := by rw [hb1.cell (p := ⟨w.heap.size, 1, none⟩) (by simp), cell_of_row _ _ _ _ _ _ (heap_alloc_new w _)]; rfl
  have Hb1 := Lib.hid (below_box w _ hb1)
  clear hb1
  go_wp2_with fail
  have hmk := make_any a l c few w1 (Hr.out.below Hb1.out) (by rw [Hn.out]; exact Hl.out)
  rw [Hn.out] at hmk
  refine hmk.mono ?_
  rintro e w2 ⟨rfl, hb2⟩
  have Hb2 := Lib.hid (Hb1.out.trans (hb2.mono Hb1.out.size))
  have Hchk := Lib.hid (chk_mk l few)
  clear hb2 Hb1 k0 k1 hmk
  generalize bs (mk l few) = s at *
  go_wp2_with fail
  refine (balanced_good s _ Hchk.out).mono ?_
  rintro e w3 ⟨h3, hb3⟩
  have Hb3 := Lib.hid (Hb2.out.trans (hb3.mono Hb2.out.size))
  have H3 := Lib.hid h3
  clear hb3 Hb2 h3
  obtain ⟨h0, h1⟩ := chk_zero s Hchk.out
  have Hm := Lib.hid (cnt_length (lb s) (chk_letters s Hchk.out))
  rcases H3.out with ⟨n1, i1, j1, c1, hf, rfl⟩ | ⟨hok, rfl⟩
  · have Hf := Lib.hid hf
    clear hf H3
    go_wp2_with fail
    refine (lbalanced_good s _ Hchk.out).mono ?_
    rintro e w4 ⟨h4, hb4⟩
    have Hb4 := Lib.hid (Hb3.out.trans ((below_box w3 _ hb4).mono Hb3.out.size))
    have hsz := hb4.size
    have z0 := hb4.block w3.heap.size (by simp)
    rw [heap_alloc_new] at z0
    clear hb4 Hb3
    rcases h4 with ⟨n2, i2, j2, c2, hf2, rfl⟩ | ⟨hok2, rfl⟩
    · obtain ⟨rfl, rfl, rfl, rfl⟩ := found_unique (found_iff h0 Hm.out Hf.out) hf2
      have y0 : w4.cell? ⟨w3.heap.size, 0, none⟩ = some (.int .i64 n1) := by rw [cell_of_row _ _ _ _ _ _ z0]; rfl
      have y1 : w4.cell? ⟨w3.heap.size, 1, none⟩ = some (.int .i64 i1) := by rw [cell_of_row _ _ _ _ _ _ z0]; rfl
      have y2 : w4.cell? ⟨w3.heap.size, 2, none⟩ = some (.int .i64 j1) := by rw [cell_of_row _ _ _ _ _ _ z0]; rfl
      have y3 : w4.cell? ⟨w3.heap.size, 3, none⟩ = some (.string (ltr c1)) := by rw [cell_of_row _ _ _ _ _ _ z0]; rfl
      have hlt : w3.heap.size < w4.heap.size := (Array.getElem?_eq_some_iff.1 z0).1
      clear z0 hsz Hf hf2 Hm h0 h1 Hchk
      go_wp2
      go_ret
      exact ⟨rfl, Hb4.out.alloc Hb4.out.size _⟩
    · exact absurd hok2 (found_not_ok (found_iff h0 Hm.out Hf.out))
  · have Hok := Lib.hid hok
    clear hok H3
    go_wp2_with fail
    refine (lbalanced_good s _ Hchk.out).mono ?_
    rintro e w4 ⟨h4, hb4⟩
    have Hb4 := Lib.hid (Hb3.out.trans ((below_box w3 _ hb4).mono Hb3.out.size))
    have hsz := hb4.size
    have z0 := hb4.block w3.heap.size (by simp)
    rw [heap_alloc_new] at z0
    clear hb4 Hb3
    rcases h4 with ⟨n2, i2, j2, c2, hf2, rfl⟩ | ⟨hok2, rfl⟩
    · exact absurd ((okN_iff h0 Hm.out _).1 Hok.out) (found_not_ok hf2)
    · have y0 : w4.cell? ⟨w3.heap.size, 0, none⟩ = some (.int .i64 0) := by rw [cell_of_row _ _ _ _ _ _ z0]; rfl
      have y1 : w4.cell? ⟨w3.heap.size, 1, none⟩ = some (.int .i64 0) := by rw [cell_of_row _ _ _ _ _ _ z0]; rfl
      have y2 : w4.cell? ⟨w3.heap.size, 2, none⟩ = some (.int .i64 0) := by rw [cell_of_row _ _ _ _ _ _ z0]; rfl
      have y3 : w4.cell? ⟨w3.heap.size, 3, none⟩ = some (.string ⟨#[]⟩) := by rw [cell_of_row _ _ _ _ _ _ z0]; rfl
      have hlt : w3.heap.size < w4.heap.size := (Array.getElem?_eq_some_iff.1 z0).1
      clear z0 hsz Hok hok2 Hm h0 h1 Hchk
      go_wp2
      go_ret
      exact ⟨rfl, Hb4.out.alloc Hb4.out.size _⟩

end Go.Proofs.Ytgijighdalaemaa
