/- schismalaw12.known, Known; schismalaw18.Known. -/
import Derived.Test.YtepicfdhphiiaaaGreatDoorUa5
set_option maxRecDepth 100000
set_option maxHeartbeats 16000000
/- schismalaw12.known, Known; schismalaw18.Known. -/
namespace Go.Proofs.YtepicfdhphiiaaaGreatDoor
open Go.RowKit

theorem known12_any (w : World) (L : Laid w) : Calls Tryz.prog 27 #[] w fun e w' => e = .returned (.bool true) ∧ Below w.heap.size w w' := by
  have HL := Lib.hid (fun W (hW : Below w.heap.size w W) => L.below hW)
  clear L
  obtain ⟨g, hg⟩ : ∃ g, w.heap.size = g := ⟨_, rfl⟩
  obtain ⟨w0, hw0⟩ : ∃ w0, w.alloc (.cells #[.int .i64 2, .int .i64 3, .int .i64 5] 3) = w0 := ⟨_, rfl⟩
  have B0 : Hid (Below w.heap.size w w0) := by rw [← hw0]; exact (Below.refl _ w).alloc (Nat.le_refl _) _
  have R0 : Hid (Rd w0 (some ⟨g, 0, none⟩) (ints [2, 3, 5])) := by rw [← hw0, ← hg]; exact rd_ints (t := 3) (heap_at w _ _ _ rfl)
  go_enter Tryz.func27, Tryz.ntmps27
  go_wp2_with fail
  first | rw [hg, hw0] | rw [hw0] | skip
  clear hw0
  refine Calls.mono (mzOf1 w0 _ 3 R0.out (HL.out w0 B0.out)) ?_
  rintro e w1 ⟨ax, cx, rfl, hx, hb⟩
  have B1 := Lib.hid (B0.out.trans (hb.mono B0.out.size))
  have R1 := Lib.hid (R0.out.below hb (Nat.le_refl _))
  have X1 := Lib.hid hx
  clear hb hx B0 R0
  go_wp2_with fail
  refine Calls.mono (brackets12 w1 _ ax 3 cx R1.out X1.out (HL.out w1 B1.out)) ?_
  rintro e w2 ⟨rfl, hb⟩
  have B2 := Lib.hid (B1.out.trans (hb.mono B1.out.size))
  have R2 := Lib.hid (R1.out.below hb (Nat.le_refl _))
  have X2 := Lib.hid (X1.out.below hb (Nat.le_refl _))
  clear hb B1 R1 X1
  go_wp2_with fail
  refine Calls.mono (text12 w2 _ ax 3 cx R2.out X2.out (HL.out w2 B2.out)) ?_
  rintro e w3 ⟨rfl, hb⟩
  have B3 := Lib.hid (B2.out.trans (hb.mono B2.out.size))
  have R3 := Lib.hid (R2.out.below hb (Nat.le_refl _))
  have X3 := Lib.hid (X2.out.below hb (Nat.le_refl _))
  clear hb B2 R2 X2
  have HPr := product12 w3 (some ⟨g, 0, none⟩) ax 3 cx R3.out X3.out (HL.out w3 B3.out)
  rw [show dec 6480 = ⟨#[54, 52, 56, 48]⟩ from by decide +kernel] at HPr
  have HPr1 := Lib.hid HPr
  clear HPr
  go_wp2_with fail
  refine Calls.mono HPr1.out ?_
  rintro e w4 ⟨rfl, hb⟩
  have B4 := Lib.hid (B3.out.trans (hb.mono B3.out.size))
  have R4 := Lib.hid (R3.out.below hb (Nat.le_refl _))
  have X4 := Lib.hid (X3.out.below hb (Nat.le_refl _))
  clear hb B3 R3 X3 HPr1
  obtain ⟨w5, hw5⟩ : ∃ w5, (w4.alloc (.cells #[.int .i64 (-1), .int .i64 1, .int .i64 0] 3)).alloc (.cells #[.int .i64 3, .int .i64 (-3), .int .i64 1] 3) = w5 := ⟨_, rfl⟩
  have hb : Below w4.heap.size w4 w5 := by rw [← hw5]; exact ((Below.refl _ w4).alloc (Nat.le_refl _) _).alloc (by simp) _
  have Y5 : Hid (Rd w5 (some ⟨w4.heap.size, 0, none⟩) (ints [-1, 1, 0])) := by rw [← hw5]; exact rd_ints (t := 3) (heap_old (heap_at w4 _ _ _ rfl) _)
  have Z5 : Hid (Rd w5 (some ⟨w4.heap.size + 1, 0, none⟩) (ints [3, -3, 1])) := by rw [← hw5]; exact rd_ints (t := 3) (heap_at _ _ _ _ (by simp))
  have B5 := Lib.hid (B4.out.trans (hb.mono B4.out.size))
  have R5 := Lib.hid (R4.out.below hb (Nat.le_refl _))
  have X5 := Lib.hid (X4.out.below hb (Nat.le_refl _))
  clear hb B4 R4 X4
  go_wp2_with fail
  first | rw [hw5] | skip
  clear hw5
  refine Calls.mono (compare12 w5 _ _ _ 3 3 3 R5.out Y5.out Z5.out (HL.out w5 B5.out)) ?_
  rintro e w6 ⟨rfl, hb⟩
  have B6 := Lib.hid (B5.out.trans (hb.mono B5.out.size))
  have R6 := Lib.hid (R5.out.below hb (Nat.le_refl _))
  have X6 := Lib.hid (X5.out.below hb (Nat.le_refl _))
  clear hb B5 R5 X5 Y5 Z5
  go_wp2_with fail
  refine Calls.mono (mzOf2 w6 _ 3 R6.out (HL.out w6 B6.out)) ?_
  rintro e w7 ⟨rfl, hb⟩
  have B7 := Lib.hid (B6.out.trans (hb.mono B6.out.size))
  have X7 := Lib.hid (X6.out.below hb (Nat.le_refl _))
  clear hb B6 R6 X6
  obtain ⟨w8, hw8⟩ : ∃ w8, w7.alloc (.cells #[.int .i64 (-4), .int .i64 4, .int .i64 (-1)] 3) = w8 := ⟨_, rfl⟩
  have hb : Below w7.heap.size w7 w8 := by rw [← hw8]; exact (Below.refl _ w7).alloc (Nat.le_refl _) _
  have Y8 : Hid (Rd w8 (some ⟨w7.heap.size, 0, none⟩) (ints [-4, 4, -1])) := by rw [← hw8]; exact rd_ints (t := 3) (heap_at w7 _ _ _ rfl)
  have B8 := Lib.hid (B7.out.trans (hb.mono B7.out.size))
  have X8 := Lib.hid (X7.out.below hb (Nat.le_refl _))
  clear hb B7 X7
  have HS := same12_any w8 ax (some ⟨w7.heap.size, 0, none⟩) cx 3 [-4, 4, -1] [-4, 4, -1] X8.out Y8.out (by decide)
  rw [decide_eq_true rfl] at HS
  have HS1 : Hid (Gives Tryz.prog 58 #[.slice ax 3 cx, .slice (some ⟨w7.heap.size, 0, none⟩) 3 3] w8 (.bool true)) := HS
  clear HS X8 Y8
  go_wp2_with fail
  first | rw [hw8] | skip
  clear hw8
  refine Calls.mono HS1.out ?_
  rintro e w9 ⟨rfl, hb⟩
  have B9 := Lib.hid (B8.out.trans (hb.mono B8.out.size))
  clear hb HS1 B8
  go_wp2_with fail
  go_ret
  exact ⟨rfl, B9.out⟩

theorem Known12_any (w : World) (L : Laid w) : Calls Tryz.prog 13 #[] w fun e w' => e = .returned (.bool true) ∧ Below w.heap.size w w' := by
  have H := Lib.hid (known12_any w L)
  clear L
  go_enter Tryz.func13, Tryz.ntmps13
  go_wp2_with fail
  refine Calls.mono H.out ?_
  rintro e w1 ⟨rfl, hb⟩
  have B := Lib.hid hb
  clear hb H
  go_wp2_with fail
  go_ret
  exact ⟨rfl, B.out⟩
theorem Known18_any (w : World) (L : Laid w) : Calls Tryz.prog 5 #[] w fun e w' => e = .returned (.bool true) ∧ Below w.heap.size w w' := by
  have H := Lib.hid (known18_any w L)
  have H2 := Lib.hid (fun W (hW : Below w.heap.size w W) => Known12_any W (L.below hW))
  clear L
  go_enter Tryz.func5, Tryz.ntmps5
  go_wp2_with fail
  refine Calls.mono H.out ?_
  rintro e w1 ⟨rfl, hb⟩
  have B := Lib.hid hb
  clear hb H
  go_wp2_with fail
  refine Calls.mono (H2.out w1 B.out) ?_
  rintro e w2 ⟨rfl, hb⟩
  have B2 := Lib.hid (B.out.trans (hb.mono B.out.size))
  clear hb H2
  go_wp2_with fail
  go_ret
  exact ⟨rfl, B2.out⟩

end Go.Proofs.YtepicfdhphiiaaaGreatDoor
