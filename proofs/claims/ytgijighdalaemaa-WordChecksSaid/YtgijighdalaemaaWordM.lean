/- The walk of the law's Make. -/
import Derived.Test.YtgijighdalaemaaWordL
namespace Go.Proofs.Ytgijighdalaemaa
open Go.RowKit

/-- Bytes that lie in memory where a slice begins. -/
def ReadsBytes (w : World) (a : Option Addr) (l : List UInt8) : Prop :=
  l = [] ∨ ∃ b off, a = some ⟨b, off, none⟩ ∧ b < w.heap.size ∧ ∀ i (h : i < l.length), w.cell? ⟨b, off + i, none⟩ = some (.int .u8 (l[i].toNat : Nat))

/-- The letter of a number. -/
def lt4 (few x : UInt8) : Nat := x.toNat % (1 + few.toNat % 4)

/-- The letters of a description. -/
def mkTo (l : List UInt8) (few : UInt8) (k : Nat) : List UInt8 := (l.take k).map fun x => (97 + lt4 few x).toUInt8
def mk (l : List UInt8) (few : UInt8) : List UInt8 := if l = [] then [97] else mkTo l few 14

theorem lt4_le (few x : UInt8) : lt4 few x ≤ 3 := by
  have : lt4 few x < 1 + few.toNat % 4 := Nat.mod_lt _ (by omega)
  omega

theorem mkTo_succ (l : List UInt8) (few : UInt8) (k : Nat) (h : k < l.length) : mkTo l few (k + 1) = mkTo l few k ++ [(97 + lt4 few l[k]).toUInt8] := by
  unfold mkTo
  rw [List.take_succ_eq_append_getElem h, List.map_append]; rfl

set_option maxHeartbeats 2000000 in
theorem make_any (a : Option Addr) (l : List UInt8) (c : Nat) (few : UInt8) (w : World) (hr : ReadsBytes w a l) (hl : l.length ≤ maxLen) :
    Gives Try.prog 12 #[.agg #[.slice a l.length c, .int .u8 few.toNat]] w (.string (bs (mk l few))) := by
  unfold Gives
  unfold maxLen at hl
  have Hr := Lib.hid hr
  clear hr
  generalize hn : l.length = n at *
  have Hn := Lib.hid hn
  clear hn
  go_enter Try.func12, Try.ntmps12
  go_wp2_with fail
  go_loopw [3, 4] (fun s i wr => ∃ k : Nat, k ≤ n ∧ k ≤ 14 ∧ i = .int .i64 k ∧ s = .string (bs (mkTo l few k)) ∧ Hid (wr.heap[w.heap.size]? = some (.cells #[.slice a n c, .int .u8 few.toNat] 24 (0, 0)) ∧ Below w.heap.size w wr)) (fun _ i _ => n - (intOf i).toNat)
  case atStart => exact ⟨0, Nat.zero_le _, by omega, rfl, rfl, heap_alloc_new _ _, (Below.refl _ _).alloc (Nat.le_refl _) _⟩
  case round =>
    obtain ⟨k, hk, hk14, rfl, rfl, Hw⟩ := hrel
    have c0 : wr.cell? ⟨w.heap.size, 0, none⟩ = some (.slice a n c) := by rw [cell_of_row _ _ _ _ _ _ Hw.out.1]; rfl
    have c1 : wr.cell? ⟨w.heap.size, 1, none⟩ = some (.int .u8 few.toNat) := by rw [cell_of_row _ _ _ _ _ _ Hw.out.1]; rfl
    by_cases hlt : k < n
    · by_cases h14 : k < 14
      · rcases Hr.out with hr | ⟨b, off, rfl, hb, hcells⟩
        · have h1 := Hn.out; rw [hr] at h1; simp at h1; omega
        have hkl : k < l.length := by rw [Hn.out]; exact hlt
        have c2 : wr.cell? ⟨b, off + k, none⟩ = some (.int .u8 (l[k].toNat : Nat)) := by rw [Hw.out.2.cell (p := ⟨b, off + k, none⟩) hb]; exact hcells k hkl
        have hf : few.toNat < 256 := UInt8.toNat_lt _
        have hx : l[k].toNat < 256 := UInt8.toNat_lt _
        have k0 := cell_regrown c0
        have k1 := cell_regrown c1
        have k2 := cell_regrown c2
        have hlt4 := lt4_le few l[k]
        have hL : ∀ d os, Calls Try.prog 33 #[.int .i64 ((l[k].toNat : Int) % (1 + (few.toNat : Int) % 4))] (Go.Sort.grow (redrawn wr d) os) fun e w'' => e = .returned (.string (ltr (lt4 few l[k]))) ∧ ∃ p : Regrown, w'' = Go.Sort.grow (redrawn wr p.d) p.os := fun d os => Calls.regrown_of (by
          have := letter_any ((lt4 few l[k] : Nat) : Int) (Go.Sort.grow (redrawn wr d) os) (by omega) (by omega)
          rw [Int.toNat_natCast] at this
          simpa [lt4, Gives] using this)
        have hst := Lib.hid (mkTo_succ l few k hkl)
        have hsl : (mkTo l few k).length ≤ 14 := by simp [mkTo]; omega
        have hls : (ltr (lt4 few l[k])).size = 1 := rfl
        go_wp2_with fail
        refine wp_region_quiet_below (by kernel_rfl) (by kernel_rfl) ?_
        repeat (first | go_big_quiet_step (exact hL _ _) | quiet_step (exact hL _ _))
        refine wpQuiet_nil ?_
        intro w2 hw2
        obtain ⟨⟨dq, osq⟩, rfl⟩ := hw2
        have Hw2 := Lib.hid (show (Go.Sort.grow (redrawn wr dq) osq).heap[w.heap.size]? = some (.cells #[.slice (some ⟨b, off, none⟩) n c, .int .u8 few.toNat] 24 (0, 0)) ∧ Below w.heap.size w (Go.Sort.grow (redrawn wr dq) osq) from
          ⟨by rw [(below_regrown wr dq osq).block _ (Array.getElem?_eq_some_iff.1 Hw.out.1).1]; exact Hw.out.1, Hw.out.2.trans ((below_regrown wr dq osq).mono Hw.out.2.size)⟩)
        generalize Go.Sort.grow (redrawn wr dq) osq = w2 at *
        clear hL k0 k1 k2 c0 c1 c2 Hw
        go_wp2
        go_roundw
        case rel => exact ⟨k + 1, by omega, by omega, by go_num, by rw [hst.out, ← bs_append]; rfl, Hw2⟩
        case measure => simp [intOf]; omega
      · obtain rfl : k = 14 := by omega
        have hbsz : (mkTo l few 14).length = 14 := by simp [mkTo]; have := Hn.out; omega
        have e0 : (bs (mkTo l few 14)).toList.isEmpty = false := isEmpty_false _ (by rw [bs_size, hbsz]; decide)
        have Hm := Lib.hid (show mk l few = mkTo l few 14 from if_neg (fun h => by rw [h] at hbsz; simp [mkTo] at hbsz))
        go_wp2
        go_ret
        exact ⟨ret_str (by rw [Hm.out]), Hw.out.2⟩
    · obtain rfl : k = n := by omega
      rcases Nat.eq_zero_or_pos k with h0 | h0
      · subst h0
        have hle := List.eq_nil_of_length_eq_zero Hn.out
        have e0 : (bs (mkTo l few 0)).toList.isEmpty = true := by rw [toList_lb, lb_bs]; rfl
        have Hm := Lib.hid (show mk l few = [97] from if_pos hle)
        clear hle
        go_wp2
        go_ret
        exact ⟨ret_str (by rw [Hm.out]; rfl), Hw.out.2⟩
      · have hbsz : (mkTo l few k).length = k := by simp [mkTo]; have := Hn.out; omega
        have e0 : (bs (mkTo l few k)).toList.isEmpty = false := isEmpty_false _ (by rw [bs_size, hbsz]; exact h0)
        have Hm := Lib.hid (show mk l few = mkTo l few k from (if_neg (fun h => by have := Hn.out; rw [h] at this; simp at this; omega)).trans (by unfold mkTo; rw [List.take_of_length_le (by have := Hn.out; omega), List.take_of_length_le (by have := Hn.out; omega)]))
        go_wp2
        go_ret
        exact ⟨ret_str (by rw [Hm.out]), Hw.out.2⟩

end Go.Proofs.Ytgijighdalaemaa
