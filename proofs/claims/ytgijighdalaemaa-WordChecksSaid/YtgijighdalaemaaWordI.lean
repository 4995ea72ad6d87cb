/- Walks of word.tally and word.Balanced. -/
import Derived.Test.YtgijighdalaemaaWordH
namespace Go.Proofs.Ytgijighdalaemaa
open Go.RowKit

theorem u8_toNat (n : Nat) (h : n < 256) : n.toUInt8.toNat = n := by simp [Nat.toUInt8, UInt8.toNat_ofNat']; omega

/-- The numbers of all letters in a part of a word, read around. -/
def tal (s : ByteArray) (f n : Nat) : List Int := (List.range 26).map fun c => (partTo s f (97 + c).toUInt8 n : Int)

theorem tal_length (s : ByteArray) (f n : Nat) : (tal s f n).length = 26 := by simp [tal]
theorem tal_get (s : ByteArray) (f n j : Nat) (h : j < (tal s f n).length) : (tal s f n)[j] = (partTo s f (97 + j).toUInt8 n : Int) := by simp [tal]

theorem tal_succ (s : ByteArray) (f n K : Nat) (hK : K ≤ 25) (x : UInt8) (hx : (lb s).getD ((f + n) % s.size) 0 = x) (hxK : x.toNat = 97 + K) :
    tal s f (n + 1) = (tal s f n).set K ((partTo s f x n : Int) + 1) := by
  apply List.ext_getElem
  · simp [tal]
  · intro j h1 h2
    have hj : j < 26 := by simpa [tal] using h1
    rw [tal_get, List.getElem_set]
    simp only [partTo, hx]
    have e : ((97 + j).toUInt8).toNat = 97 + j := u8_toNat _ (by omega)
    by_cases hjk : K = j
    · subst hjk
      have : x = (97 + K).toUInt8 := UInt8.toNat_inj.1 (by rw [e]; exact hxK)
      rw [if_pos this, if_pos rfl, this]; simp
    · have : x ≠ (97 + j).toUInt8 := by intro h; rw [h, e] at hxK; omega
      rw [if_neg this, if_neg hjk, tal_get]; simp

/-- A block that holds a list of ints. -/
def RowAt (w : World) (g : Nat) (T : TypeId) (l : List Int) : Prop := w.heap[g]? = some (.cells (arr l) T (0, 0))

theorem RowAt.cell {w : World} {g : Nat} {T : TypeId} {l : List Int} (h : RowAt w g T l) (j : Nat) (hj : j < l.length) : w.cell? ⟨g, j, none⟩ = some (.int .i64 l[j]) := by
  rw [cell_of_row w g j _ T (0, 0) h, arr_get l j hj]
theorem RowAt.frozen {w : World} {g : Nat} {T : TypeId} {l : List Int} (h : RowAt w g T l) (j : Nat) : w.frozen? ⟨g, j, none⟩ = false := frozen_of_row w g j _ T h
theorem RowAt.store {w : World} {g : Nat} {T : TypeId} {l : List Int} (h : RowAt w g T l) (j : Nat) (x : Int) : RowAt (w.setCell ⟨g, j, none⟩ (.int .i64 x)) g T (l.set j x) := by
  unfold RowAt
  rw [heap_setCell_same w g j _ T _ h, arr_set]

set_option maxHeartbeats 1000000 in
theorem tally_any (s : ByteArray) (f n : Nat) (w : World) (hv : chk (lb s) = 0) (hf : f ≤ 60) (hn : n ≤ 60) :
    Gives Try.prog 34 #[.string s, .int .i64 f, .int .i64 n] w (.agg (arr (tal s f n))) := by
  obtain ⟨h0, h1⟩ := chk_zero s hv
  have Hl := Lib.hid (chk_letters s hv)
  clear hv
  unfold Gives
  go_enter Try.func34, Try.ntmps34
  go_wp2_with fail
  go_loopw [9] (fun i wr => ∃ k : Nat, k ≤ n ∧ i = .int .i64 k ∧ RowAt wr w.heap.size 70 (tal s f k) ∧ Below w.heap.size w wr) (fun i _ => n - (intOf i).toNat)
  case atStart => exact ⟨0, Nat.zero_le _, rfl, heap_alloc_new _ _, (Below.refl _ _).alloc (Nat.le_refl _) _⟩
  case round =>
    obtain ⟨k, hk, rfl, hrow, hbl⟩ := hrel
    have Hrow := Lib.hid hrow
    clear hrow
    by_cases hlt : k < n
    · have hm : (f + k) % s.size < s.size := Nat.mod_lt _ h0
      have hmc : ((f : Int) + k) % (s.size : Int) = ((f + k) % s.size : Nat) := by push_cast; rfl
      have hg := getD_lb s _ hm
      obtain ⟨hr1, hr2⟩ := letter_range s Hl.out _ hm
      obtain ⟨K, hK⟩ : ∃ K : Nat, (s[(f + k) % s.size].toNat : Int) - 97 = K := ⟨s[(f + k) % s.size].toNat - 97, by omega⟩
      have hK2 : K ≤ 25 := by omega
      have Hs := Lib.hid (tal_succ s f k K hK2 _ hg (by omega))
      have hp := partTo_le s f s[(f + k) % s.size] k
      have hkl : K < (tal s f k).length := by rw [tal_length]; omega
      have hc := Hrow.out.cell K hkl
      have e2 : (97 + K).toUInt8 = s[(f + k) % s.size] := UInt8.toNat_inj.1 (by rw [u8_toNat _ (by omega)]; omega)
      rw [tal_get, e2] at hc
      have hfz := Hrow.out.frozen K
      clear hg e2 hkl
      generalize partTo s f s[(f + k) % s.size] k = p at *
      generalize (f + k) % s.size = m at *
      go_wp2
      go_roundw
      case rel => exact ⟨k + 1, by omega, by go_num, by rw [Hs.out]; exact Hrow.out.store K _, hbl.setCell (p := ⟨w.heap.size, K, none⟩) (Nat.le_refl _) _⟩
      case measure => simp [intOf]; omega
    · obtain rfl : k = n := by omega
      go_wp2_with (first | (refine wpList_load_row rfl 70 (.tmp 6) rfl w.heap.size rfl 70 _ (0, 0) _ Hrow.out Try.underlying70 rfl (by rw [arr_size, tal_length]; kernel_rfl) ?_) | (refine wpList_store_row rfl 70 (.tmp 6) (.tmp 26) rfl w.heap.size _ rfl rfl 70 _ Hrow.out (by rw [arr_size, tal_length]; kernel_rfl) rfl (arr_one _) ?_))
      refine bodyPost_ret (results_cell_row rfl _ _ w.heap.size 70 (arr (tal s f k)) (0, 0) _ rfl (setRow_heap _ _ _ _ _ _ Hrow.out) Try.underlying70 rfl (by rw [arr_size, tal_length]; kernel_rfl)) rfl ⟨rfl, below_setRow hbl (Nat.le_refl _) _⟩

end Go.Proofs.Ytgijighdalaemaa
