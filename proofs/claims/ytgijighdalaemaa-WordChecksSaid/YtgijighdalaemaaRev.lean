/- The walk of slices.Reverse at bytes (turned from the worked walk at ints). -/
import Derived.Test.YtgijighdalaemaaRows
import Derived.Test.YtgijighdalaemaaBase
import Derived.Deep.LoopGhost
import Derived.Lib.Walk
import Derived.Lib.SlicesMore
import Derived.RegionTactic
import Derived.Lib.ConvBytes
import Derived.Lib.OwnBridge
namespace Go.Proofs.Ytgijighdalaemaa
open Go.RowKit Go.Sort

/-- A byte as a cell. -/
def encB (c : UInt8) : Value := .int .u8 (c.toNat : Int)

theorem swap_bytes {w wr : World} {n blk off : Nat} {dk : Array UInt8} {i j : Nat} (hi : i < dk.size) (hj : j < dk.size) (hwr : wr = putRow encB (Sort.ahead w n) blk off dk)
    {x y : Value} (hx : x = encB dk[j]!) (hy : y = encB dk[i]!) : ((wr.setCell ⟨blk, off + i, none⟩ x).setCell ⟨blk, off + j, none⟩ y).drew = putRow encB (Sort.ahead w (n + 1)) blk off (swp dk i j) := by
  subst hwr; subst hx; subst hy
  rw [putRow_swp encB _ blk off dk i j hi hj, ← ahead_drew]
  rfl

set_option maxHeartbeats 1600000 in
set_option maxRecDepth 1000000 in
theorem reverse_bytes (blk off cap : Nat) (d : Array UInt8) (w : World) (hH : Holds encB w blk off d) (hsz : d.size ≤ 9223372036854775807) :
    Calls Try.prog 42 #[.slice (some ⟨blk, off, none⟩) d.size cap] w fun e w' => e = .returned (.tuple #[]) ∧ ∃ n, w' = putRow encB (Sort.ahead w n) blk off d.reverse := by
  go_enter Try.func42, Try.ntmps42
  go_wp2
  go_loopg [2, 3] d.size (fun k s2 s3 wr => ∃ (i jn : Nat) (jz : Int) (dk : Array UInt8) (n : Nat), s2 = .int .i64 i ∧ s3 = .int .i64 jz ∧ ((i : Int) < jz → jz = jn ∧ jn < d.size) ∧ (¬ (i : Int) < jz → ¬ i < jn) ∧ jn - i ≤ k ∧
    dk.size = d.size ∧ wr = putRow encB (Sort.ahead w n) blk off dk ∧ reverseLoop i jn dk = reverseLoop 0 (d.size - 1) d)
  case atStart => exact ⟨0, d.size - 1, (d.size : Int) - 1, d, 0, rfl, rfl, fun h => ⟨by omega, by omega⟩, fun h => by omega, by omega, rfl, (putRow_self encB w blk off d hH).symm, rfl⟩
  case round =>
    obtain ⟨i, jn, jz, dk, n, rfl, rfl, h1, h2, hk, hds, hwr, heq⟩ := hrel
    by_cases hlt : (i : Int) < jz
    · obtain ⟨rfl, hjn⟩ := h1 hlt
      have hij : i < jn := by omega
      have hHk : Holds encB wr blk off dk := by rw [hwr]; exact holds_putRow encB _ blk off d dk (holds_ahead encB w n blk off d hH) hds
      obtain ⟨ci, fi⟩ := hHk i (by omega)
      obtain ⟨cj, fj⟩ := hHk jn (by omega)
      simp only [encB] at ci cj
      have A : Aside (wr = putRow encB (Sort.ahead w n) blk off dk) := hwr
      clear hwr hHk hH h1 h2
      go_wp2_with fail
      go_region
      go_wp2
      go_roundg (jn - 1 - (i + 1))
      case measure => omega
      case rel =>
        rw [reverseLoop, if_pos hij] at heq
        exact ⟨i + 1, jn - 1, (jn : Int) - 1, swp dk i jn, n + 1, by simp, rfl, fun h => ⟨by omega, by omega⟩, fun h => by omega, Nat.le_refl _, by rw [size_swp]; exact hds,
          swap_bytes (by omega) (by omega) A.out (by first | rfl | simp [encB, getElem!_pos, show jn < dk.size by omega]) (by first | rfl | simp [encB, getElem!_pos, show i < dk.size by omega]), heq⟩
    · have hnot := h2 hlt
      go_wp2
      go_end0
      refine ⟨rfl, n, ?_⟩
      rw [reverseLoop, if_neg hnot] at heq
      rw [← Lib.reverseLoop_reverse, ← heq]

theorem holds_bytes (w : World) (e : TypeId) (s : ByteArray) : Holds encB (Lib.bytesWorld w e s) w.heap.size 0 s.data := by
  intro j hj
  have hj' : j < s.size := hj
  rw [Nat.zero_add]
  refine ⟨?_, ?_⟩
  · rw [Lib.bytesWorld_cell w e s j hj']
    simp only [encB]
    rw [getElem!_pos s.data j hj, List.getD_eq_getElem?_getD, Array.getElem?_toList, Array.getElem?_eq_getElem hj]
    rfl
  · unfold World.frozen?
    rw [Lib.bytesWorld_at_new]
    have : s.size ≤ (Lib.bytesCells w e s).size := by simp [Lib.bytesCells]
    simp
    omega

theorem below_bytes (w : World) (e : TypeId) (s : ByteArray) : Below w.heap.size w (Lib.bytesWorld w e s) :=
  ⟨rfl, rfl, rfl, by rw [Lib.bytesWorld_size]; omega, fun k hk => Lib.bytesWorld_at_old w e s k hk⟩

/-- A text made of bytes that lie in a row. -/
theorem conv_holds (w : World) (g c n : Nat) (d : Array UInt8) (hn : d.size = n) (h : Holds encB w g 0 d) :
    (convert 22 9 (.slice (some ⟨g, 0, none⟩) n c)).run Try.prog w = .ok (.string ⟨d⟩) w := by
  have := run_bytes_str (P := Try.prog) w 22 9 5 Try.underlying22 Try.underlying5 Try.underlying9 g 0 n c d.toList (by simp [hn]) (fun i hi => by
    have hi' : i < d.size := by simpa using hi
    rw [(h i hi').1]
    simp [encB, getElem!_pos, hi'])
  rw [this]
  rfl

end Go.Proofs.Ytgijighdalaemaa
