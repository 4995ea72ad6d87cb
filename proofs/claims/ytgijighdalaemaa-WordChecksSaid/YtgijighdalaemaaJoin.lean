/- How the arguments of the laws lie in memory: descriptions of words, lists of ints. -/
import Derived.Test.YtgijighdalaemaaWordT
import Derived.ProofKit
import Derived.OpenShut
import Derived.ShutString
import Derived.ChangeOld
import Derived.Lib.SmallJoins
namespace Go.Proofs.Ytgijighdalaemaa
open Go.ChangeShapes Go.WideShapes Go.ChangeAt Go.RowKit Go.Joins

theorem own : ownKnob Try.prog.godebug = none := by kernel_rfl
theorem laidOut : laidOutB Try.prog = true := by kernel_rfl
theorem cells1 : Try.prog.cellsOf 5 = 1 := by kernel_rfl
theorem cells2 : Try.prog.cellsOf 24 = 2 := by kernel_rfl

theorem u8_of_wf {n : Int} (h : (Lit.int .u8 n).wf = true) : ∃ c : UInt8, n = c.toNat := by
  have := bounds_u8 h
  refine ⟨n.toNat.toUInt8, ?_⟩
  rw [u8_toNat _ (by omega)]
  omega

/-- Bytes behind a slice that came in. -/
theorem open_bytes_at {H : Type} {enc : TypeId × Value → H} {W : World} {fuel : Nat} {v : Value} {x : DataW H × List MemPlace}
    (h : DataW.trod enc Try.prog W 0 (fun _ => true) true fuel 22 [v] = some x) :
    ∃ (a : Option Addr) (c : Nat) (l : List UInt8), v = .slice a l.length c ∧ ReadsBytes W a l ∧ l.length ≤ maxLen := by
  rcases open_ints Try.underlying22 Try.underlying5 cells1 h with ⟨hcs, _⟩ | ⟨a, len, cap, zs, hcs, _, hl, hm, hz, _, hcell, hwz⟩
  · simp at hcs
    subst hcs
    exact ⟨none, 0, [], rfl, .inl rfl, Nat.zero_le _⟩
  · simp at hcs
    subst hcs
    simp only [if_true] at hz
    have hu : ∀ i, i < zs.length → ∃ c : UInt8, zs.getD i 0 = c.toNat := fun i hi => by
      rw [List.getD_eq_getElem?_getD, List.getElem?_eq_getElem hi]
      exact u8_of_wf (hwz _ (List.getElem_mem hi))
    refine ⟨some a, cap, (zs.take len).map fun n => n.toNat.toUInt8, by simp; omega, ?_, by simp; omega⟩
    by_cases h0 : len = 0
    · subst h0; exact .inl (by simp)
    · obtain ⟨b, off, rfl, hc⟩ := ints_at hcell (by omega)
      have hb := block_lt_of_cell (hc 0 (by omega))
      refine .inr ⟨b, off, rfl, hb, fun i hi => ?_⟩
      simp only [List.length_map, List.length_take] at hi
      rw [hc i (by omega)]
      obtain ⟨c, hcz⟩ := hu i (by omega)
      have e : ((zs.take len).map fun n => n.toNat.toUInt8)[i]'(by simpa using hi) = c := by
        simp only [List.getElem_map, List.getElem_take]
        have : zs[i]'(by omega) = zs.getD i 0 := by rw [List.getD_eq_getElem?_getD, List.getElem?_eq_getElem (by omega)]; rfl
        rw [this, hcz]
        exact UInt8.toNat_inj.1 (by rw [u8_toNat _ (by have := UInt8.toNat_lt c; omega)]; simp)
      rw [e, hcz]

/-- The description of a word, as it came in. -/
theorem open_letters {H : Type} {enc : TypeId × Value → H} {W : World} {r : Reach} {b0 : Nat} {v : Value} {d : DataW H} {p : List MemPlace}
    (hv : Value.okWide Try.prog W r b0 24 v) (h : DataW.Trod enc Try.prog W 0 (fun _ => true) true 24 v d p) :
    ∃ (a : Option Addr) (c : Nat) (l : List UInt8) (few : UInt8), v = .agg #[.slice a l.length c, .int .u8 few.toNat] ∧ ReadsBytes W a l ∧ l.length ≤ maxLen := by
  obtain ⟨v0, v1, y0, y1, n, rfl, _, _, h0, h1⟩ := open_agg2 Try.underlying24 (by kernel_rfl) cells2 hv h
  obtain ⟨a, c, l, rfl, hr, hl⟩ := open_bytes_at h0
  obtain ⟨m, hm, _, hw⟩ := DataW.trod_int Try.underlying5 h1
  obtain ⟨few, rfl⟩ := u8_of_wf hw
  simp at hm
  subst hm
  exact ⟨a, c, l, few, rfl, hr, hl⟩

end Go.Proofs.Ytgijighdalaemaa
