/- For any three plans of temperaments over the same primes, the ranks of join and meet add up to those of both; both refine the join, the meet refines both, and what both refine is refined by the join. No condition: the statement holds for every input. -/
import Derived.Test.YtepicfdhphiiaaaGreatDoorUe1
set_option maxRecDepth 100000
set_option maxHeartbeats 16000000
/- For any three plans of temperaments over the same primes, the ranks of join and meet add up to those of both; both refine the join, the meet refines both, and what both refine is refined by the join. No condition: the statement holds for every input. -/
namespace Go.Proofs.YtepicfdhphiiaaaGreatDoor
open Go.ChangeShapes Go.WideShapes Go.ChangeAt Go.RowKit

theorem topRanksAddUp_holds : Rows.TopRanksAddUpCardSaid :=
  Claim7.holds_tied_plain_at .later [] [.data, .data, .data, .sentinel, .sentinel] true (true, "166bba04c8fb45ec300ca333ba64e2c6ab140cfc0899e1b3c4db06436502d665") true
    topRanksAddUp_row (fun _ h => by cases h) (by as_aux_lemma => kernel_rfl) (fun _ h => by cases h) topRanksAddUp_row_tie rfl ⟨rfl, rfl⟩ (by as_aux_lemma => kernel_rfl) rfl
    (fun f fn hf hfn => by
      obtain rfl : f = 4 := Option.some.inj ((show Tryz.prog.funcNamed "schisma/schismatop.TopRanksAddUp" = some 4 by kernel_rfl).symm.trans hf) |>.symm
      obtain rfl : fn = Tryz.f4 := (Option.some.inj (Tryz.func4.symm.trans hfn)).symm
      exact ⟨by as_aux_lemma => kernel_rfl, fun j t ht => by
        rw [Tryz.params4] at ht
        have hm : t ∈ [24, 24, 24] := by simpa using Array.mem_of_getElem? ht
        have hall : ([24, 24, 24].all fun u => !Tryz.prog.wantsStandIn u) = true := by kernel_rfl
        exact (show Tryz.prog.wantsStandIn t = false by simpa using List.all_eq_true.1 hall t hm)⟩)
    (by as_aux_lemma => kernel_rfl)
#print axioms topRanksAddUp_holds
end Go.Proofs.YtepicfdhphiiaaaGreatDoor
