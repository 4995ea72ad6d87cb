/- For any two described intervals the proof of their order has the sign of the comparison of their fractions as products of integers; the checker accepts it. No condition: the statement holds for every input. -/
import Derived.Test.YtbielfplgbammaaGreatDoorTe6
set_option maxRecDepth 100000
set_option maxHeartbeats 16000000
namespace Go.Proofs.YtbielfplgbammaaGreatDoor
open Go.ChangeShapes Go.WideShapes Go.ChangeAt Go.RowKit
theorem topIntervalsAreFractions_holds:Rows.TopIntervalsAreFractionsCardSaid :=
 Claim7.holds_tied_plain_at .later [] [.data, .data, .data, .sentinel, .sentinel] true (true, "b9200d03b209745768cc394bd8a77d2626a7d9aa5e6cbe87beb9833488d81725") true
  Zam (fun _ h=>by cases h) (by as_aux_lemma=>kernel_rfl) (fun _ h=>by cases h) topIntervalsAreFractions_row_tie rfl ⟨rfl,rfl⟩ (by as_aux_lemma=>kernel_rfl) rfl
  (fun f fn hf hfn=>by
   obtain rfl : f = 3 := Option.some.inj ((show Tryz.prog.funcNamed "schisma/schismatop.TopIntervalsAreFractions" = some 3 by kernel_rfl).symm.trans hf) |>.symm
   obtain rfl:fn=Tryz.f3:=(Option.some.inj (Tryz.func3.symm.trans hfn)).symm;exact⟨by as_aux_lemma=>kernel_rfl,fun j t ht=>by
    rw[Tryz.params3] at ht;have hm:t∈[28]:=by simpa using Array.mem_of_getElem? ht
    have gW:([28].all fun u => !Tryz.prog.wantsStandIn u)=true:=by kernel_rfl
    exact(show Tryz.prog.wantsStandIn t=false by simpa using List.all_eq_true.1 gW t hm)⟩)
  (by as_aux_lemma=>kernel_rfl)
#print axioms topIntervalsAreFractions_holds
end Go.Proofs.YtbielfplgbammaaGreatDoor
