/- For any described word and any described sizes, Build returns the scale whose steps they are, and Of the word again, or ErrSize. No condition: the statement holds for every input. -/
import Derived.Test.YtbielfplgbammaaGreatDoorWl5
set_option maxRecDepth 100000
set_option maxHeartbeats 16000000
namespace Go.Proofs.YtbielfplgbammaaGreatDoor
open Go.ChangeShapes Go.WideShapes Go.ChangeAt Go.RowKit
theorem wordBuilds_holds:Rows.WordBuildsCardSaid :=
 Claim7.holds_tied_plain_at .later [] [.data, .data, .data, .sentinel, .sentinel] true (true, "b9200d03b209745768cc394bd8a77d2626a7d9aa5e6cbe87beb9833488d81725") true
  Zh0 (fun _ h=>by cases h) (by as_aux_lemma=>kernel_rfl) (fun _ h=>by cases h) wordBuilds_row_tie rfl ⟨rfl,rfl⟩ (by as_aux_lemma=>kernel_rfl) rfl
  (fun f fn hf hfn=>by
   obtain rfl : f = 6 := Option.some.inj ((show Tryz.prog.funcNamed "schisma/schismalaw34.WordBuilds" = some 6 by kernel_rfl).symm.trans hf) |>.symm
   obtain rfl:fn=Tryz.f6:=(Option.some.inj (Tryz.func6.symm.trans hfn)).symm;exact⟨by as_aux_lemma=>kernel_rfl,fun j t ht=>by
    rw[Tryz.params6] at ht;have hm:t∈[83,86]:=by simpa using Array.mem_of_getElem? ht
    have hall:([83,86].all fun u => !Tryz.prog.wantsStandIn u)=true:=by kernel_rfl
    exact(show Tryz.prog.wantsStandIn t=false by simpa using List.all_eq_true.1 hall t hm)⟩)
  (by as_aux_lemma=>kernel_rfl)
#print axioms wordBuilds_holds
end Go.Proofs.YtbielfplgbammaaGreatDoor
