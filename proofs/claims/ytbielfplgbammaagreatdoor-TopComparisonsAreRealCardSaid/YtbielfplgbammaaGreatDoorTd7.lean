/- For any two described sizes the proof of their order has the sign that Compare returns; the checker and layer 14 accept it, and refuse the opposite one. No condition: the statement holds for every input. -/
import Derived.Test.YtbielfplgbammaaGreatDoorTd6
set_option maxRecDepth 100000
set_option maxHeartbeats 16000000
namespace Go.Proofs.YtbielfplgbammaaGreatDoor
open Go.ChangeShapes Go.WideShapes Go.ChangeAt Go.RowKit
theorem topComparisonsAreReal_holds:Rows.TopComparisonsAreRealCardSaid :=
 Claim7.holds_tied_plain_at .later [] [.data, .data, .data, .sentinel, .sentinel] true (true, "b9200d03b209745768cc394bd8a77d2626a7d9aa5e6cbe87beb9833488d81725") true
  Zby (fun _ h=>by cases h) (by as_aux_lemma=>kernel_rfl) (fun _ h=>by cases h) topComparisonsAreReal_row_tie rfl ⟨rfl,rfl⟩ (by as_aux_lemma=>kernel_rfl) rfl
  (fun f fn hf hfn=>by
   obtain rfl : f = 8 := Option.some.inj ((show Tryz.prog.funcNamed "schisma/schismatop.TopComparisonsAreReal" = some 8 by kernel_rfl).symm.trans hf) |>.symm
   obtain rfl:fn=Tryz.f8:=(Option.some.inj (Tryz.func8.symm.trans hfn)).symm;exact⟨by as_aux_lemma=>kernel_rfl,fun j t ht=>by
    rw[Tryz.params8] at ht;have hm:t∈[28]:=by simpa using Array.mem_of_getElem? ht
    have gY:([28].all fun u => !Tryz.prog.wantsStandIn u)=true:=by kernel_rfl
    exact(show Tryz.prog.wantsStandIn t=false by simpa using List.all_eq_true.1 gY t hm)⟩)
  (by as_aux_lemma=>kernel_rfl)
#print axioms topComparisonsAreReal_holds
end Go.Proofs.YtbielfplgbammaaGreatDoor
