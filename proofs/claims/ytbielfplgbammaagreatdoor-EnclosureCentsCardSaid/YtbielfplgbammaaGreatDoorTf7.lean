/- For any size with small coefficients and any number of places, Cents returns the text of its cents, or ErrRange. No condition: the statement holds for every input. -/
import Derived.Test.YtbielfplgbammaaGreatDoorTf6
set_option maxRecDepth 100000
set_option maxHeartbeats 16000000
namespace Go.Proofs.YtbielfplgbammaaGreatDoor
open Go.ChangeShapes Go.WideShapes Go.ChangeAt Go.RowKit
theorem enclosureCents_holds:Rows.EnclosureCentsCardSaid :=
 Claim7.holds_tied_plain_at .later [] [.data, .data, .data, .sentinel, .sentinel] true (true, "b9200d03b209745768cc394bd8a77d2626a7d9aa5e6cbe87beb9833488d81725") true
  Zen (fun _ h=>by cases h) (by as_aux_lemma=>kernel_rfl) (fun _ h=>by cases h) enclosureCents_row_tie rfl ⟨rfl,rfl⟩ (by as_aux_lemma=>kernel_rfl) rfl
  (fun f fn hf hfn=>by
   obtain rfl : f = 7 := Option.some.inj ((show Tryz.prog.funcNamed "schisma/schismalaw14.EnclosureCents" = some 7 by kernel_rfl).symm.trans hf) |>.symm
   obtain rfl:fn=Tryz.f7:=(Option.some.inj (Tryz.func7.symm.trans hfn)).symm;exact⟨by as_aux_lemma=>kernel_rfl,fun j t ht=>by
    rw[Tryz.params7] at ht;have hm:t∈[5,26,3]:=by simpa using Array.mem_of_getElem? ht
    have GI:([5,26,3].all fun u => !Tryz.prog.wantsStandIn u)=true:=by kernel_rfl
    exact(show Tryz.prog.wantsStandIn t=false by simpa using List.all_eq_true.1 GI t hm)⟩)
  (by as_aux_lemma=>kernel_rfl)
#print axioms enclosureCents_holds
end Go.Proofs.YtbielfplgbammaaGreatDoor
