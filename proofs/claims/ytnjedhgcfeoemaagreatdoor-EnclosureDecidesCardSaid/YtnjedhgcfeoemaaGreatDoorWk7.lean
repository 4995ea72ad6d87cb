/- For any size with small coefficients, Decide returns the proof with the least bits, which Verify accepts, and one with more bits, but none with fewer. No condition: the statement holds for every input. -/
import Derived.Test.YtnjedhgcfeoemaaGreatDoorWk6
set_option maxRecDepth 100000
set_option maxHeartbeats 16000000
namespace Go.Proofs.YtnjedhgcfeoemaaGreatDoor
open Go.ChangeShapes Go.WideShapes Go.ChangeAt Go.RowKit
theorem enclosureDecides_holds:Rows.EnclosureDecidesCardSaid :=
 Claim7.holds_tied_plain_at .later [] [.data, .data, .data, .sentinel, .sentinel] true (true, "ba4f0ebd937b8c478f6b8602b07dc9ed40b3407eab14e232b02ef4da435dc970") true
  Zdb (fun _ h=>by cases h) (by as_aux_lemma=>kernel_rfl) (fun _ h=>by cases h) enclosureDecides_row_tie rfl ⟨rfl,rfl⟩ (by as_aux_lemma=>kernel_rfl) rfl
  (fun f fn hf hfn=>by
   obtain rfl : f = 14 := Option.some.inj ((show Tryz.prog.funcNamed "schisma/schismalaw14.EnclosureDecides" = some 14 by kernel_rfl).symm.trans hf) |>.symm
   obtain rfl:fn=Tryz.f14:=(Option.some.inj (Tryz.func14.symm.trans hfn)).symm;exact⟨by as_aux_lemma=>kernel_rfl,fun j t ht=>by
    rw[Tryz.params14] at ht;have hm:t∈[5,61]:=by simpa using Array.mem_of_getElem? ht
    have GA:([5,61].all fun u => !Tryz.prog.wantsStandIn u)=true:=by kernel_rfl
    exact(show Tryz.prog.wantsStandIn t=false by simpa using List.all_eq_true.1 GA t hm)⟩)
  (by as_aux_lemma=>kernel_rfl)
#print axioms enclosureDecides_holds
end Go.Proofs.YtnjedhgcfeoemaaGreatDoor
