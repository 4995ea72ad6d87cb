/- For any size with small coefficients and any proof with few bounds and few bits, Verify accepts exactly those that prove. No condition: the statement holds for every input. -/
import Derived.Test.YtnjedhgcfeoemaaGreatDoorWj6
set_option maxRecDepth 100000
set_option maxHeartbeats 16000000
namespace Go.Proofs.YtnjedhgcfeoemaaGreatDoor
open Go.ChangeShapes Go.WideShapes Go.ChangeAt Go.RowKit
theorem enclosureVerifies_holds:Rows.EnclosureVerifiesCardSaid :=
 Claim7.holds_tied_plain_at .later [] [.data, .data, .data, .sentinel, .sentinel] true (true, "ba4f0ebd937b8c478f6b8602b07dc9ed40b3407eab14e232b02ef4da435dc970") true
  Zcn (fun _ h=>by cases h) (by as_aux_lemma=>kernel_rfl) (fun _ h=>by cases h) enclosureVerifies_row_tie rfl ⟨rfl,rfl⟩ (by as_aux_lemma=>kernel_rfl) rfl
  (fun f fn hf hfn=>by
   obtain rfl : f = 12 := Option.some.inj ((show Tryz.prog.funcNamed "schisma/schismalaw14.EnclosureVerifies" = some 12 by kernel_rfl).symm.trans hf) |>.symm
   obtain rfl:fn=Tryz.f12:=(Option.some.inj (Tryz.func12.symm.trans hfn)).symm;exact⟨by as_aux_lemma=>kernel_rfl,fun j t ht=>by
    rw[Tryz.params12] at ht;have hm:t∈[5,61,51]:=by simpa using Array.mem_of_getElem? ht
    have hall:([5,61,51].all fun u => !Tryz.prog.wantsStandIn u)=true:=by kernel_rfl
    exact(show Tryz.prog.wantsStandIn t=false by simpa using List.all_eq_true.1 hall t hm)⟩)
  (by as_aux_lemma=>kernel_rfl)
#print axioms enclosureVerifies_holds
end Go.Proofs.YtnjedhgcfeoemaaGreatDoor
