/- For any number as a prime and any number of bits, Of returns the right bounds, which Check accepts, or the first error. No condition: the statement holds for every input. -/
import Derived.Test.YtnjedhgcfeoemaaGreatDoorWg2
set_option maxRecDepth 100000
set_option maxHeartbeats 16000000
namespace Go.Proofs.YtnjedhgcfeoemaaGreatDoor
open Go.ChangeShapes Go.WideShapes Go.ChangeAt Go.RowKit
theorem enclosureBounds_holds:Rows.EnclosureBoundsCardSaid :=
 Claim7.holds_tied_plain_at .later [] [.data, .data, .data, .sentinel, .sentinel] true (true, "ba4f0ebd937b8c478f6b8602b07dc9ed40b3407eab14e232b02ef4da435dc970") true
  enclosureBounds_row (fun _ h=>by cases h) (by as_aux_lemma=>kernel_rfl) (fun _ h=>by cases h) enclosureBounds_row_tie rfl ⟨rfl,rfl⟩ (by as_aux_lemma=>kernel_rfl) rfl
  (fun f fn hf hfn=>by
   obtain rfl : f = 9 := Option.some.inj ((show Tryz.prog.funcNamed "schisma/schismalaw14.EnclosureBounds" = some 9 by kernel_rfl).symm.trans hf) |>.symm
   obtain rfl:fn=Tryz.f9:=(Option.some.inj (Tryz.func9.symm.trans hfn)).symm
   exact⟨by as_aux_lemma=>kernel_rfl,fun j t ht=>by
    rw[Tryz.params9] at ht
    have hm:t∈[3,3]:=by simpa using Array.mem_of_getElem? ht
    have hall:([3,3].all fun u => !Tryz.prog.wantsStandIn u)=true:=by kernel_rfl
    exact(show Tryz.prog.wantsStandIn t=false by simpa using List.all_eq_true.1 hall t hm)⟩)
  (by as_aux_lemma=>kernel_rfl)
#print axioms enclosureBounds_holds
end Go.Proofs.YtnjedhgcfeoemaaGreatDoor
