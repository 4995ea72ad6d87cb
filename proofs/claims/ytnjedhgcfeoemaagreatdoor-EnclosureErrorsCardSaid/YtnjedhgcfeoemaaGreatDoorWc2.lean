/- For any primes and any size of few and short texts, each function returns the first error. No condition: the statement holds for every input. -/
import Derived.Test.YtnjedhgcfeoemaaGreatDoorWc1
set_option maxRecDepth 100000
set_option maxHeartbeats 16000000
namespace Go.Proofs.YtnjedhgcfeoemaaGreatDoor
open Go.ChangeShapes Go.WideShapes Go.ChangeAt Go.RowKit
theorem enclosureErrors_holds:Rows.EnclosureErrorsCardSaid :=
 Claim7.holds_tied_plain_at .later [] [.data, .data, .data, .sentinel, .sentinel] true (true, "ba4f0ebd937b8c478f6b8602b07dc9ed40b3407eab14e232b02ef4da435dc970") true
  enclosureErrors_row (fun _ h=>by cases h) (by as_aux_lemma=>kernel_rfl) (fun _ h=>by cases h) enclosureErrors_row_tie rfl ⟨rfl,rfl⟩ (by as_aux_lemma=>kernel_rfl) rfl
  (fun f fn hf hfn=>by
   obtain rfl : f = 4 := Option.some.inj ((show Tryz.prog.funcNamed "schisma/schismalaw14.EnclosureErrors" = some 4 by kernel_rfl).symm.trans hf) |>.symm
   obtain rfl:fn=Tryz.f4:=(Option.some.inj (Tryz.func4.symm.trans hfn)).symm
   exact ⟨by as_aux_lemma=>kernel_rfl,fun j t ht=>by
    rw [Tryz.params4] at ht
    have hm:t∈[36,38]:=by simpa using Array.mem_of_getElem? ht
    have hall:([36,38].all fun u => !Tryz.prog.wantsStandIn u)=true:=by kernel_rfl
    exact (show Tryz.prog.wantsStandIn t=false by simpa using List.all_eq_true.1 hall t hm)⟩)
  (by as_aux_lemma=>kernel_rfl)
#print axioms enclosureErrors_holds
end Go.Proofs.YtnjedhgcfeoemaaGreatDoor
