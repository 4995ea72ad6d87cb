/- For any described scale with at most 8 notes, Of returns the letters of its steps. No condition: the statement holds for every input. -/
import Derived.Test.YtnjedhgcfeoemaaGreatDoorWa5
set_option maxRecDepth 100000
set_option maxHeartbeats 16000000
namespace Go.Proofs.YtnjedhgcfeoemaaGreatDoor
open Go.ChangeShapes Go.WideShapes Go.ChangeAt Go.RowKit
theorem wordOf_holds:Rows.WordOfCardSaid :=
 Claim7.holds_tied_plain_at .later [] [.data, .data, .data, .sentinel, .sentinel] true (true, "ba4f0ebd937b8c478f6b8602b07dc9ed40b3407eab14e232b02ef4da435dc970") true
  wordOf_row (fun _ h=>by cases h) (by as_aux_lemma=>kernel_rfl) (fun _ h=>by cases h) wordOf_row_tie rfl ⟨rfl,rfl⟩ (by as_aux_lemma=>kernel_rfl) rfl
  (fun f fn hf hfn=>by
   obtain rfl : f = 5 := Option.some.inj ((show Tryz.prog.funcNamed "schisma/schismalaw34.WordOf" = some 5 by kernel_rfl).symm.trans hf) |>.symm
   obtain rfl:fn=Tryz.f5:=(Option.some.inj (Tryz.func5.symm.trans hfn)).symm
   exact ⟨by as_aux_lemma=>kernel_rfl,fun j t ht=>by
    rw [Tryz.params5] at ht
    have hm:t∈[61,5,62]:=by simpa using Array.mem_of_getElem? ht
    have hall:([61,5,62].all fun u => !Tryz.prog.wantsStandIn u)=true:=by kernel_rfl
    exact (show Tryz.prog.wantsStandIn t=false by simpa using List.all_eq_true.1 hall t hm)⟩)
  (by as_aux_lemma=>kernel_rfl)
#print axioms wordOf_holds
end Go.Proofs.YtnjedhgcfeoemaaGreatDoor
