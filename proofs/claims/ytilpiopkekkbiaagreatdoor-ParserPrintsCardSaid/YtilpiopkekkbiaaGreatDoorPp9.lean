/-
  The statement ParserPrints is proved. No condition but the row's own.
-/
import Derived.Test.YtilpiopkekkbiaaGreatDoorPp8
set_option linter.unusedVariables false
set_option linter.unusedSimpArgs false
set_option linter.unnecessarySimpa false
set_option linter.unusedSectionVars false
noncomputable section
namespace Go.Proofs.YtilpiopkekkbiaaGreatDoor
open Go.ChangeShapes Go.WideShapes Go.ChangeAt Go.RowKit
set_option maxRecDepth 100000
theorem bQ9 (f:FuncId) (fn:Func) (hf:Tryz.pinned.checked.prog.funcNamed "overseer/overseerlaw17.ParserPrints" = some f) (hfn:Tryz.pinned.checked.prog.funcs[f]? = some fn) :
 false=Tryz.pinned.checked.prog.looks []/\∀ (j:Nat) t,fn.params[j]? = some t->Tryz.pinned.checked.prog.wantsStandIn t=false:=by
 obtain rfl:f=5:=Option.some.inj ((show Tryz.prog.funcNamed "overseer/overseerlaw17.ParserPrints" = some 5 by kernel_rfl).symm.trans hf) |>.symm;obtain rfl:fn=Tryz.f5:=(Option.some.inj (Tryz.func5.symm.trans hfn)).symm;refine ⟨by kernel_rfl,fun j t ht => ?_⟩;rw[Tryz.params5] at ht;have hm:=Array.mem_of_getElem? ht;have hall:∀ t,t∈([31,31]:List TypeId)->Tryz.prog.wantsStandIn t=false:=fun t h=>by simpa using jF.1 (show ([31,31]:List TypeId).all (fun t => !Tryz.prog.wantsStandIn t)=true by kernel_rfl) t h
 exact hall t (by simpa using hm)
theorem bQ5:Rows.parserPrintsRow.wfByText (OpenSpec.ofChange Rows.parserPrintsSpec)=true:=by kernel_rfl
theorem bQ4:Tryz.pinned.checked.prog.mainIs=some (Rows.parserPrintsCard.stood.harness.1,Rows.parserPrintsCard.stood.harness.2.toList):=by kernel_rfl
theorem bQ3:false=Rows.parserPrintsRow.goesBy Tryz.pinned.checked.prog:=by kernel_rfl
theorem prints_holds:Rows.ParserPrintsCardSaid :=Claim7.holds_tied_plain_at .later [] _ _ Rows.parserPrintsCard.stood.harness _ bQB (fun _ h=>by cases h) bQ5 (fun _ h=>by cases h) parserPrints_row_tie rfl ⟨rfl,rfl⟩ bQ4 rfl bQ9 bQ3
end Go.Proofs.YtilpiopkekkbiaaGreatDoor
end
