/-
  The statement ParserSlips is proved. No condition but the row's own.
-/
import Derived.Test.YtmbehibpfkkjbaaGreatDoorPs9
set_option linter.unusedVariables false
set_option linter.defProp false
set_option linter.unusedSimpArgs false
set_option linter.unnecessarySimpa false
set_option linter.unusedSectionVars false
noncomputable section
namespace Go.Proofs.YtmbehibpfkkjbaaGreatDoor
open Go.ChangeShapes Go.WideShapes Go.ChangeAt Go.RowKit
set_option maxRecDepth 100000
def c7A (f:FuncId) (b:Func) (e:Tryz.pinned.checked.prog.funcNamed "overseer/overseerlaw17.ParserSlips" = some f) (c:Tryz.pinned.checked.prog.funcs[f]? = some b) :
 false=Tryz.pinned.checked.prog.looks []/\∀ (j:Nat) t,b.params[j]? = some t->Tryz.pinned.checked.prog.wantsStandIn t=false:=by
 obtain rfl:f=3:=Option.some.inj ((show Tryz.prog.funcNamed "overseer/overseerlaw17.ParserSlips" = some 3 by kernel_rfl).symm.trans e) |>.symm;obtain rfl:b=Tryz.f3:=(Option.some.inj (Tryz.func3.symm.trans c)).symm;refine ⟨by kernel_rfl,fun j t d => ?_⟩;rw[Tryz.params3] at d;have g:=Array.mem_of_getElem? d;have a:∀ t,t∈([29,32,32]:List TypeId)->Tryz.prog.wantsStandIn t=false:=fun t h=>by simpa using jq.1 (show ([29,32,32]:List TypeId).all (fun t => !Tryz.prog.wantsStandIn t)=true by kernel_rfl) t h
 exact a t (by simpa using g)
def c6':Rows.parserSlipsRow.wfByText (OpenSpec.ofChange Rows.parserSlipsSpec)=true:=by kernel_rfl
def c6Z:Tryz.pinned.checked.prog.mainIs=some (Rows.parserSlipsCard.stood.harness.1,Rows.parserSlipsCard.stood.harness.2.toList):=by kernel_rfl
def c6Y:false=Rows.parserSlipsRow.goesBy Tryz.pinned.checked.prog:=by kernel_rfl
theorem slips_holds:Rows.ParserSlipsCardSaid :=Claim7.holds_tied_plain_at .later [] _ _ Rows.parserSlipsCard.stood.harness _ c7C (fun _ h=>by cases h) c6' (fun _ h=>by cases h) parserSlips_row_tie rfl ⟨rfl,rfl⟩ c6Z rfl c7A c6Y
end Go.Proofs.YtmbehibpfkkjbaaGreatDoor
end
