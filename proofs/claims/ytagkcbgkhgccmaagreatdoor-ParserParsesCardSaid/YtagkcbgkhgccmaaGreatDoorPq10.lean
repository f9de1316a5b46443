/-
  The statement ParserParses is proved. No condition but the row's own.
-/
import Derived.Test.YtagkcbgkhgccmaaGreatDoorPq9
set_option linter.unusedVariables false
set_option linter.defProp false
set_option linter.unusedSimpArgs false
set_option linter.unnecessarySimpa false
set_option linter.unusedSectionVars false
noncomputable section
namespace Go.Proofs.YtagkcbgkhgccmaaGreatDoor
open Go.ChangeShapes Go.WideShapes Go.ChangeAt Go.RowKit
set_option maxRecDepth 100000
def bWJ (f:FuncId) (b:Func) (e:Tryz.pinned.checked.prog.funcNamed "overseer/overseerlaw17.ParserParses" = some f) (c:Tryz.pinned.checked.prog.funcs[f]? = some b) :
 false=Tryz.pinned.checked.prog.looks []/\∀ (j:Nat) t,b.params[j]? = some t->Tryz.pinned.checked.prog.wantsStandIn t=false:=by
 obtain rfl:f=3:=Option.some.inj ((show Tryz.prog.funcNamed "overseer/overseerlaw17.ParserParses" = some 3 by kernel_rfl).symm.trans e) |>.symm;obtain rfl:b=Tryz.f3:=(Option.some.inj (Tryz.func3.symm.trans c)).symm;refine ⟨by kernel_rfl,fun j t d => ?_⟩;rw[Tryz.params3] at d;have g:=Array.mem_of_getElem? d;have a:∀ t,t∈([9]:List TypeId)->Tryz.prog.wantsStandIn t=false:=fun t h=>by simpa using ja.1 (show ([9]:List TypeId).all (fun t => !Tryz.prog.wantsStandIn t)=true by kernel_rfl) t h
 exact a t (by simpa using g)
def bWF:Rows.parserParsesRow.wfByText (OpenSpec.ofChange Rows.parserParsesSpec)=true:=by kernel_rfl
def bWE:Tryz.pinned.checked.prog.mainIs=some (Rows.parserParsesCard.stood.harness.1,Rows.parserParsesCard.stood.harness.2.toList):=by kernel_rfl
def bWD:false=Rows.parserParsesRow.goesBy Tryz.pinned.checked.prog:=by kernel_rfl
theorem parses_holds:Rows.ParserParsesCardSaid :=Claim7.holds_tied_plain_at .later [] _ _ Rows.parserParsesCard.stood.harness _ bWL (fun _ h=>by cases h) bWF (fun _ h=>by cases h) parserParses_row_tie rfl ⟨rfl,rfl⟩ bWE rfl bWJ bWD
end Go.Proofs.YtagkcbgkhgccmaaGreatDoor
end
