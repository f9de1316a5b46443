/-
  The statement ParserLimits is proved. No condition but the row's own.
-/
import Derived.Test.YtcdceiloganlnaaGreatDoorPl8
set_option linter.unusedVariables false
set_option linter.unusedSimpArgs false
set_option linter.unnecessarySimpa false
set_option linter.unusedSectionVars false
noncomputable section
namespace Go.Proofs.YtcdceiloganlnaaGreatDoor
open Go.ChangeShapes Go.WideShapes Go.ChangeAt Go.RowKit
set_option maxRecDepth 100000
theorem bFT (f:FuncId) (fn:Func) (hf:Tryz.pinned.checked.prog.funcNamed "overseer/overseerlaw17.ParserLimits" = some f) (hfn:Tryz.pinned.checked.prog.funcs[f]? = some fn) :
 false=Tryz.pinned.checked.prog.looks []/\∀ (j:Nat) t,fn.params[j]? = some t->Tryz.pinned.checked.prog.wantsStandIn t=false:=by
 obtain rfl:f=9:=Option.some.inj ((show Tryz.prog.funcNamed "overseer/overseerlaw17.ParserLimits" = some 9 by kernel_rfl).symm.trans hf) |>.symm;obtain rfl:fn=Tryz.f9:=(Option.some.inj (Tryz.func9.symm.trans hfn)).symm;refine ⟨by kernel_rfl,fun j t ht => ?_⟩;rw[Tryz.params9] at ht;have hm:=a04 ht;have hall:∀ t,t∈([5,5]:List TypeId)->Tryz.prog.wantsStandIn t=false:=fun t h=>by simpa using iC.1 (show ([5,5]:List TypeId).all (fun t => !Tryz.prog.wantsStandIn t)=true by kernel_rfl) t h
 exact hall t (by simpa using hm)
theorem bFP:Rows.parserLimitsRow.wfByText (OpenSpec.ofChange Rows.parserLimitsSpec)=true:=by kernel_rfl
theorem bFO:Tryz.pinned.checked.prog.mainIs=some (Rows.parserLimitsCard.stood.harness.1,Rows.parserLimitsCard.stood.harness.2.toList):=by kernel_rfl
theorem bFN:false=Rows.parserLimitsRow.goesBy Tryz.pinned.checked.prog:=by kernel_rfl
theorem limits_holds:Rows.ParserLimitsCardSaid :=Claim7.holds_tied_plain_at .later [] _ _ Rows.parserLimitsCard.stood.harness _ bFV (fun _ h=>by cases h) bFP (fun _ h=>by cases h) parserLimits_row_tie rfl ⟨rfl,rfl⟩ bFO rfl bFT bFN
end Go.Proofs.YtcdceiloganlnaaGreatDoor
end
