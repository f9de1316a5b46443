/-
  The statement ParserChecks is proved. No condition but the row's own.
-/
import Derived.Test.YtcdceiloganlnaaGreatDoorPc8
set_option linter.unusedVariables false
set_option linter.unusedSimpArgs false
set_option linter.unnecessarySimpa false
set_option linter.unusedSectionVars false
noncomputable section
namespace Go.Proofs.YtcdceiloganlnaaGreatDoor
open Go.ChangeShapes Go.WideShapes Go.ChangeAt Go.RowKit
set_option maxRecDepth 100000
theorem aO0 (f:FuncId) (fn:Func) (hf:Tryz.pinned.checked.prog.funcNamed "overseer/overseerlaw17.ParserChecks" = some f) (hfn:Tryz.pinned.checked.prog.funcs[f]? = some fn) :
 false=Tryz.pinned.checked.prog.looks []/\∀ (j:Nat) t,fn.params[j]? = some t->Tryz.pinned.checked.prog.wantsStandIn t=false:=by
 obtain rfl:f=3:=Option.some.inj ((show Tryz.prog.funcNamed "overseer/overseerlaw17.ParserChecks" = some 3 by kernel_rfl).symm.trans hf) |>.symm;obtain rfl:fn=Tryz.f3:=(Option.some.inj (Tryz.func3.symm.trans hfn)).symm;refine ⟨by kernel_rfl,fun j t ht => ?_⟩;rw[Tryz.params3] at ht;have hm:=Wv ht;have hall:∀ t,t∈([28]:List TypeId)->Tryz.prog.wantsStandIn t=false:=fun t h=>by simpa using fH.1 (show ([28]:List TypeId).all (fun t => !Tryz.prog.wantsStandIn t)=true by kernel_rfl) t h
 exact hall t (by simpa using hm)
theorem zzP:Rows.parserChecksUptoRow.wfByText (Rows.OpenSpec.upto Rows.parserChecksSpec)=true:=by kernel_rfl
theorem zzO:Tryz.pinned.checked.prog.mainIs=some (Rows.parserChecksUptoCard.stood.harness.1,Rows.parserChecksUptoCard.stood.harness.2.toList):=by kernel_rfl
theorem zzN:false=Rows.parserChecksUptoRow.goesBy Tryz.pinned.checked.prog:=by kernel_rfl
theorem checks_holds:Rows.ParserChecksUptoCardSaid :=Claim7.holds_tied_plain_at .later [] _ _ Rows.parserChecksUptoCard.stood.harness _ aO2 (fun _ h=>by cases h) zzP (fun _ h=>by cases h) parserChecksUpto_row_tie rfl ⟨rfl,rfl⟩ zzO rfl aO0 zzN
end Go.Proofs.YtcdceiloganlnaaGreatDoor
end
