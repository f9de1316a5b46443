/-
  The statement ParserFormats is proved. No condition but the row's own.
-/
import Derived.Test.YtcdceiloganlnaaGreatDoorPf8
set_option linter.unusedVariables false
set_option linter.unusedSimpArgs false
set_option linter.unnecessarySimpa false
set_option linter.unusedSectionVars false
noncomputable section
namespace Go.Proofs.YtcdceiloganlnaaGreatDoor
open Go.ChangeShapes Go.WideShapes Go.ChangeAt Go.RowKit
set_option maxRecDepth 100000
theorem aZQ (f:FuncId) (fn:Func) (hf:Tryz.pinned.checked.prog.funcNamed "overseer/overseerlaw17.ParserFormats" = some f) (hfn:Tryz.pinned.checked.prog.funcs[f]? = some fn) :
 false=Tryz.pinned.checked.prog.looks []/\∀ (j:Nat) t,fn.params[j]? = some t->Tryz.pinned.checked.prog.wantsStandIn t=false:=by
 obtain rfl:f=11:=Option.some.inj ((show Tryz.prog.funcNamed "overseer/overseerlaw17.ParserFormats" = some 11 by kernel_rfl).symm.trans hf) |>.symm;obtain rfl:fn=Tryz.f11:=(Option.some.inj (Tryz.func11.symm.trans hfn)).symm;refine ⟨by kernel_rfl,fun j t ht => ?_⟩;rw[Tryz.params11] at ht;have hm:=Array.mem_of_getElem? ht;have hall:∀ t,t∈([64,65]:List TypeId)->Tryz.prog.wantsStandIn t=false:=fun t h=>by simpa using iY.1 (show ([64,65]:List TypeId).all (fun t => !Tryz.prog.wantsStandIn t)=true by kernel_rfl) t h
 exact hall t (by simpa using hm)
theorem aZM:Rows.parserFormatsRow.wfByText (OpenSpec.ofChange Rows.parserFormatsSpec)=true:=by kernel_rfl
theorem aZL:Tryz.pinned.checked.prog.mainIs=some (Rows.parserFormatsCard.stood.harness.1,Rows.parserFormatsCard.stood.harness.2.toList):=by kernel_rfl
theorem aZK:false=Rows.parserFormatsRow.goesBy Tryz.pinned.checked.prog:=by kernel_rfl
theorem formats_holds:Rows.ParserFormatsCardSaid :=Claim7.holds_tied_plain_at .later [] _ _ Rows.parserFormatsCard.stood.harness _ aZS (fun _ h=>by cases h) aZM (fun _ h=>by cases h) parserFormats_row_tie rfl ⟨rfl,rfl⟩ aZL rfl aZQ aZK
end Go.Proofs.YtcdceiloganlnaaGreatDoor
end
