/- A part of the proof: K17m. -/
import Derived.Test.YtcdceiloganlnaaGreatDoorPw6
import Derived.Test.YtcdceiloganlnaaGreatDoorPw4
set_option linter.unusedVariables false
set_option linter.unusedSimpArgs false
set_option linter.unnecessarySimpa false
set_option linter.unusedSectionVars false
namespace Go.Proofs.YtcdceiloganlnaaGreatDoor.W
open Go.RowKit
set_option maxRecDepth 1000000
abbrev LP:=List PV
abbrev nI (n:Int):PV := .int .i64 n
abbrev sB (l:List UInt8):PV := .str ⟨⟨l⟩⟩
abbrev KA (a:Ans):Prop:=SS.CC a.g a.args a.h=some a.v
theorem fH {a:Ans} {l:List Ans} (h:KA a) (hl:∀ a,a∈l→KA a):∀ b,b∈a::l→KA b:=aIS h hl
theorem fK (m:Nat) {l:List Ans} (hl:∀ a,a∈l→KA a) (n:Nat) {a:Ans} (e:SS.stepT (SS.memo l m) n a.g a.args a.h=some a.v):KA a:=a1R SS_ok m hl n e
def l0:LP := [sB [99,111,110,116,114,111,108,108,97,98,108,101],sB [111,98,115,101,114,118,97,98,108,101],sB [102,111,114,99,105,98,108,101]]
def l2:LP := [nI 0,nI 1,nI 18]
def l8:LP := [nI 0,nI 1,nI 32]
def l17:LP := [nI 0,nI 1,nI 43]
def l41:LP := [nI 0,nI 1,nI 72]
def l53:LP := [nI 0,nI 1,nI 79]
def l56:LP := [nI 0,nI 1,nI 81]
def l68:LP := [nI 0,nI 1,nI 96]
def l79:LP := [nI 3,sB [59],nI 0,nI 1,nI 99]
def l82:LP := [nI 4,sB [],nI 0,nI 1,nI 100]
def l84:LP := [.agg (nI 3::sB [40]::l68),.agg [nI 1,sB [97],nI 0,nI 1,nI 97],.agg [nI 3,sB [41],nI 0,nI 1,nI 98],.agg l79,.agg l82]
def l87:LP := .agg [nI 1,sB [99],nI 0,nI 1,nI 91] :: .agg [nI 3,sB [61],nI 0,nI 1,nI 93] :: .agg [nI 1,sB [116],nI 0,nI 1,nI 95]::l84
def l88:LP := .agg (nI 1::sB [99,111,109,112,111,110,101,110,116]::l56)::l87
def l89:LP := .agg (nI 3::sB [125]::l53)::l88
def l93:LP := .agg (nI 1::sB [112]::l41) :: .agg [nI 1,sB [120],nI 0,nI 1,nI 74] :: .agg [nI 1,sB [112],nI 0,nI 1,nI 76] :: .agg [nI 3,sB [59],nI 0,nI 1,nI 77]::l89
def l94:LP := .agg [nI 1,sB [101,100,103,101],nI 0,nI 1,nI 67]::l93
def l97:LP := .agg [nI 1,sB [112],nI 0,nI 1,nI 57] :: .agg [nI 1,sB [109,97,114,107,101,100],nI 0,nI 1,nI 59] :: .agg [nI 3,sB [59],nI 0,nI 1,nI 65]::l94
def l99:LP := .agg [nI 3,sB [123],nI 0,nI 1,nI 46] :: .agg [nI 1,sB [108,111,99,97,116,105,111,110],nI 0,nI 1,nI 48]::l97
def b0X:LP := .agg [nI 3,sB [41],nI 0,nI 1,nI 44]::l99
def a'B:LP := .agg (nI 1::sB [120]::l17)::b0X
def a'R:LP := .agg [nI 3,sB [40],nI 0,nI 1,nI 42]::a'B
def aZ5:LP := .agg [nI 1,sB [116],nI 0,nI 1,nI 41]::a'R
def a_V:LP := .agg (nI 1::sB [116,101,109,112,108,97,116,101]::l8)::aZ5
def a_H:LP := .agg [nI 3,sB [59],nI 0,nI 1,nI 30]::a_V
def l106:LP := .agg (nI 1::sB [99,111,110,116,114,111,108,108,97,98,108,101]::l2)::a_H
def b0P:LP := [.sl false 5 l106,nI 0,nI 0,nI 0]
def aZX:LP := [.sl false 5 a_H,nI 0,nI 0,nI 0]
def a0:Ans:=⟨327,[.sl false 1 l0,.func (.func 328) [] [.ptr 0 0]],[some [.ptr 1 0],some [.ptr 2 0,nI 0,.sl true 1 []],some b0P],(.sl false 1 [.bool true,.bool false,.bool false],[some [.ptr 1 0],some [.ptr 2 0,nI 0,.sl true 1 []],some aZX])⟩
theorem k0:KA a0:=fK 30 (l := []) aH 120 (by kernel_rfl)
def a1:Ans:=⟨275,[.ptr 0 0,.sl false 1 l0],[some [.ptr 1 0,nI 0,.sl true 1 []],some b0P],(.sl false 1 [.bool true,.bool false,.bool false],[some [.ptr 1 0,nI 0,.sl true 1 []],some aZX])⟩
theorem k1:KA a1:=fK 30 (l := [a0]) (fH k0 aH) 120 (by kernel_rfl)
def b35:LP := [.sl true 3 [],.sl true 2 [],.sl true 3 []]
def b0S:LP := .sl true 3 []::b35
def aZB:LP := .sl true 9 []::b0S
def l113:LP:=sB [109] :: .sl true 5 []::aZB
def aU1:LP := [nI 0,nI 1,nI 16]
def b0C:LP:=nI 1::sB [97]::aU1
def b1E:LP := [.sl false 5 (.agg b0C::l106),nI 0,nI 0,nI 0]
def aR4:LP := [sB [97],.bool true,.bool false,.bool false,nI 0]
def aCD:LP:=sB [109]::(.sl true 5 [.agg aR4]::aZB)
def aRK:LP := [.sl false 5 a_V,nI 0,nI 0,nI 0]
def a2:Ans:=⟨222,[.ptr 0 0,.ptr 1 0],[some [.ptr 2 0,nI 0,.sl true 1 []],some l113,some b1E],(.tuple [],[some [.ptr 2 0,nI 0,.sl true 1 []],some aCD,some aRK])⟩
theorem k2:KA a2:=fK 30 (l := [a1]) (fH k1 aH) 120 (by kernel_rfl)
def a3:Ans:=⟨221,[.ptr 0 0,.ptr 1 0],[some [.ptr 2 0],some [.ptr 3 0],some [.ptr 4 0,nI 0,.sl true 1 []],some l113,some b1E],(.tuple [],[some [.ptr 2 0],some [.ptr 3 0],some [.ptr 4 0,nI 0,.sl true 1 []],some aCD,some aRK])⟩
theorem k3:KA a3:=fK 30 (l := [a2]) (fH k2 aH) 120 (by kernel_rfl)
def a4:Ans:=⟨132,[.ptr 0 0,.ptr 1 0],[some [.ptr 2 0,nI 0,.sl true 1 []],some l113,some [.sl false 5 (.agg [nI 1,sB [101,118,101,110,116],nI 0,nI 1,nI 10]::(.agg b0C::l106)),nI 0,nI 0,nI 0]],(.tuple [],[some [.ptr 2 0,nI 0,.sl true 1 []],some aCD,some aRK])⟩
theorem k4:KA a4:=fK 30 (l := [a3]) (fH k3 aH) 120 (by kernel_rfl)
def a_5:LP := [.ptr 0 0,.func (.func 279) [] [.ptr 1 0,.ptr 2 0]]
def b2D:LP := [.sl true 1 [],nI 0,nI 0,.sl true 1 [],.sl true 4 [],.sl true 8 []]
def b1Q:LP:=sB [116] :: .sl true 1 [] :: .sl true 1 []::b2D
def l138:LP:=sB [116] :: .sl true 1 []::(.sl true 1 [sB [120]]::b2D)
def a5:Ans:=⟨286,a_5,[some [.sl false 5 a'B,nI 0,nI 0,nI 0],some b1Q,some [.ptr 3 0],some [.ptr 0 0,nI 0,.sl true 1 []]],(.tuple [],[some [.sl false 5 b0X,nI 0,nI 0,nI 0],some l138,some [.ptr 3 0],some [.ptr 0 0,nI 0,.sl true 1 []]])⟩
theorem k5:KA a5:=fK 30 (l := []) aH 120 (by kernel_rfl)
def a6:Ans:=⟨278,a_5,[some [.ptr 3 0,nI 0,.sl true 1 []],some b1Q,some [.ptr 0 0],some [.sl false 5 a'R,nI 0,nI 0,nI 0]],(.tuple [],[some [.ptr 3 0,nI 0,.sl true 1 []],some l138,some [.ptr 0 0],some [.sl false 5 l99,nI 0,nI 0,nI 0]])⟩
theorem k6:KA a6:=fK 30 (l := [a5]) (fH k5 aH) 120 (by kernel_rfl)
def b1G:LP := [sB [116],.sl true 1 [sB [112]],.sl true 1 [sB [120]],.sl true 1 [],nI 0,nI 0,.sl true 1 [nI 0],.sl true 4 [],.sl true 8 []]
def a7:Ans:=⟨280,[.ptr 0 0,.ptr 1 0,.ptr 2 0],[some [.ptr 3 0,nI 0,.sl true 1 []],some l138,some [.bool false],some [.sl false 5 l97,nI 0,nI 0,nI 0]],(.tuple [],[some [.ptr 3 0,nI 0,.sl true 1 []],some b1G,some [.bool false],some [.sl false 5 l94,nI 0,nI 0,nI 0]])⟩
theorem k7:KA a7:=fK 30 (l := []) aH 120 (by kernel_rfl)
def VN:LP := [nI 0,nI 0,.sl false 4 []]
def a2I:LP:=nI 0::VN
def aLD:LP := [nI 0,nI 0,nI 0,nI 6,nI 0,nI 0,.sl false 4 [.agg a2I,.agg a2I],.sl false 5 []]
def a8:Ans:=⟨282,[.ptr 0 0,.ptr 1 0],[some [.ptr 2 0,nI 0,.sl true 1 []],some b1G,some [.sl false 5 l93,nI 0,nI 0,nI 0]],(.tuple [],[some [.ptr 2 0,nI 0,.sl true 1 []],some [sB [116],.sl true 1 [sB [112]],.sl true 1 [sB [120]],.sl true 1 [],nI 0,nI 0,.sl true 1 [nI 0],.sl true 4 [],.sl true 8 [.agg aLD]],some [.sl false 5 l89,nI 0,nI 0,nI 0]])⟩
theorem k8:KA a8:=fK 30 (l := []) aH 120 (by kernel_rfl)
def b0U:LP := [.sl false 5 aZ5,nI 0,nI 0,nI 0]
def QO:LP := [.sl false 1 [nI 0],nI 1,nI 0,.sl false 1 [nI 0],.sl false 4 [],.sl false 8 [.agg aLD]]
def FK:LP:=sB [116] :: .sl false 1 [sB [112]] :: .sl false 1 [sB [120]]::QO
def aD6:LP:=sB [109] :: .sl true 5 [.agg aR4]::(.sl true 9 [.agg FK]::b0S)
def aKH:LP := [.sl false 5 l88,nI 0,nI 0,nI 0]
def a9:Ans:=⟨224,[.ptr 0 0,.ptr 1 0],[some [.ptr 2 0,nI 0,.sl true 1 []],some aCD,some b0U],(.tuple [],[some [.ptr 2 0,nI 0,.sl true 1 []],some aD6,some aKH])⟩
theorem k9:KA a9:=fK 30 (l := [a6,a7,a8]) (fH k6 (fH k7 (fH k8 aH))) 120 (by kernel_rfl)
def a10:Ans:=⟨223,[.ptr 0 0,.ptr 1 0],[some [.ptr 2 0],some [.ptr 3 0],some [.ptr 4 0,nI 0,.sl true 1 []],some aCD,some b0U],(.tuple [],[some [.ptr 2 0],some [.ptr 3 0],some [.ptr 4 0,nI 0,.sl true 1 []],some aD6,some aKH])⟩
theorem k10:KA a10:=fK 30 (l := [a9]) (fH k9 aH) 120 (by kernel_rfl)
def a11:Ans:=⟨132,[.ptr 0 0,.ptr 1 0],[some [.ptr 2 0,nI 0,.sl true 1 []],some aCD,some aRK],(.tuple [],[some [.ptr 2 0,nI 0,.sl true 1 []],some aD6,some aKH])⟩
theorem k11:KA a11:=fK 30 (l := [a10]) (fH k10 aH) 120 (by kernel_rfl)
def a12:Ans:=⟨278,[.ptr 0 0,.func (.func 284) [] [.ptr 1 0,.ptr 2 0]],[some [.ptr 3 0,nI 0,.sl true 1 []],some [sB [99],sB [116],.sl true 1 []],some [.ptr 0 0],some [.sl false 5 l84,nI 0,nI 0,nI 0]],(.tuple [],[some [.ptr 3 0,nI 0,.sl true 1 []],some [sB [99],sB [116],.sl true 1 [sB [97]]],some [.ptr 0 0],some [.sl false 5 [.agg l79,.agg l82],nI 0,nI 0,nI 0]])⟩
theorem k12:KA a12:=fK 30 (l := []) aH 120 (by kernel_rfl)
def b1I:LP := [.sl false 5 l87,nI 0,nI 0,nI 0]
def a1Y:LP := [sB [99],sB [116],.sl false 1 [sB [97]]]
def aWF:LP:=sB [109] :: .sl true 5 [.agg aR4] :: .sl true 9 [.agg FK]::(.sl true 3 [.agg a1Y]::b35)
def aUO:LP := [.sl false 5 [.agg l82],nI 0,nI 0,nI 0]
def a13:Ans:=⟨226,[.ptr 0 0,.ptr 1 0,.ptr 1 3],[some [.ptr 2 0,nI 0,.sl true 1 []],some aD6,some b1I],(.tuple [],[some [.ptr 2 0,nI 0,.sl true 1 []],some aWF,some aUO])⟩
theorem k13:KA a13:=fK 30 (l := [a12]) (fH k12 aH) 120 (by kernel_rfl)
def a14:Ans:=⟨225,[.ptr 0 0,.ptr 1 0],[some [.ptr 2 0],some [.ptr 3 0],some [.ptr 4 0,nI 0,.sl true 1 []],some aD6,some b1I],(.tuple [],[some [.ptr 2 0],some [.ptr 3 0],some [.ptr 4 0,nI 0,.sl true 1 []],some aWF,some aUO])⟩
theorem k14:KA a14:=fK 30 (l := [a13]) (fH k13 aH) 120 (by kernel_rfl)
def a15:Ans:=⟨132,[.ptr 0 0,.ptr 1 0],[some [.ptr 2 0,nI 0,.sl true 1 []],some aD6,some aKH],(.tuple [],[some [.ptr 2 0,nI 0,.sl true 1 []],some aWF,some aUO])⟩
theorem k15:KA a15:=fK 30 (l := [a14]) (fH k14 aH) 120 (by kernel_rfl)
def a_I:LP := [nI 6,nI 0,nI 0,.sl false 4 [.agg a2I,.agg a2I]]
def a16:Ans:=⟨27,[.agg a_I,nI 0],[],(.tuple [nI 2,nI 0],[])⟩
theorem k16:KA a16:=fK 30 (l := []) aH 120 (by kernel_rfl)
def a17:Ans:=⟨248,[.agg a_I,nI 0,nI 2],[],(nI 0,[])⟩
theorem k17:KA a17:=fK 30 (l := [a16]) (fH k16 aH) 120 (by kernel_rfl)
def a18:Ans:=⟨191,[.agg FK,.agg aLD],[],(nI 0,[])⟩
theorem k18:KA a18:=fK 30 (l := [a17]) (fH k17 aH) 120 (by kernel_rfl)
def a19:Ans:=⟨190,[nI 0,.cst (.agg FK),.cst (.agg QO)],[],(nI 0,[])⟩
theorem k19:KA a19:=fK 30 (l := [a18]) (fH k18 aH) 120 (by kernel_rfl)
def a20:Ans:=⟨189,[.sl false 8 [.agg aLD],.func (.func 190) [] [.cst (.agg FK),.cst (.agg QO)]],[],(nI 0,[])⟩
theorem k20:KA a20:=fK 30 (l := [a19]) (fH k19 aH) 120 (by kernel_rfl)
def a21:Ans:=⟨188,[.cst (.agg QO),.cst (.agg FK)],[],(nI 0,[])⟩
theorem k21:KA a21:=fK 30 (l := [a20]) (fH k20 aH) 120 (by kernel_rfl)
def a22:Ans:=⟨67,[.sl false 1 [.func (.func 176) [] [.cst (.agg FK)],.func (.func 178) [] [.cst (.agg FK)],.func (.func 179) [] [.cst (.agg QO),.cst (.agg FK)],.func (.func 181) [] [.cst (.agg QO),.cst (.agg FK)],.func (.func 182) [] [.cst (.agg QO)],.func (.func 183) [] [.cst (.agg QO)],.func (.func 184) [] [.cst (.agg QO)],.func (.func 185) [] [.cst (.agg QO)],.func (.func 188) [] [.cst (.agg QO),.cst (.agg FK)]]],[],(nI 0,[])⟩
theorem k22:KA a22:=fK 30 (l := [a21]) (fH k21 aH) 120 (by kernel_rfl)
def a23:Ans:=⟨78,[.agg FK],[],(nI 0,[])⟩
theorem k23:KA a23:=fK 30 (l := [a22]) (fH k22 aH) 120 (by kernel_rfl)
def F9:LP := [sB [109],.sl false 5 [.agg aR4],.sl false 9 [.agg FK],.sl false 3 [.agg a1Y],.sl false 3 [],.sl false 2 [],.sl false 3 []]
def a24:Ans:=⟨77,[.cst (.agg F9),.cst (nI 0)],[],(nI 0,[])⟩
theorem k24:KA a24:=fK 30 (l := [a23]) (fH k23 aH) 120 (by kernel_rfl)
def a25:Ans:=⟨67,[.sl false 1 [.func (.func 75) [] [.cst (.sl false 1 [sB [116]]),.cst (nI 0)],.func (.func 77) [] [.cst (.agg F9),.cst (nI 0)]]],[],(nI 0,[])⟩
theorem k25:KA a25:=fK 30 (l := [a24]) (fH k24 aH) 120 (by kernel_rfl)
def a26:Ans:=⟨74,[nI 0,.cst (.sl false 1 [sB [116]]),.cst (.agg F9)],[],(nI 0,[])⟩
theorem k26:KA a26:=fK 30 (l := [a25]) (fH k25 aH) 120 (by kernel_rfl)
def a27:Ans:=⟨73,[.sl false 9 [.agg FK],.func (.func 74) [] [.cst (.sl false 1 [sB [116]]),.cst (.agg F9)]],[],(nI 0,[])⟩
theorem k27:KA a27:=fK 30 (l := [a26]) (fH k26 aH) 120 (by kernel_rfl)
def a28:Ans:=⟨72,[.cst (.agg F9),.cst (.sl false 1 [sB [116]])],[],(nI 0,[])⟩
theorem k28:KA a28:=fK 30 (l := [a27]) (fH k27 aH) 120 (by kernel_rfl)
def a29:Ans:=⟨67,[.sl false 1 [.func (.func 82) [] [.cst (.sl false 1 [sB [99]]),.cst (nI 0)],.func (.func 83) [] [.cst (.sl false 3 [.agg a1Y]),.cst (nI 0)]]],[],(nI 0,[])⟩
theorem k29:KA a29:=fK 30 (l := []) aH 120 (by kernel_rfl)
def a30:Ans:=⟨81,[nI 0,.cst (.sl false 1 [sB [99]]),.cst (.sl false 3 [.agg a1Y])],[],(nI 0,[])⟩
theorem k30:KA a30:=fK 30 (l := [a29]) (fH k29 aH) 120 (by kernel_rfl)
def a31:Ans:=⟨80,[.sl false 3 [.agg a1Y],.func (.func 81) [] [.cst (.sl false 1 [sB [99]]),.cst (.sl false 3 [.agg a1Y])]],[],(nI 0,[])⟩
theorem k31:KA a31:=fK 30 (l := [a30]) (fH k30 aH) 120 (by kernel_rfl)
def a32:Ans:=⟨79,[.cst (.sl false 3 [.agg a1Y]),.cst (.sl false 1 [sB [99]])],[],(nI 0,[])⟩
theorem k32:KA a32:=fK 30 (l := [a31]) (fH k31 aH) 120 (by kernel_rfl)
def a33:Ans:=⟨67,[.sl false 1 [.func (.func 68) [] [.cst (.agg F9)],.func (.func 70) [] [.cst (.agg F9)],.func (.func 71) [] [.cst (.agg F9)],.func (.func 72) [] [.cst (.agg F9),.cst (.sl false 1 [sB [116]])],.func (.func 79) [] [.cst (.sl false 3 [.agg a1Y]),.cst (.sl false 1 [sB [99]])],.func (.func 85) [] [.cst (.agg F9),.cst (.sl false 1 [])],.func (.func 93) [] [.cst (.agg F9),.cst (.sl false 1 [])]]],[],(nI 0,[])⟩
theorem k33:KA a33:=fK 30 (l := [a28,a32]) (fH k28 (fH k32 aH)) 120 (by kernel_rfl)
def a34:Ans:=⟨18,[.agg F9],[],(nI 0,[])⟩
theorem k34:KA a34:=fK 30 (l := [a33]) (fH k33 aH) 120 (by kernel_rfl)
def a35:Ans:=⟨36,[sB [109,111,100,101,108,32,109,59,32,101,118,101,110,116,32,97,32,99,111,110,116,114,111,108,108,97,98,108,101,59,32,116,101,109,112,108,97,116,101,32,116,40,120,41,32,123,32,108,111,99,97,116,105,111,110,32,112,32,109,97,114,107,101,100,59,32,101,100,103,101,32,112,32,120,32,112,59,32,125,32,99,111,109,112,111,110,101,110,116,32,99,32,61,32,116,40,97,41,59]],[],(.tuple [.agg F9,nI 0,nI 0,nI 0],[])⟩
theorem k35:KA a35:=fK 30 (l := [a4,a11,a15,a34]) (fH k4 (fH k11 (fH k15 (fH k34 aH)))) 120 (by kernel_rfl)
def aU9:LP := [nI 1,sB [109,111,100,101,108],nI 0,nI 0,nI 0]
def aUW:LP := [nI 1,sB [109],nI 0,nI 0,nI 0]
def OQ:LP := [nI 3,sB [59],nI 0,nI 0,nI 0]
def aVP:LP := [nI 1,sB [101,118,101,110,116],nI 0,nI 0,nI 0]
def aRW:LP := [nI 1,sB [97],nI 0,nI 0,nI 0]
def aVL:LP := [nI 1,sB [99,111,110,116,114,111,108,108,97,98,108,101],nI 0,nI 0,nI 0]
def l237:LP := [nI 1,sB [116,101,109,112,108,97,116,101],nI 0,nI 0,nI 0]
def aV7:LP := [nI 1,sB [116],nI 0,nI 0,nI 0]
def aE2:LP := [nI 3,sB [40],nI 0,nI 0,nI 0]
def aLU:LP := [nI 1,sB [120],nI 0,nI 0,nI 0]
def aGL:LP := [nI 3,sB [41],nI 0,nI 0,nI 0]
def b2U:LP := [nI 3,sB [123],nI 0,nI 0,nI 0]
def b1W:LP := [nI 1,sB [108,111,99,97,116,105,111,110],nI 0,nI 0,nI 0]
def aEH:LP := [nI 1,sB [112],nI 0,nI 0,nI 0]
def b1L:LP := [nI 1,sB [105,110,105,116,105,97,108],nI 0,nI 0,nI 0]
def a_W:LP := [nI 1,sB [109,97,114,107,101,100],nI 0,nI 0,nI 0]
def b37:LP := [nI 1,sB [101,100,103,101],nI 0,nI 0,nI 0]
def a'3:LP := [nI 3,sB [125],nI 0,nI 0,nI 0]
def a36:Ans:=⟨168,[.ptr 0 0,.agg FK],[some [.sl true 5 [.agg aU9,.agg aUW,.agg OQ,.agg aVP,.agg aRW,.agg aVL,.agg OQ]]],(.tuple [],[some [.sl true 5 [.agg aU9,.agg aUW,.agg OQ,.agg aVP,.agg aRW,.agg aVL,.agg OQ,.agg l237,.agg aV7,.agg aE2,.agg aLU,.agg aGL,.agg b2U,.agg b1W,.agg aEH,.agg b1L,.agg a_W,.agg OQ,.agg b37,.agg aEH,.agg aLU,.agg aEH,.agg OQ,.agg a'3]]])⟩
theorem k36:KA a36:=fK 30 (l := []) aH 120 (by kernel_rfl)
def a6V:LP := [.agg aU9,.agg aUW,.agg OQ,.agg aVP,.agg aRW,.agg aVL,.agg OQ,.agg l237,.agg aV7,.agg aE2,.agg aLU,.agg aGL,.agg b2U,.agg b1W,.agg aEH,.agg b1L,.agg a_W,.agg OQ,.agg b37,.agg aEH,.agg aLU,.agg aEH,.agg OQ,.agg a'3,.agg [nI 1,sB [99,111,109,112,111,110,101,110,116],nI 0,nI 0,nI 0],.agg [nI 1,sB [99],nI 0,nI 0,nI 0],.agg [nI 3,sB [61],nI 0,nI 0,nI 0],.agg aV7,.agg aE2,.agg aRW,.agg aGL,.agg OQ]
def a37:Ans:=⟨57,[.ptr 0 0,.agg F9],[some [.sl true 5 []]],(.tuple [],[some [.sl true 5 a6V]])⟩
theorem k37:KA a37:=fK 30 (l := [a36]) (fH k36 aH) 120 (by kernel_rfl)
def a38:Ans:=⟨299,[.sl false 5 a6V,.func (.func 246) [] []],[],(nI (-1),[])⟩
theorem k38:KA a38:=fK 30 (l := []) aH 120 (by kernel_rfl)
def b1M:LP:=nI 1::sB [109,111,100,101,108]::nI 0::nI 0::nI 0::nI 1::sB [109]::nI 0::nI 0::nI 0::nI 3::sB [59]::nI 0::nI 0::nI 0::nI 1::sB [101,118,101,110,116]::nI 0::nI 0::nI 0::nI 1::sB [97]::nI 0::nI 0::nI 0::nI 1::sB [99,111,110,116,114,111,108,108,97,98,108,101]::nI 0::nI 0::nI 0::nI 3::sB [59]::nI 0::nI 0::nI 0::nI 1::sB [116,101,109,112,108,97,116,101]::nI 0::nI 0::nI 0::nI 1::sB [116]::nI 0::nI 0::nI 0::nI 3::sB [40]::nI 0::nI 0::nI 0::nI 1::sB [120]::nI 0::nI 0::nI 0::nI 3::sB [41]::nI 0::nI 0::nI 0::nI 3::sB [123]::nI 0::nI 0::nI 0::nI 1::sB [108,111,99,97,116,105,111,110]::nI 0::nI 0::nI 0::nI 1::sB [112]::nI 0::nI 0::nI 0::nI 1::sB [105,110,105,116,105,97,108]::nI 0::nI 0::nI 0::nI 1::sB [109,97,114,107,101,100]::nI 0::nI 0::nI 0::nI 3::sB [59]::nI 0::nI 0::nI 0::nI 1::sB [101,100,103,101]::nI 0::nI 0::nI 0::nI 1::sB [112]::nI 0::nI 0::nI 0::nI 1::sB [120]::nI 0::nI 0::nI 0::nI 1::sB [112]::nI 0::nI 0::nI 0::nI 3::sB [59]::nI 0::nI 0::nI 0::nI 3::sB [125]::nI 0::nI 0::nI 0::nI 1::sB [99,111,109,112,111,110,101,110,116]::nI 0::nI 0::nI 0::nI 1::sB [99]::nI 0::nI 0::nI 0::nI 3::sB [61]::nI 0::nI 0::nI 0::nI 1::sB [116]::nI 0::nI 0::nI 0::nI 3::sB [40]::nI 0::nI 0::nI 0::nI 1::sB [97]::nI 0::nI 0::nI 0::nI 3::sB [41]::nI 0::nI 0::(nI 0::OQ)
def a39:Ans:=⟨244,[.slh 0 0 32 5,.func (.func 246) [] []],[some b1M],(.slh 0 0 32 5,[some b1M])⟩
theorem k39:KA a39:=fK 30 (l := [a38]) (fH k38 aH) 120 (by kernel_rfl)
def a40:Ans:=⟨175,[.sl false 5 a6V],[],(.sl false 5 a6V,[])⟩
theorem k40:KA a40:=fK 30 (l := [a39]) (fH k39 aH) 120 (by kernel_rfl)
def a_R:LP := [nI 1,sB [109,111,100,101,108],nI 0,nI 1,nI 1]
def a_M:LP := [nI 1,sB [109],nI 0,nI 1,nI 7]
def b1N:LP := [nI 3,sB [59],nI 0,nI 1,nI 9]
def a'6:LP := [nI 0,nI 1,nI 11]
def aZ':LP:=nI 1::sB [101,118,101,110,116]::a'6
def a'X:LP := [nI 1,sB [97],nI 0,nI 1,nI 17]
def b0O:LP := [nI 1,sB [99,111,110,116,114,111,108,108,97,98,108,101],nI 0,nI 1,nI 19]
def a'Q:LP:=nI 3::(sB [59]::l8)
def a_2:LP := [nI 1,sB [116,101,109,112,108,97,116,101],nI 0,nI 1,nI 34]
def a_Q:LP:=nI 1::(sB [116]::l17)
def b2I:LP := [nI 3,sB [40],nI 0,nI 1,nI 45]
def b2M:LP := [nI 1,sB [120],nI 0,nI 1,nI 47]
def a'J:LP := [nI 3,sB [41],nI 0,nI 1,nI 49]
def aZR:LP := [nI 3,sB [123],nI 0,nI 1,nI 51]
def a'Y:LP := [nI 1,sB [108,111,99,97,116,105,111,110],nI 0,nI 1,nI 53]
def b1P:LP := [nI 1,sB [112],nI 0,nI 1,nI 62]
def a'P:LP := [nI 1,sB [105,110,105,116,105,97,108],nI 0,nI 1,nI 64]
def a_X:LP:=nI 1::sB [109,97,114,107,101,100]::l41
def aZW:LP:=nI 3::(sB [59]::l53)
def a_F:LP:=nI 1::(sB [101,100,103,101]::l56)
def aZI:LP := [nI 1,sB [112],nI 0,nI 1,nI 86]
def b0D:LP := [nI 1,sB [120],nI 0,nI 1,nI 88]
def a'V:LP := [nI 1,sB [112],nI 0,nI 1,nI 90]
def aZM:LP := [nI 3,sB [59],nI 0,nI 1,nI 92]
def b3B:LP := [nI 3,sB [125],nI 0,nI 1,nI 94]
def b04:LP:=nI 1::sB [99,111,109,112,111,110,101,110,116]::l68
def b1V:LP := [nI 1,sB [99],nI 0,nI 1,nI 106]
def b3G:LP := [nI 3,sB [61],nI 0,nI 1,nI 108]
def b1K:LP := [nI 1,sB [116],nI 0,nI 1,nI 110]
def a'Z:LP := [nI 3,sB [40],nI 0,nI 1,nI 112]
def b0G:LP := [nI 1,sB [97],nI 0,nI 1,nI 114]
def b3F:LP := [nI 3,sB [41],nI 0,nI 1,nI 116]
def b0J:LP := [nI 3,sB [59],nI 0,nI 1,nI 118]
def b2A:LP := [nI 4,sB [],nI 0,nI 1,nI 119]
def aZJ:LP := [.agg a_R,.agg a_M,.agg b1N,.agg aZ',.agg a'X,.agg b0O,.agg a'Q,.agg a_2,.agg a_Q,.agg b2I,.agg b2M,.agg a'J,.agg aZR,.agg a'Y,.agg b1P,.agg a'P,.agg a_X,.agg aZW,.agg a_F,.agg aZI,.agg b0D,.agg a'V,.agg aZM,.agg b3B,.agg b04,.agg b1V,.agg b3G,.agg b1K,.agg a'Z,.agg b0G,.agg b3F,.agg b0J,.agg b2A]
def a41:Ans:=⟨299,[.sl false 5 aZJ,.func (.func 246) [] []],[],(nI 32,[])⟩
theorem k41:KA a41:=fK 30 (l := []) aH 120 (by kernel_rfl)
def b0Z:LP := [nI 0,sB [],nI 0,nI 0,nI 0]
def a42:Ans:=⟨244,[.slh 0 0 33 5,.func (.func 246) [] []],[some (nI 1::sB [109,111,100,101,108]::nI 0::nI 1::nI 1::nI 1::sB [109]::nI 0::nI 1::nI 7::nI 3::sB [59]::nI 0::nI 1::nI 9::nI 1::sB [101,118,101,110,116]::nI 0::nI 1::nI 11::nI 1::sB [97]::nI 0::nI 1::nI 17::nI 1::sB [99,111,110,116,114,111,108,108,97,98,108,101]::nI 0::nI 1::nI 19::nI 3::sB [59]::nI 0::nI 1::nI 32::nI 1::sB [116,101,109,112,108,97,116,101]::nI 0::nI 1::nI 34::nI 1::sB [116]::nI 0::nI 1::nI 43::nI 3::sB [40]::nI 0::nI 1::nI 45::nI 1::sB [120]::nI 0::nI 1::nI 47::nI 3::sB [41]::nI 0::nI 1::nI 49::nI 3::sB [123]::nI 0::nI 1::nI 51::nI 1::sB [108,111,99,97,116,105,111,110]::nI 0::nI 1::nI 53::nI 1::sB [112]::nI 0::nI 1::nI 62::nI 1::sB [105,110,105,116,105,97,108]::nI 0::nI 1::nI 64::nI 1::sB [109,97,114,107,101,100]::nI 0::nI 1::nI 72::nI 3::sB [59]::nI 0::nI 1::nI 79::nI 1::sB [101,100,103,101]::nI 0::nI 1::nI 81::nI 1::sB [112]::nI 0::nI 1::nI 86::nI 1::sB [120]::nI 0::nI 1::nI 88::nI 1::sB [112]::nI 0::nI 1::nI 90::nI 3::sB [59]::nI 0::nI 1::nI 92::nI 3::sB [125]::nI 0::nI 1::nI 94::nI 1::sB [99,111,109,112,111,110,101,110,116]::nI 0::nI 1::nI 96::nI 1::sB [99]::nI 0::nI 1::nI 106::nI 3::sB [61]::nI 0::nI 1::nI 108::nI 1::sB [116]::nI 0::nI 1::nI 110::nI 3::sB [40]::nI 0::nI 1::nI 112::nI 1::sB [97]::nI 0::nI 1::nI 114::nI 3::sB [41]::nI 0::nI 1::nI 116::nI 3::sB [59]::nI 0::nI 1::(nI 118::b2A))],(.slh 0 0 32 5,[some (nI 1::sB [109,111,100,101,108]::nI 0::nI 1::nI 1::nI 1::sB [109]::nI 0::nI 1::nI 7::nI 3::sB [59]::nI 0::nI 1::nI 9::nI 1::sB [101,118,101,110,116]::nI 0::nI 1::nI 11::nI 1::sB [97]::nI 0::nI 1::nI 17::nI 1::sB [99,111,110,116,114,111,108,108,97,98,108,101]::nI 0::nI 1::nI 19::nI 3::sB [59]::nI 0::nI 1::nI 32::nI 1::sB [116,101,109,112,108,97,116,101]::nI 0::nI 1::nI 34::nI 1::sB [116]::nI 0::nI 1::nI 43::nI 3::sB [40]::nI 0::nI 1::nI 45::nI 1::sB [120]::nI 0::nI 1::nI 47::nI 3::sB [41]::nI 0::nI 1::nI 49::nI 3::sB [123]::nI 0::nI 1::nI 51::nI 1::sB [108,111,99,97,116,105,111,110]::nI 0::nI 1::nI 53::nI 1::sB [112]::nI 0::nI 1::nI 62::nI 1::sB [105,110,105,116,105,97,108]::nI 0::nI 1::nI 64::nI 1::sB [109,97,114,107,101,100]::nI 0::nI 1::nI 72::nI 3::sB [59]::nI 0::nI 1::nI 79::nI 1::sB [101,100,103,101]::nI 0::nI 1::nI 81::nI 1::sB [112]::nI 0::nI 1::nI 86::nI 1::sB [120]::nI 0::nI 1::nI 88::nI 1::sB [112]::nI 0::nI 1::nI 90::nI 3::sB [59]::nI 0::nI 1::nI 92::nI 3::sB [125]::nI 0::nI 1::nI 94::nI 1::sB [99,111,109,112,111,110,101,110,116]::nI 0::nI 1::nI 96::nI 1::sB [99]::nI 0::nI 1::nI 106::nI 3::sB [61]::nI 0::nI 1::nI 108::nI 1::sB [116]::nI 0::nI 1::nI 110::nI 3::sB [40]::nI 0::nI 1::nI 112::nI 1::sB [97]::nI 0::nI 1::nI 114::nI 3::sB [41]::nI 0::nI 1::nI 116::nI 3::sB [59]::nI 0::nI 1::nI 118::b0Z)])⟩
theorem k42:KA a42:=fK 30 (l := [a41]) (fH k41 aH) 120 (by kernel_rfl)
def a'G:LP := [.agg a_R,.agg a_M,.agg b1N,.agg aZ',.agg a'X,.agg b0O,.agg a'Q,.agg a_2,.agg a_Q,.agg b2I,.agg b2M,.agg a'J,.agg aZR,.agg a'Y,.agg b1P,.agg a'P,.agg a_X,.agg aZW,.agg a_F,.agg aZI,.agg b0D,.agg a'V,.agg aZM,.agg b3B,.agg b04,.agg b1V,.agg b3G,.agg b1K,.agg a'Z,.agg b0G,.agg b3F,.agg b0J]
def a43:Ans:=⟨175,[.sl false 5 aZJ],[],(.sl false 5 a'G,[])⟩
theorem k43:KA a43:=fK 30 (l := [a42]) (fH k42 aH) 120 (by kernel_rfl)
def a44:Ans:=⟨209,[.sl false 5 a'G,.sl false 5 a6V,.func (.func 210) [] []],[],(.bool true,[])⟩
theorem k44:KA a44:=fK 30 (l := []) aH 120 (by kernel_rfl)
def a45:Ans:=⟨114,[.sl false 5 a6V],[],(.tuple [sB [109,111,100,101,108,32,109,32,59,32,101,118,101,110,116,32,97,32,99,111,110,116,114,111,108,108,97,98,108,101,32,59,32,116,101,109,112,108,97,116,101,32,116,32,40,32,120,32,41,32,123,32,108,111,99,97,116,105,111,110,32,112,32,105,110,105,116,105,97,108,32,109,97,114,107,101,100,32,59,32,101,100,103,101,32,112,32,120,32,112,32,59,32,125,32,99,111,109,112,111,110,101,110,116,32,99,32,61,32,116,32,40,32,97,32,41,32,59],nI 0],[])⟩
theorem k45:KA a45:=fK 30 (l := [a40,a43,a44]) (fH k40 (fH k43 (fH k44 aH))) 120 (by kernel_rfl)
def b1A:LP := [sB [109,111,100,101,108,32,109,59,10,101,118,101,110,116,32,97,32,99,111,110,116,114,111,108,108,97,98,108,101,59,10,116,101,109,112,108,97,116,101,32,116,32,40,120,41,32,123,10,32,32,108,111,99,97,116,105,111,110,32,112,32,105,110,105,116,105,97,108,32,109,97,114,107,101,100,59,10,32,32,101,100,103,101,32,112,32,120,32,112,59,10,125,10,99,111,109,112,111,110,101,110,116,32,99,32,61,32,116,32,40,97,41,59,10],nI 0]
def a46:Ans:=⟨58,[.sl false 5 a6V],[],(.tuple b1A,[])⟩
theorem k46:KA a46:=fK 30 (l := [a45,a40]) (fH k45 (fH k40 aH)) 120 (by kernel_rfl)
def a47:Ans:=⟨17,[.agg F9],[],(.tuple b1A,[])⟩
theorem k47:KA a47:=fK 30 (l := [a34,a37,a46]) (fH k34 (fH k37 (fH k46 aH))) 120 (by kernel_rfl)
def kL:LP := [.ptr 1 0,nI 0,.sl false 1 [sB [110]]]
def aUV:LP := [nI 1,sB [110],nI 0,nI 1,nI 1]
def aWK:LP := [nI 3,sB [43],nI 0,nI 1,nI 3]
def aVN:LP := [nI 2,sB [49],nI 1,nI 1,nI 5]
def aVC:LP := [nI 3,sB [60],nI 0,nI 1,nI 7]
def aWS:LP := [nI 2,sB [51],nI 3,nI 1,nI 9]
def aXY:LP:=nI 3::(sB [38,38]::a'6)
def aX8:LP := [nI 3,sB [33],nI 0,nI 1,nI 14]
def b1R:LP := [nI 2,sB [48],nI 0,nI 1,nI 21]
def aWR:LP := [nI 3,sB [41],nI 0,nI 1,nI 22]
def aZH:LP := [nI 0,nI 1,nI 23]
def aQM:LP:=nI 4::sB []::aZH
def a_6:LP := [.agg (nI 3::(sB [61,61]::l2)),.agg b1R,.agg aWR,.agg aQM]
def b3H:LP := .agg (nI 1::(sB [110]::aU1))::a_6
def aZG:LP := .agg [nI 3,sB [40],nI 0,nI 1,nI 15]::b3H
def b1H:LP := .agg aX8::aZG
def a_1:LP := .agg aXY::b1H
def b2S:LP := .agg aWS::a_1
def b2Z:LP := .agg aVC::b2S
def a'C:LP := .agg aVN::b2Z
def b1S:LP := .agg aWK::a'C
def a4B:LP := [.sl false 5 (.agg aUV::b1S),nI 0,nI 0,nI 0]
def aUD:LP := [.sl false 5 b1S,nI 0,nI 0,nI 0]
def a48:Ans:=⟨254,[.ptr 0 0],[some kL,some a4B],(.agg (nI 1::VN),[some kL,some aUD])⟩
theorem k48:KA a48:=fK 30 (l := []) aH 120 (by kernel_rfl)
def a49:Ans:=⟨196,[.ptr 0 0,nI 6],[some kL,some a4B],(.agg (nI 1::VN),[some kL,some aUD])⟩
theorem k49:KA a49:=fK 30 (l := [a48]) (fH k48 aH) 120 (by kernel_rfl)
def a50:Ans:=⟨196,[.ptr 0 0,nI 5],[some kL,some a4B],(.agg (nI 1::VN),[some kL,some aUD])⟩
theorem k50:KA a50:=fK 30 (l := [a49]) (fH k49 aH) 120 (by kernel_rfl)
def aZP:LP := [.sl false 5 a'C,nI 0,nI 0,nI 0]
def aWP:LP := [nI 0,nI 1,nI 0,.sl false 4 []]
def aVY:LP := [.sl false 5 b2Z,nI 0,nI 0,nI 0]
def a51:Ans:=⟨196,[.ptr 0 0,nI 6],[some kL,some aZP],(.agg aWP,[some kL,some aVY])⟩
theorem k51:KA a51:=fK 30 (l := []) aH 120 (by kernel_rfl)
def a52:Ans:=⟨196,[.ptr 0 0,nI 5],[some kL,some aZP],(.agg aWP,[some kL,some aVY])⟩
theorem k52:KA a52:=fK 30 (l := [a51]) (fH k51 aH) 120 (by kernel_rfl)
def aKT:LP := [nI 2,nI 0,nI 0,.sl false 4 [.agg (nI 1::VN),.agg aWP]]
def a53:Ans:=⟨196,[.ptr 0 0,nI 4],[some kL,some a4B],(.agg aKT,[some kL,some aVY])⟩
theorem k53:KA a53:=fK 30 (l := [a50,a52]) (fH k50 (fH k52 aH)) 120 (by kernel_rfl)
def aW6:LP := [.sl false 5 b2S,nI 0,nI 0,nI 0]
def aKB:LP := [nI 0,nI 3,nI 0,.sl false 4 []]
def aS0:LP := [.sl false 5 a_1,nI 0,nI 0,nI 0]
def a54:Ans:=⟨196,[.ptr 0 0,nI 6],[some kL,some aW6],(.agg aKB,[some kL,some aS0])⟩
theorem k54:KA a54:=fK 30 (l := []) aH 120 (by kernel_rfl)
def a55:Ans:=⟨196,[.ptr 0 0,nI 5],[some kL,some aW6],(.agg aKB,[some kL,some aS0])⟩
theorem k55:KA a55:=fK 30 (l := [a54]) (fH k54 aH) 120 (by kernel_rfl)
def a56:Ans:=⟨196,[.ptr 0 0,nI 4],[some kL,some aW6],(.agg aKB,[some kL,some aS0])⟩
theorem k56:KA a56:=fK 30 (l := [a55]) (fH k55 aH) 120 (by kernel_rfl)
def aIT:LP := [nI 8,nI 0,nI 0,.sl false 4 [.agg aKT,.agg aKB]]
def a57:Ans:=⟨196,[.ptr 0 0,nI 3],[some kL,some a4B],(.agg aIT,[some kL,some aS0])⟩
theorem k57:KA a57:=fK 30 (l := [a53,a56]) (fH k53 (fH k56 aH)) 120 (by kernel_rfl)
def uJ:LP := [.ptr 1 0,nI 2,.sl false 1 [sB [110]]]
def a0D:LP := [.sl false 5 b3H,nI 0,nI 0,nI 0]
def aPG:LP := [.sl false 5 a_6,nI 0,nI 0,nI 0]
def a58:Ans:=⟨254,[.ptr 0 0],[some uJ,some a0D],(.agg (nI 1::VN),[some uJ,some aPG])⟩
theorem k58:KA a58:=fK 30 (l := []) aH 120 (by kernel_rfl)
def a59:Ans:=⟨196,[.ptr 0 0,nI 6],[some uJ,some a0D],(.agg (nI 1::VN),[some uJ,some aPG])⟩
theorem k59:KA a59:=fK 30 (l := [a58]) (fH k58 aH) 120 (by kernel_rfl)
def a60:Ans:=⟨196,[.ptr 0 0,nI 5],[some uJ,some a0D],(.agg (nI 1::VN),[some uJ,some aPG])⟩
theorem k60:KA a60:=fK 30 (l := [a59]) (fH k59 aH) 120 (by kernel_rfl)
def a61:Ans:=⟨196,[.ptr 0 0,nI 4],[some uJ,some a0D],(.agg (nI 1::VN),[some uJ,some aPG])⟩
theorem k61:KA a61:=fK 30 (l := [a60]) (fH k60 aH) 120 (by kernel_rfl)
def aV4:LP := [.sl false 5 [.agg b1R,.agg aWR,.agg aQM],nI 0,nI 0,nI 0]
def UM:LP := [.sl false 5 [.agg aWR,.agg aQM],nI 0,nI 0,nI 0]
def a62:Ans:=⟨196,[.ptr 0 0,nI 6],[some uJ,some aV4],(.agg a2I,[some uJ,some UM])⟩
theorem k62:KA a62:=fK 30 (l := []) aH 120 (by kernel_rfl)
def a63:Ans:=⟨196,[.ptr 0 0,nI 5],[some uJ,some aV4],(.agg a2I,[some uJ,some UM])⟩
theorem k63:KA a63:=fK 30 (l := [a62]) (fH k62 aH) 120 (by kernel_rfl)
def a64:Ans:=⟨196,[.ptr 0 0,nI 4],[some uJ,some aV4],(.agg a2I,[some uJ,some UM])⟩
theorem k64:KA a64:=fK 30 (l := [a63]) (fH k63 aH) 120 (by kernel_rfl)
def EJ:LP := [nI 6,nI 0,nI 0,.sl false 4 [.agg (nI 1::VN),.agg a2I]]
def a65:Ans:=⟨196,[.ptr 0 0,nI 3],[some uJ,some a0D],(.agg EJ,[some uJ,some UM])⟩
theorem k65:KA a65:=fK 30 (l := [a61,a64]) (fH k61 (fH k64 aH)) 120 (by kernel_rfl)
def a66:Ans:=⟨196,[.ptr 0 0,nI 2],[some uJ,some a0D],(.agg EJ,[some uJ,some UM])⟩
theorem k66:KA a66:=fK 30 (l := [a65]) (fH k65 aH) 120 (by kernel_rfl)
def a67:Ans:=⟨196,[.ptr 0 0,nI 1],[some uJ,some a0D],(.agg EJ,[some uJ,some UM])⟩
theorem k67:KA a67:=fK 30 (l := [a66]) (fH k66 aH) 120 (by kernel_rfl)
def a68:Ans:=⟨102,[.ptr 0 0],[some uJ,some a0D],(.agg EJ,[some uJ,some UM])⟩
theorem k68:KA a68:=fK 30 (l := [a67]) (fH k67 aH) 120 (by kernel_rfl)
def aSY:LP := [.ptr 2 0,nI 2,.sl false 1 [sB [110]]]
def wW:LP := [.sl false 5 [.agg aQM],nI 0,nI 0,nI 0]
def a69:Ans:=⟨310,[.ptr 0 0],[some [.ptr 1 0],some aSY,some a0D],(.agg EJ,[some [.ptr 1 0],some aSY,some wW])⟩
theorem k69:KA a69:=fK 30 (l := [a68]) (fH k68 aH) 120 (by kernel_rfl)
def a9I:LP := [.ptr 2 0,nI 1,.sl false 1 [sB [110]]]
def aJ4:LP := [.sl false 5 aZG,nI 0,nI 0,nI 0]
def a70:Ans:=⟨307,[.ptr 0 0,.func (.func 310) [] [.ptr 1 0]],[some a9I,some [.ptr 0 0],some aJ4],(.agg EJ,[some a9I,some [.ptr 0 0],some wW])⟩
theorem k70:KA a70:=fK 30 (l := [a69]) (fH k69 aH) 120 (by kernel_rfl)
def aTE:LP := [.ptr 1 0,nI 1,.sl false 1 [sB [110]]]
def a71:Ans:=⟨254,[.ptr 0 0],[some aTE,some aJ4],(.agg EJ,[some aTE,some wW])⟩
theorem k71:KA a71:=fK 30 (l := [a70]) (fH k70 aH) 120 (by kernel_rfl)
def EG:LP := [nI 10,nI 0,nI 0,.sl false 4 [.agg EJ]]
def a72:Ans:=⟨308,[.ptr 0 0],[some [.ptr 1 0],some a9I,some aJ4],(.agg EG,[some [.ptr 1 0],some a9I,some wW])⟩
theorem k72:KA a72:=fK 30 (l := [a71]) (fH k71 aH) 120 (by kernel_rfl)
def aSD:LP := [.ptr 2 0,nI 0,.sl false 1 [sB [110]]]
def VZ:LP := [.sl false 5 b1H,nI 0,nI 0,nI 0]
def a73:Ans:=⟨307,[.ptr 0 0,.func (.func 308) [] [.ptr 1 0]],[some aSD,some [.ptr 0 0],some VZ],(.agg EG,[some aSD,some [.ptr 0 0],some wW])⟩
theorem k73:KA a73:=fK 30 (l := [a72]) (fH k72 aH) 120 (by kernel_rfl)
def a74:Ans:=⟨254,[.ptr 0 0],[some kL,some VZ],(.agg EG,[some kL,some wW])⟩
theorem k74:KA a74:=fK 30 (l := [a73]) (fH k73 aH) 120 (by kernel_rfl)
def a75:Ans:=⟨196,[.ptr 0 0,nI 6],[some kL,some VZ],(.agg EG,[some kL,some wW])⟩
theorem k75:KA a75:=fK 30 (l := [a74]) (fH k74 aH) 120 (by kernel_rfl)
def a76:Ans:=⟨196,[.ptr 0 0,nI 5],[some kL,some VZ],(.agg EG,[some kL,some wW])⟩
theorem k76:KA a76:=fK 30 (l := [a75]) (fH k75 aH) 120 (by kernel_rfl)
def a77:Ans:=⟨196,[.ptr 0 0,nI 4],[some kL,some VZ],(.agg EG,[some kL,some wW])⟩
theorem k77:KA a77:=fK 30 (l := [a76]) (fH k76 aH) 120 (by kernel_rfl)
def a78:Ans:=⟨196,[.ptr 0 0,nI 3],[some kL,some VZ],(.agg EG,[some kL,some wW])⟩
theorem k78:KA a78:=fK 30 (l := [a77]) (fH k77 aH) 120 (by kernel_rfl)
def EH:LP := [nI 11,nI 0,nI 0,.sl false 4 [.agg aIT,.agg EG]]
def a79:Ans:=⟨196,[.ptr 0 0,nI 2],[some kL,some a4B],(.agg EH,[some kL,some wW])⟩
theorem k79:KA a79:=fK 30 (l := [a57,a78]) (fH k57 (fH k78 aH)) 120 (by kernel_rfl)
def a80:Ans:=⟨196,[.ptr 0 0,nI 1],[some kL,some a4B],(.agg EH,[some kL,some wW])⟩
theorem k80:KA a80:=fK 30 (l := [a79]) (fH k79 aH) 120 (by kernel_rfl)
def a81:Ans:=⟨102,[.ptr 0 0],[some kL,some a4B],(.agg EH,[some kL,some wW])⟩
theorem k81:KA a81:=fK 30 (l := [a80]) (fH k80 aH) 120 (by kernel_rfl)
def a82:Ans:=⟨21,[.sl false 1 [sB [110]],sB [110,32,43,32,49,32,60,32,51,32,38,38,32,33,40,110,32,61,61,32,48,41]],[],(.tuple [.agg EH,nI 0,nI 0,nI 0],[])⟩
theorem k82:KA a82:=fK 30 (l := [a81]) (fH k81 aH) 120 (by kernel_rfl)
def a83:Ans:=⟨109,[.agg EH,nI 1,nI 1,.ptr 0 0],[some [nI 0]],(nI 0,[some [nI 10]])⟩
theorem k83:KA a83:=fK 30 (l := []) aH 120 (by kernel_rfl)
def a84:Ans:=⟨110,[.agg aIT],[],(nI 2,[])⟩
theorem k84:KA a84:=fK 30 (l := []) aH 120 (by kernel_rfl)
def a85:Ans:=⟨110,[.agg EH],[],(nI 2,[])⟩
theorem k85:KA a85:=fK 30 (l := [a84]) (fH k84 aH) 120 (by kernel_rfl)
def a86:Ans:=⟨27,[.agg EH,nI 1],[],(.tuple [nI 2,nI 0],[])⟩
theorem k86:KA a86:=fK 30 (l := [a83,a85]) (fH k83 (fH k85 aH)) 120 (by kernel_rfl)
def yV:LP := [nI 1,sB [110],nI 0,nI 0,nI 0]
def IQ:LP := [nI 3,sB [43],nI 0,nI 0,nI 0]
def NV:LP := [nI 2,sB [49],nI 1,nI 0,nI 0]
def aFR:LP := [.sl true 5 [.agg yV,.agg IQ,.agg NV]]
def a87:Ans:=⟨208,[nI 1,nI 5,.ptr 0 0,.cst (.sl false 1 [sB [110]]),.cst (.agg aKT)],[some [.ptr 1 0],some [.sl true 5 [.agg yV,.agg IQ]]],(.tuple [],[some [.ptr 1 0],some aFR])⟩
theorem k87:KA a87:=fK 30 (l := []) aH 120 (by kernel_rfl)
def a88:Ans:=⟨113,[.ptr 0 0,.sl false 1 [sB [110]],.agg aKT,nI 4],[some [.sl true 5 []]],(.tuple [],[some aFR])⟩
theorem k88:KA a88:=fK 30 (l := [a87]) (fH k87 aH) 120 (by kernel_rfl)
def aTS:LP := [nI 4,.ptr 0 0,.cst (.sl false 1 [sB [110]]),.cst (.agg aIT)]
def a89:Ans:=⟨208,(nI 0::aTS),[some [.ptr 1 0],some [.sl true 5 []]],(.tuple [],[some [.ptr 1 0],some aFR])⟩
theorem k89:KA a89:=fK 30 (l := [a88]) (fH k88 aH) 120 (by kernel_rfl)
def UJ:LP := [nI 3,sB [60],nI 0,nI 0,nI 0]
def WT:LP := [nI 2,sB [51],nI 3,nI 0,nI 0]
def aJI:LP := [.agg yV,.agg IQ,.agg NV,.agg UJ,.agg WT]
def a90:Ans:=⟨208,(nI 1::aTS),[some [.ptr 1 0],some [.sl true 5 [.agg yV,.agg IQ,.agg NV,.agg UJ]]],(.tuple [],[some [.ptr 1 0],some [.sl true 5 aJI]])⟩
theorem k90:KA a90:=fK 30 (l := []) aH 120 (by kernel_rfl)
def a91:Ans:=⟨113,[.ptr 0 0,.sl false 1 [sB [110]],.agg aIT,nI 2],[some [.sl true 5 []]],(.tuple [],[some [.sl true 5 aJI]])⟩
theorem k91:KA a91:=fK 30 (l := [a89,a90]) (fH k89 (fH k90 aH)) 120 (by kernel_rfl)
def aTM:LP := [.ptr 0 0,.cst (.sl false 1 [sB [110]]),.cst (.agg EH)]
def a92:Ans:=⟨208,(nI 0::nI 2::aTM),[some [.ptr 1 0],some [.sl true 5 []]],(.tuple [],[some [.ptr 1 0],some [.sl true 5 aJI]])⟩
theorem k92:KA a92:=fK 30 (l := [a91]) (fH k91 aH) 120 (by kernel_rfl)
def a0Q:LP := [nI 3,sB [38,38],nI 0,nI 0,nI 0]
def aBJ:LP := [nI 3,sB [33],nI 0,nI 0,nI 0]
def aFF:LP := [nI 3,sB [61,61],nI 0,nI 0,nI 0]
def aSB:LP := [nI 2,sB [48],nI 0,nI 0,nI 0]
def a93:Ans:=⟨208,[nI 1,nI 4,.ptr 0 0,.cst (.sl false 1 [sB [110]]),.cst (.agg EJ)],[some [.ptr 1 0],some [.sl true 5 [.agg yV,.agg IQ,.agg NV,.agg UJ,.agg WT,.agg a0Q,.agg aBJ,.agg aE2,.agg yV,.agg aFF]]],(.tuple [],[some [.ptr 1 0],some [.sl true 5 [.agg yV,.agg IQ,.agg NV,.agg UJ,.agg WT,.agg a0Q,.agg aBJ,.agg aE2,.agg yV,.agg aFF,.agg aSB]]])⟩
theorem k93:KA a93:=fK 30 (l := []) aH 120 (by kernel_rfl)
def aSV:LP := [.agg yV,.agg IQ,.agg NV,.agg UJ,.agg WT,.agg a0Q,.agg aBJ]
def I8:LP := [.agg yV,.agg IQ,.agg NV,.agg UJ,.agg WT,.agg a0Q,.agg aBJ,.agg aE2,.agg yV,.agg aFF,.agg aSB,.agg aGL]
def a94:Ans:=⟨113,[.ptr 0 0,.sl false 1 [sB [110]],.agg EJ,nI 6],[some [.sl true 5 aSV]],(.tuple [],[some [.sl true 5 I8]])⟩
theorem k94:KA a94:=fK 30 (l := [a93]) (fH k93 aH) 120 (by kernel_rfl)
def a95:Ans:=⟨208,[nI 0,nI 6,.ptr 0 0,.cst (.sl false 1 [sB [110]]),.cst (.agg EG)],[some [.ptr 1 0],some [.sl true 5 aSV]],(.tuple [],[some [.ptr 1 0],some [.sl true 5 I8]])⟩
theorem k95:KA a95:=fK 30 (l := [a94]) (fH k94 aH) 120 (by kernel_rfl)
def aSQ:LP := [.agg yV,.agg IQ,.agg NV,.agg UJ,.agg WT,.agg a0Q]
def a96:Ans:=⟨113,[.ptr 0 0,.sl false 1 [sB [110]],.agg EG,nI 3],[some [.sl true 5 aSQ]],(.tuple [],[some [.sl true 5 I8]])⟩
theorem k96:KA a96:=fK 30 (l := [a95]) (fH k95 aH) 120 (by kernel_rfl)
def a97:Ans:=⟨208,(nI 1::(nI 3::aTM)),[some [.ptr 1 0],some [.sl true 5 aSQ]],(.tuple [],[some [.ptr 1 0],some [.sl true 5 I8]])⟩
theorem k97:KA a97:=fK 30 (l := [a96]) (fH k96 aH) 120 (by kernel_rfl)
def a98:Ans:=⟨113,[.ptr 0 0,.sl false 1 [sB [110]],.agg EH,nI 0],[some [.sl true 5 []]],(.tuple [],[some [.sl true 5 I8]])⟩
theorem k98:KA a98:=fK 30 (l := [a92,a97]) (fH k92 (fH k97 aH)) 120 (by kernel_rfl)
def aSL:LP:=nI 1::sB [110]::nI 0::nI 0::nI 0::nI 3::sB [43]::nI 0::nI 0::nI 0::nI 2::sB [49]::nI 1::nI 0::nI 0::nI 3::sB [60]::nI 0::nI 0::nI 0::nI 2::sB [51]::nI 3::nI 0::nI 0::nI 3::sB [38,38]::nI 0::nI 0::nI 0::nI 3::sB [33]::nI 0::nI 0::nI 0::nI 3::sB [40]::nI 0::nI 0::nI 0::nI 1::sB [110]::nI 0::nI 0::nI 0::nI 3::sB [61,61]::nI 0::nI 0::nI 0::nI 2::sB [48]::nI 0::nI 0::(nI 0::aGL)
def a99:Ans:=⟨244,[.slh 0 0 12 5,.func (.func 246) [] []],[some aSL],(.slh 0 0 12 5,[some aSL])⟩
theorem k99:KA a99:=fK 30 (l := []) aH 120 (by kernel_rfl)
def a_C:Ans:=⟨175,[.sl false 5 I8],[],(.sl false 5 I8,[])⟩
theorem b6N:KA a_C:=fK 30 (l := [a99]) (fH k99 aH) 120 (by kernel_rfl)
def aTL:LP:=nI 3::(sB [40]::aU1)
def aTV:LP:=nI 1::(sB [110]::l2)
def aTH:LP := [nI 3,sB [61,61],nI 0,nI 1,nI 20]
def aSJ:LP:=nI 2::(sB [48]::aZH)
def aTK:LP := [nI 3,sB [41],nI 0,nI 1,nI 25]
def aSN:LP := [nI 4,sB [],nI 0,nI 1,nI 26]
def aTI:LP := [.agg aUV,.agg aWK,.agg aVN,.agg aVC,.agg aWS,.agg aXY,.agg aX8,.agg aTL,.agg aTV,.agg aTH,.agg aSJ,.agg aTK,.agg aSN]
def a_3:Ans:=⟨299,[.sl false 5 aTI,.func (.func 246) [] []],[],(nI 12,[])⟩
theorem b79:KA a_3:=fK 30 (l := []) aH 120 (by kernel_rfl)
def b3D:Ans:=⟨244,[.slh 0 0 13 5,.func (.func 246) [] []],[some (nI 1::sB [110]::nI 0::nI 1::nI 1::nI 3::sB [43]::nI 0::nI 1::nI 3::nI 2::sB [49]::nI 1::nI 1::nI 5::nI 3::sB [60]::nI 0::nI 1::nI 7::nI 2::sB [51]::nI 3::nI 1::nI 9::nI 3::sB [38,38]::nI 0::nI 1::nI 11::nI 3::sB [33]::nI 0::nI 1::nI 14::nI 3::sB [40]::nI 0::nI 1::nI 16::nI 1::sB [110]::nI 0::nI 1::nI 18::nI 3::sB [61,61]::nI 0::nI 1::nI 20::nI 2::sB [48]::nI 0::nI 1::nI 23::nI 3::sB [41]::nI 0::nI 1::(nI 25::aSN))],(.slh 0 0 12 5,[some (nI 1::sB [110]::nI 0::nI 1::nI 1::nI 3::sB [43]::nI 0::nI 1::nI 3::nI 2::sB [49]::nI 1::nI 1::nI 5::nI 3::sB [60]::nI 0::nI 1::nI 7::nI 2::sB [51]::nI 3::nI 1::nI 9::nI 3::sB [38,38]::nI 0::nI 1::nI 11::nI 3::sB [33]::nI 0::nI 1::nI 14::nI 3::sB [40]::nI 0::nI 1::nI 16::nI 1::sB [110]::nI 0::nI 1::nI 18::nI 3::sB [61,61]::nI 0::nI 1::nI 20::nI 2::sB [48]::nI 0::nI 1::nI 23::nI 3::sB [41]::nI 0::nI 1::(nI 25::b0Z))])⟩
theorem b6':KA b3D:=fK 30 (l := [a_3]) (fH b79 aH) 120 (by kernel_rfl)
def aSX:LP := [.agg aUV,.agg aWK,.agg aVN,.agg aVC,.agg aWS,.agg aXY,.agg aX8,.agg aTL,.agg aTV,.agg aTH,.agg aSJ,.agg aTK]
def a'4:Ans:=⟨175,[.sl false 5 aTI],[],(.sl false 5 aSX,[])⟩
theorem b7Q:KA a'4:=fK 30 (l := [b3D]) (fH b6' aH) 120 (by kernel_rfl)
def b0I:Ans:=⟨209,[.sl false 5 aSX,.sl false 5 I8,.func (.func 210) [] []],[],(.bool true,[])⟩
theorem b7M:KA b0I:=fK 30 (l := []) aH 120 (by kernel_rfl)
def aTC:LP := [sB [110,32,43,32,49,32,60,32,51,32,38,38,32,33,32,40,32,110,32,61,61,32,48,32,41],nI 0]
def a105:Ans:=⟨114,[.sl false 5 I8],[],(.tuple aTC,[])⟩
theorem b7':KA a105:=fK 30 (l := [a_C,a'4,b0I]) (fH b6N (fH b7Q (fH b7M aH))) 120 (by kernel_rfl)
def a_E:Ans:=⟨28,[.sl false 1 [sB [110]],.agg EH],[],(.tuple aTC,[])⟩
theorem b7E:KA a_E:=fK 30 (l := [a86,a98,a105]) (fH k86 (fH k98 (fH b7' aH))) 120 (by kernel_rfl)
def a107:Ans:=⟨12,[],[],(.bool true,[])⟩
theorem b86:KA a107:=fK 30 (l := [a35,a47,a82,a_E]) (fH k35 (fH k47 (fH k82 (fH b7E aH)))) 120 (by kernel_rfl)
end Go.Proofs.YtcdceiloganlnaaGreatDoor.W
