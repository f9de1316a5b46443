/- A part of the proof. -/
import Derived.Test.YtmbehibpfkkjbaaGreatDoorPs4
import Derived.Test.YtmbehibpfkkjbaaGreatDoorPs3
set_option linter.unusedVariables false
set_option linter.defProp false
set_option linter.unusedSimpArgs false
set_option linter.unnecessarySimpa false
set_option linter.unusedSectionVars false
noncomputable section
namespace Go.Proofs.YtmbehibpfkkjbaaGreatDoor.W
open Go.RowKit
set_option maxRecDepth 1000000
abbrev LP:=ai
abbrev nI (n:Int):PV := aP n
abbrev sB (l:d_):PV := .str ⟨⟨l⟩⟩
abbrev KA (a:Ans):Prop:=SS.CC a.g a.args a.h=some a.v
variable {a:Ans}
def iG {l:List Ans} (h:KA a) (c:∀ a,a∈l->KA a):∀ b,b∈a::l->KA b:=b5Q h c
def iH (m:Nat) {l:List Ans} (b:∀ a,a∈l->KA a) (n:Nat) (e:SS.stepT (SS.memo l m) n a.g a.args a.h=some a.v):KA a:=b3Q fG m b n e
def l0:LP := [ag,dm 195 [.ptr 1 0,.ptr 2 0]]
def l63:LP := [nI 3,sB [59],nI 0,nI 1,nI 99]
def l66:LP := [nI 4,sB [],nI 0,nI 1,nI 100]
def l68:LP := [.agg [nI 3,sB [40],nI 0,nI 1,nI 96],.agg [nI 1,sB [97],nI 0,nI 1,nI 97],.agg [nI 3,sB [41],nI 0,nI 1,nI 98],.agg l63,.agg l66]
def l71:LP := .agg [nI 1,sB [99],nI 0,nI 1,nI 91] :: .agg [nI 3,sB [61],nI 0,nI 1,nI 93] :: .agg [nI 1,sB [116],nI 0,nI 1,nI 95]::l68
def l72:LP := .agg [nI 1,sB [99,111,109,112,111,110,101,110,116],nI 0,nI 1,nI 81]::l71
def l73:LP := .agg [nI 3,sB [125],nI 0,nI 1,nI 79]::l72
def l77:LP := .agg [nI 1,sB [112],nI 0,nI 1,nI 72] :: .agg [nI 1,sB [120],nI 0,nI 1,nI 74] :: .agg [nI 1,sB [112],nI 0,nI 1,nI 76] :: .agg [nI 3,sB [59],nI 0,nI 1,nI 77]::l73
def l78:LP := .agg [nI 1,sB [101,100,103,101],nI 0,nI 1,nI 67]::l77
def Tu:LP := .agg [nI 1,sB [112],nI 0,nI 1,nI 57] :: .agg [nI 1,sB [109,97,114,107,101,100],nI 0,nI 1,nI 59] :: .agg [nI 3,sB [59],nI 0,nI 1,nI 65]::l78
def l83:LP := .agg [nI 3,sB [123],nI 0,nI 1,nI 46] :: .agg [nI 1,sB [108,111,99,97,116,105,111,110],nI 0,nI 1,nI 48]::Tu
def l84:LP := .agg [nI 3,sB [41],nI 0,nI 1,nI 44]::l83
def l85:LP := .agg [nI 1,sB [120],nI 0,nI 1,nI 43]::l84
def YK:LP := [.sl true 1 [],nI 0,nI 0,.sl true 1 [],.sl true 4 [],.sl true 8 []]
def l93:LP:=sB [116] :: .sl true 1 [] :: .sl true 1 []::YK
def l96:LP:=sB [116] :: .sl true 1 []::(.sl true 1 [sB [120]]::YK)
def a0:Ans:=⟨203,l0,[some [.sl false 5 l85,nI 0,nI 0,nI 0],some l93,some [.ptr 3 0],some [ag,nI 0,.sl true 1 []]],(.tuple [],[some [.sl false 5 l84,nI 0,nI 0,nI 0],some l96,some [.ptr 3 0],some [ag,nI 0,.sl true 1 []]])⟩
def k0:KA a0:=iH 40 (l := []) iF 400 (by kernel_rfl)
def l99:LP := [nI 3,sB [40],nI 0,nI 1,nI 42]
def a1:Ans:=⟨194,l0,[some [.ptr 3 0,nI 0,.sl true 1 []],some l93,some [ag],some [.sl false 5 (.agg l99::l85),nI 0,nI 0,nI 0]],(.tuple [],[some [.ptr 3 0,nI 0,.sl true 1 []],some l96,some [ag],some [.sl false 5 l83,nI 0,nI 0,nI 0]])⟩
def k1:KA a1:=iH 40 (l := [a0]) (iG k0 iF) 400 (by kernel_rfl)
def aWT:LP := [sB [116],.sl true 1 [sB [112]],.sl true 1 [sB [120]],.sl true 1 [],nI 0,nI 0,.sl true 1 [nI 0],.sl true 4 [],.sl true 8 []]
def a2:Ans:=⟨196,[ag,.ptr 1 0,.ptr 2 0],[some [.ptr 3 0,nI 0,.sl true 1 []],some l96,some [.bool false],some [.sl false 5 Tu,nI 0,nI 0,nI 0]],(.tuple [],[some [.ptr 3 0,nI 0,.sl true 1 []],some aWT,some [.bool false],some [.sl false 5 l78,nI 0,nI 0,nI 0]])⟩
def k2:KA a2:=iH 40 (l := []) iF 400 (by kernel_rfl)
def aDZ:LP := [nI 0,nI 0,.sl false 4 []]
def Oz:LP:=nI 0::aDZ
def aWU:LP := [nI 0,nI 0,nI 0,nI 6,nI 0,nI 0,.sl false 4 [.agg Oz,.agg Oz],.sl false 5 []]
def a3:Ans:=⟨198,[ag,.ptr 1 0],[some [.ptr 2 0,nI 0,.sl true 1 []],some aWT,some [.sl false 5 l77,nI 0,nI 0,nI 0]],(.tuple [],[some [.ptr 2 0,nI 0,.sl true 1 []],some [sB [116],.sl true 1 [sB [112]],.sl true 1 [sB [120]],.sl true 1 [],nI 0,nI 0,.sl true 1 [nI 0],.sl true 4 [],.sl true 8 [.agg aWU]],some [.sl false 5 l73,nI 0,nI 0,nI 0]])⟩
def k3:KA a3:=iH 40 (l := []) iF 400 (by kernel_rfl)
def LC:LP := [sB [97],.bool true,.bool false,.bool false,nI 0]
def aWW:LP := [.sl true 3 [],.sl true 2 [],.sl true 3 []]
def aWX:LP := .sl true 3 []::aWW
def aD':LP:=sB [109] :: .sl true 5 [.agg LC] :: .sl true 9 []::aWX
def YF:LP := .agg [nI 1,sB [116],nI 0,nI 1,nI 41]::(.agg l99::l85)
def aWY:LP := [.sl false 5 YF,nI 0,nI 0,nI 0]
def LD:LP := [a_ [nI 0],nI 1,nI 0,a_ [nI 0],.sl false 4 [],.sl false 8 [.agg aWU]]
def rH:LP:=sB [116] :: a_ [sB [112]] :: a_ [sB [120]]::LD
def Tq:LP:=sB [109] :: .sl true 5 [.agg LC]::(.sl true 9 [.agg rH]::aWX)
def QD:LP := [.sl false 5 l72,nI 0,nI 0,nI 0]
def a4:Ans:=⟨92,[ag,.ptr 1 0],[some [.ptr 2 0,nI 0,.sl true 1 []],some aD',some aWY],(.tuple [],[some [.ptr 2 0,nI 0,.sl true 1 []],some Tq,some QD])⟩
def k4:KA a4:=iH 40 (l := [a1,a2,a3]) (iG k1 (iG k2 (iG k3 iF))) 400 (by kernel_rfl)
def a5:Ans:=⟨91,[ag,.ptr 1 0],[some [.ptr 2 0],some [.ptr 3 0],some [.ptr 4 0,nI 0,.sl true 1 []],some aD',some aWY],(.tuple [],[some [.ptr 2 0],some [.ptr 3 0],some [.ptr 4 0,nI 0,.sl true 1 []],some Tq,some QD])⟩
def k5:KA a5:=iH 40 (l := [a4]) (iG k4 iF) 400 (by kernel_rfl)
def a6:Ans:=⟨31,[ag,.ptr 1 0],[some [.ptr 2 0,nI 0,.sl true 1 []],some aD',some [.sl false 5 (.agg [nI 1,sB [116,101,109,112,108,97,116,101],nI 0,nI 1,nI 32]::YF),nI 0,nI 0,nI 0]],(.tuple [],[some [.ptr 2 0,nI 0,.sl true 1 []],some Tq,some QD])⟩
def k6:KA a6:=iH 40 (l := [a5]) (iG k5 iF) 400 (by kernel_rfl)
def a7:Ans:=⟨194,[ag,dm 201 [.ptr 1 0,.ptr 2 0]],[some [.ptr 3 0,nI 0,.sl true 1 []],some [sB [99],sB [116],.sl true 1 []],some [ag],some [.sl false 5 l68,nI 0,nI 0,nI 0]],(.tuple [],[some [.ptr 3 0,nI 0,.sl true 1 []],some [sB [99],sB [116],.sl true 1 [sB [97]]],some [ag],some [.sl false 5 [.agg l63,.agg l66],nI 0,nI 0,nI 0]])⟩
def k7:KA a7:=iH 40 (l := []) iF 400 (by kernel_rfl)
def aWZ:LP := [.sl false 5 l71,nI 0,nI 0,nI 0]
def aE0:LP := [sB [99],sB [116],a_ [sB [97]]]
def aE1:LP:=sB [109] :: .sl true 5 [.agg LC] :: .sl true 9 [.agg rH]::(.sl true 3 [.agg aE0]::aWW)
def aE2:LP := [.sl false 5 [.agg l66],nI 0,nI 0,nI 0]
def a8:Ans:=⟨94,[ag,.ptr 1 0,.ptr 1 3],[some [.ptr 2 0,nI 0,.sl true 1 []],some Tq,some aWZ],(.tuple [],[some [.ptr 2 0,nI 0,.sl true 1 []],some aE1,some aE2])⟩
def k8:KA a8:=iH 40 (l := [a7]) (iG k7 iF) 400 (by kernel_rfl)
def a9:Ans:=⟨93,[ag,.ptr 1 0],[some [.ptr 2 0],some [.ptr 3 0],some [.ptr 4 0,nI 0,.sl true 1 []],some Tq,some aWZ],(.tuple [],[some [.ptr 2 0],some [.ptr 3 0],some [.ptr 4 0,nI 0,.sl true 1 []],some aE1,some aE2])⟩
def k9:KA a9:=iH 40 (l := [a8]) (iG k8 iF) 400 (by kernel_rfl)
def w_:Ans:=⟨31,[ag,.ptr 1 0],[some [.ptr 2 0,nI 0,.sl true 1 []],some Tq,some QD],(.tuple [],[some [.ptr 2 0,nI 0,.sl true 1 []],some aE1,some aE2])⟩
def k10:KA w_:=iH 40 (l := [a9]) (iG k9 iF) 400 (by kernel_rfl)
def QN:Ans:=⟨108,[a_ [dm 208 [.cst (.agg rH)],dm 210 [.cst (.agg rH)],dm 211 [.cst (.agg LD),.cst (.agg rH)],dm 212 [.cst (.agg LD),.cst (.agg rH)],dm 213 [.cst (.agg LD)],dm 214 [.cst (.agg LD)],dm 216 [.cst (.agg LD)],dm 218 [.cst (.agg LD)],dm 221 [.cst (.agg LD),.cst (.agg rH)]]],[],(nI 0,[])⟩
def k11:KA QN:=iH 40 (l := []) iF 400 (by kernel_rfl)
def a12:Ans:=⟨120,[.agg rH],[],(nI 0,[])⟩
def k12:KA a12:=iH 40 (l := [QN]) (iG k11 iF) 400 (by kernel_rfl)
def AA:LP := [sB [109],.sl false 5 [.agg LC],.sl false 9 [.agg rH],.sl false 3 [.agg aE0],.sl false 3 [],.sl false 2 [],.sl false 3 []]
def a13:Ans:=⟨119,[.cst (.agg AA),.cst (nI 0)],[],(nI 0,[])⟩
def k13:KA a13:=iH 40 (l := [a12]) (iG k12 iF) 400 (by kernel_rfl)
def a14:Ans:=⟨108,[a_ [dm 117 [.cst (a_ [sB [116]]),.cst (nI 0)],dm 119 [.cst (.agg AA),.cst (nI 0)]]],[],(nI 0,[])⟩
def k14:KA a14:=iH 40 (l := [a13]) (iG k13 iF) 400 (by kernel_rfl)
def a15:Ans:=⟨116,[nI 0,.cst (a_ [sB [116]]),.cst (.agg AA)],[],(nI 0,[])⟩
def k15:KA a15:=iH 40 (l := [a14]) (iG k14 iF) 400 (by kernel_rfl)
def a16:Ans:=⟨115,[.sl false 9 [.agg rH],dm 116 [.cst (a_ [sB [116]]),.cst (.agg AA)]],[],(nI 0,[])⟩
def k16:KA a16:=iH 40 (l := [a15]) (iG k15 iF) 400 (by kernel_rfl)
def a17:Ans:=⟨114,[.cst (.agg AA),.cst (a_ [sB [116]])],[],(nI 0,[])⟩
def k17:KA a17:=iH 40 (l := [a16]) (iG k16 iF) 400 (by kernel_rfl)
def a18:Ans:=⟨108,[a_ [dm 109 [.cst (.agg AA)],dm 111 [.cst (.agg AA)],dm 113 [.cst (.agg AA)],dm 114 [.cst (.agg AA),.cst (a_ [sB [116]])],dm 121 [.cst (.sl false 3 [.agg aE0]),.cst (a_ [sB [99]])],dm 127 [.cst (.agg AA),.cst (a_ [])],dm 135 [.cst (.agg AA),.cst (a_ [])]]],[],(nI 0,[])⟩
def k18:KA a18:=iH 40 (l := [a17]) (iG k17 iF) 400 (by kernel_rfl)
def a19:Ans:=⟨33,[.agg AA],[],(nI 0,[])⟩
def k19:KA a19:=iH 40 (l := [a18]) (iG k18 iF) 400 (by kernel_rfl)
def a20:Ans:=⟨10,[sB [109,111,100,101,108,32,109,59,32,101,118,101,110,116,32,97,32,99,111,110,116,114,111,108,108,97,98,108,101,59,32,116,101,109,112,108,97,116,101,32,116,40,120,41,32,123,32,108,111,99,97,116,105,111,110,32,112,32,109,97,114,107,101,100,59,32,101,100,103,101,32,112,32,120,32,112,59,32,125,32,99,111,109,112,111,110,101,110,116,32,99,32,61,32,116,40,97,41,59]],[],(.tuple [.agg AA,nI 0,nI 0,nI 0],[])⟩
def k20:KA a20:=iH 40 (l := [a6,w_,a19]) (iG k6 (iG k10 (iG k19 iF))) 400 (by kernel_rfl)
def YG:LP := [nI 3,sB [59],nI 0,nI 0,nI 0]
def aW':LP := [nI 1,sB [97],nI 0,nI 0,nI 0]
def aX0:LP := [nI 1,sB [116],nI 0,nI 0,nI 0]
def aE4:LP := [nI 3,sB [40],nI 0,nI 0,nI 0]
def aX1:LP := [nI 1,sB [120],nI 0,nI 0,nI 0]
def aE5:LP := [nI 3,sB [41],nI 0,nI 0,nI 0]
def aE6:LP := [nI 1,sB [112],nI 0,nI 0,nI 0]
def aX2:LP := [.agg [nI 1,sB [109,111,100,101,108],nI 0,nI 0,nI 0],.agg [nI 1,sB [109],nI 0,nI 0,nI 0],.agg YG,.agg [nI 1,sB [101,118,101,110,116],nI 0,nI 0,nI 0],.agg aW',.agg [nI 1,sB [99,111,110,116,114,111,108,108,97,98,108,101],nI 0,nI 0,nI 0],.agg YG,.agg [nI 1,sB [116,101,109,112,108,97,116,101],nI 0,nI 0,nI 0],.agg aX0,.agg aE4,.agg aX1,.agg aE5,.agg [nI 3,sB [123],nI 0,nI 0,nI 0],.agg [nI 1,sB [108,111,99,97,116,105,111,110],nI 0,nI 0,nI 0],.agg aE6,.agg [nI 1,sB [105,110,105,116,105,97,108],nI 0,nI 0,nI 0],.agg [nI 1,sB [109,97,114,107,101,100],nI 0,nI 0,nI 0],.agg YG,.agg [nI 1,sB [101,100,103,101],nI 0,nI 0,nI 0],.agg aE6,.agg aX1,.agg aE6,.agg YG,.agg [nI 3,sB [125],nI 0,nI 0,nI 0],.agg [nI 1,sB [99,111,109,112,111,110,101,110,116],nI 0,nI 0,nI 0],.agg [nI 1,sB [99],nI 0,nI 0,nI 0],.agg [nI 3,sB [61],nI 0,nI 0,nI 0],.agg aX0,.agg aE4,.agg aW',.agg aE5,.agg YG]
def a21:Ans:=⟨45,[.sl false 5 aX2],[],(.tuple [sB [109,111,100,101,108,32,109,32,59,32,101,118,101,110,116,32,97,32,99,111,110,116,114,111,108,108,97,98,108,101,32,59,32,116,101,109,112,108,97,116,101,32,116,32,40,32,120,32,41,32,123,32,108,111,99,97,116,105,111,110,32,112,32,105,110,105,116,105,97,108,32,109,97,114,107,101,100,32,59,32,101,100,103,101,32,112,32,120,32,112,32,59,32,125,32,99,111,109,112,111,110,101,110,116,32,99,32,61,32,116,32,40,32,97,32,41,32,59],nI 0],[])⟩
def k21:KA a21:=iH 40 (l := []) iF 400 (by kernel_rfl)
def aX3:LP := [sB [109,111,100,101,108,32,109,59,10,101,118,101,110,116,32,97,32,99,111,110,116,114,111,108,108,97,98,108,101,59,10,116,101,109,112,108,97,116,101,32,116,32,40,120,41,32,123,10,32,32,108,111,99,97,116,105,111,110,32,112,32,105,110,105,116,105,97,108,32,109,97,114,107,101,100,59,10,32,32,101,100,103,101,32,112,32,120,32,112,59,10,125,10,99,111,109,112,111,110,101,110,116,32,99,32,61,32,116,32,40,97,41,59,10],nI 0]
def a22:Ans:=⟨23,[.sl false 5 aX2],[],(.tuple aX3,[])⟩
def k22:KA a22:=iH 40 (l := [a21]) (iG k21 iF) 400 (by kernel_rfl)
def a23:Ans:=⟨11,[.agg AA],[],(.tuple aX3,[])⟩
def k23:KA a23:=iH 40 (l := [a19,a22]) (iG k19 (iG k22 iF)) 400 (by kernel_rfl)
def uY:LP := [.ptr 1 0,nI 0,a_ [sB [110]]]
def aX4:LP := [nI 3,sB [41],nI 0,nI 1,nI 22]
def aE7:LP := [nI 4,sB [],nI 0,nI 1,nI 23]
def aX5:LP := [.agg [nI 1,sB [110],nI 0,nI 1,nI 16],.agg [nI 3,sB [61,61],nI 0,nI 1,nI 18],.agg [nI 2,sB [48],nI 0,nI 1,nI 21],.agg aX4,.agg aE7]
def aX6:LP := .agg [nI 3,sB [40],nI 0,nI 1,nI 15]::aX5
def aX7:LP := .agg [nI 3,sB [33],nI 0,nI 1,nI 14]::aX6
def aX8:LP := .agg [nI 3,sB [38,38],nI 0,nI 1,nI 11]::aX7
def aX9:LP := .agg [nI 3,sB [60],nI 0,nI 1,nI 7] :: .agg [nI 2,sB [51],nI 3,nI 1,nI 9]::aX8
def YH:LP := [.sl false 5 (.agg [nI 1,sB [110],nI 0,nI 1,nI 1] :: .agg [nI 3,sB [43],nI 0,nI 1,nI 3] :: .agg [nI 2,sB [49],nI 1,nI 1,nI 5]::aX9),nI 0,nI 0,nI 0]
def aXA:LP := [nI 2,nI 0,nI 0,.sl false 4 [.agg (nI 1::aDZ),.agg [nI 0,nI 1,nI 0,.sl false 4 []]]]
def a24:Ans:=⟨149,[ag,nI 4],[some uY,some YH],(.agg aXA,[some uY,some [.sl false 5 aX9,nI 0,nI 0,nI 0]])⟩
def k24:KA a24:=iH 40 (l := []) iF 400 (by kernel_rfl)
def aE8:LP := [nI 8,nI 0,nI 0,.sl false 4 [.agg aXA,.agg [nI 0,nI 3,nI 0,.sl false 4 []]]]
def a25:Ans:=⟨149,[ag,nI 3],[some uY,some YH],(.agg aE8,[some uY,some [.sl false 5 aX8,nI 0,nI 0,nI 0]])⟩
def k25:KA a25:=iH 40 (l := [a24]) (iG k24 iF) 400 (by kernel_rfl)
def LG:LP := [.ptr 1 0,nI 2,a_ [sB [110]]]
def YI:LP := [.sl false 5 aX5,nI 0,nI 0,nI 0]
def LH:LP := [nI 6,nI 0,nI 0,.sl false 4 [.agg (nI 1::aDZ),.agg Oz]]
def V7:LP := [.sl false 5 [.agg aX4,.agg aE7],nI 0,nI 0,nI 0]
def a26:Ans:=⟨149,[ag,nI 3],[some LG,some YI],(.agg LH,[some LG,some V7])⟩
def k26:KA a26:=iH 40 (l := []) iF 400 (by kernel_rfl)
def a27:Ans:=⟨149,[ag,nI 2],[some LG,some YI],(.agg LH,[some LG,some V7])⟩
def k27:KA a27:=iH 40 (l := [a26]) (iG k26 iF) 400 (by kernel_rfl)
def a28:Ans:=⟨149,[ag,nI 1],[some LG,some YI],(.agg LH,[some LG,some V7])⟩
def k28:KA a28:=iH 40 (l := [a27]) (iG k27 iF) 400 (by kernel_rfl)
def x8:Ans:=⟨37,[ag],[some LG,some YI],(.agg LH,[some LG,some V7])⟩
def k29:KA x8:=iH 40 (l := [a28]) (iG k28 iF) 400 (by kernel_rfl)
def aXB:LP := [.ptr 2 0,nI 2,a_ [sB [110]]]
def BC:LP := [.sl false 5 [.agg aE7],nI 0,nI 0,nI 0]
def a30:Ans:=⟨282,[ag],[some [.ptr 1 0],some aXB,some YI],(.agg LH,[some [.ptr 1 0],some aXB,some BC])⟩
def k30:KA a30:=iH 40 (l := [x8]) (iG k29 iF) 400 (by kernel_rfl)
def a7F:LP := [.ptr 2 0,nI 1,a_ [sB [110]]]
def aE9:LP := [.sl false 5 aX6,nI 0,nI 0,nI 0]
def a31:Ans:=⟨279,[ag,dm 282 [.ptr 1 0]],[some a7F,some [ag],some aE9],(.agg LH,[some a7F,some [ag],some BC])⟩
def k31:KA a31:=iH 40 (l := [a30]) (iG k30 iF) 400 (by kernel_rfl)
def aXC:LP := [.ptr 1 0,nI 1,a_ [sB [110]]]
def a32:Ans:=⟨231,[ag],[some aXC,some aE9],(.agg LH,[some aXC,some BC])⟩
def k32:KA a32:=iH 40 (l := [a31]) (iG k31 iF) 400 (by kernel_rfl)
def Il:LP := [nI 10,nI 0,nI 0,.sl false 4 [.agg LH]]
def a33:Ans:=⟨280,[ag],[some [.ptr 1 0],some a7F,some aE9],(.agg Il,[some [.ptr 1 0],some a7F,some BC])⟩
def k33:KA a33:=iH 40 (l := [a32]) (iG k32 iF) 400 (by kernel_rfl)
def aXD:LP := [.ptr 2 0,nI 0,a_ [sB [110]]]
def Tt:LP := [.sl false 5 aX7,nI 0,nI 0,nI 0]
def a34:Ans:=⟨279,[ag,dm 280 [.ptr 1 0]],[some aXD,some [ag],some Tt],(.agg Il,[some aXD,some [ag],some BC])⟩
def k34:KA a34:=iH 40 (l := [a33]) (iG k33 iF) 400 (by kernel_rfl)
def a35:Ans:=⟨231,[ag],[some uY,some Tt],(.agg Il,[some uY,some BC])⟩
def k35:KA a35:=iH 40 (l := [a34]) (iG k34 iF) 400 (by kernel_rfl)
def a36:Ans:=⟨149,[ag,nI 6],[some uY,some Tt],(.agg Il,[some uY,some BC])⟩
def k36:KA a36:=iH 40 (l := [a35]) (iG k35 iF) 400 (by kernel_rfl)
def a37:Ans:=⟨149,[ag,nI 5],[some uY,some Tt],(.agg Il,[some uY,some BC])⟩
def k37:KA a37:=iH 40 (l := [a36]) (iG k36 iF) 400 (by kernel_rfl)
def a38:Ans:=⟨149,[ag,nI 4],[some uY,some Tt],(.agg Il,[some uY,some BC])⟩
def k38:KA a38:=iH 40 (l := [a37]) (iG k37 iF) 400 (by kernel_rfl)
def a39:Ans:=⟨149,[ag,nI 3],[some uY,some Tt],(.agg Il,[some uY,some BC])⟩
def k39:KA a39:=iH 40 (l := [a38]) (iG k38 iF) 400 (by kernel_rfl)
def LJ:LP := [nI 11,nI 0,nI 0,.sl false 4 [.agg aE8,.agg Il]]
def a40:Ans:=⟨149,[ag,nI 2],[some uY,some YH],(.agg LJ,[some uY,some BC])⟩
def k40:KA a40:=iH 40 (l := [a25,a39]) (iG k25 (iG k39 iF)) 400 (by kernel_rfl)
def a41:Ans:=⟨149,[ag,nI 1],[some uY,some YH],(.agg LJ,[some uY,some BC])⟩
def k41:KA a41:=iH 40 (l := [a40]) (iG k40 iF) 400 (by kernel_rfl)
def a42:Ans:=⟨37,[ag],[some uY,some YH],(.agg LJ,[some uY,some BC])⟩
def k42:KA a42:=iH 40 (l := [a41]) (iG k41 iF) 400 (by kernel_rfl)
def a43:Ans:=⟨12,[a_ [sB [110]],sB [110,32,43,32,49,32,60,32,51,32,38,38,32,33,40,110,32,61,61,32,48,41]],[],(.tuple [.agg LJ,nI 0,nI 0,nI 0],[])⟩
def k43:KA a43:=iH 40 (l := [a42]) (iG k42 iF) 400 (by kernel_rfl)
def a44:Ans:=⟨43,[.agg LJ,nI 1],[],(.tuple [nI 2,nI 0],[])⟩
def k44:KA a44:=iH 40 (l := []) iF 400 (by kernel_rfl)
def a7G:LP := [nI 1,sB [110],nI 0,nI 0,nI 0]
def aEA:LP := [nI 3,sB [43],nI 0,nI 0,nI 0]
def aEB:LP := [nI 2,sB [49],nI 1,nI 0,nI 0]
def aEC:LP := [nI 3,sB [60],nI 0,nI 0,nI 0]
def aED:LP := [nI 2,sB [51],nI 3,nI 0,nI 0]
def aXE:LP := [.agg a7G,.agg aEA,.agg aEB,.agg aEC,.agg aED]
def a45:Ans:=⟨44,[ag,a_ [sB [110]],.agg aE8,nI 2],[some [.sl true 5 []]],(.tuple [],[some [.sl true 5 aXE]])⟩
def k45:KA a45:=iH 40 (l := []) iF 400 (by kernel_rfl)
def aXF:LP := [ag,.cst (a_ [sB [110]]),.cst (.agg LJ)]
def a46:Ans:=⟨154,(nI 0::nI 2::aXF),[some [.ptr 1 0],some [.sl true 5 []]],(.tuple [],[some [.ptr 1 0],some [.sl true 5 aXE]])⟩
def k46:KA a46:=iH 40 (l := [a45]) (iG k45 iF) 400 (by kernel_rfl)
def aXG:LP := [nI 3,sB [38,38],nI 0,nI 0,nI 0]
def aXH:LP := [.agg a7G,.agg aEA,.agg aEB,.agg aEC,.agg aED,.agg aXG]
def a7H:LP := [.agg a7G,.agg aEA,.agg aEB,.agg aEC,.agg aED,.agg aXG,.agg [nI 3,sB [33],nI 0,nI 0,nI 0],.agg aE4,.agg a7G,.agg [nI 3,sB [61,61],nI 0,nI 0,nI 0],.agg [nI 2,sB [48],nI 0,nI 0,nI 0],.agg aE5]
def a47:Ans:=⟨44,[ag,a_ [sB [110]],.agg Il,nI 3],[some [.sl true 5 aXH]],(.tuple [],[some [.sl true 5 a7H]])⟩
def k47:KA a47:=iH 40 (l := []) iF 400 (by kernel_rfl)
def a48:Ans:=⟨154,(nI 1::(nI 3::aXF)),[some [.ptr 1 0],some [.sl true 5 aXH]],(.tuple [],[some [.ptr 1 0],some [.sl true 5 a7H]])⟩
def k48:KA a48:=iH 40 (l := [a47]) (iG k47 iF) 400 (by kernel_rfl)
def a49:Ans:=⟨44,[ag,a_ [sB [110]],.agg LJ,nI 0],[some [.sl true 5 []]],(.tuple [],[some [.sl true 5 a7H]])⟩
def k49:KA a49:=iH 40 (l := [a46,a48]) (iG k46 (iG k48 iF)) 400 (by kernel_rfl)
def aXI:LP := [sB [110,32,43,32,49,32,60,32,51,32,38,38,32,33,32,40,32,110,32,61,61,32,48,32,41],nI 0]
def a50:Ans:=⟨45,[.sl false 5 a7H],[],(.tuple aXI,[])⟩
def k50:KA a50:=iH 40 (l := []) iF 400 (by kernel_rfl)
def a51:Ans:=⟨13,[a_ [sB [110]],.agg LJ],[],(.tuple aXI,[])⟩
def k51:KA a51:=iH 40 (l := [a44,a49,a50]) (iG k44 (iG k49 (iG k50 iF))) 400 (by kernel_rfl)
def a52:Ans:=⟨4,[],[],(.bool true,[])⟩
def k52:KA a52:=iH 40 (l := [a20,a23,a43,a51]) (iG k20 (iG k23 (iG k43 (iG k51 iF)))) 400 (by kernel_rfl)
end Go.Proofs.YtmbehibpfkkjbaaGreatDoor.W
end
