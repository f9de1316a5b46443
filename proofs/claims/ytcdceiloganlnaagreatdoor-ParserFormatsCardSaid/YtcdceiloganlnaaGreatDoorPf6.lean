/- A part of the proof. -/
import Derived.Test.YtcdceiloganlnaaGreatDoorPf4
import Derived.Test.YtcdceiloganlnaaGreatDoorPf3
set_option linter.unusedVariables false
set_option linter.unusedSimpArgs false
set_option linter.unnecessarySimpa false
set_option linter.unusedSectionVars false
noncomputable section
namespace Go.Proofs.YtcdceiloganlnaaGreatDoor.W
open Go.RowKit
set_option maxRecDepth 1000000
abbrev LP:=bTA
abbrev nI (n:Int):PV := bT6 n
abbrev sB (l:bTB):PV := .str ⟨⟨l⟩⟩
abbrev KA (a:Ans):Prop:=SS.CC a.g a.args a.h=some a.v
theorem fU {a:Ans} {l:List Ans} (h:KA a) (hl:∀ a,a∈l->KA a):∀ b,b∈a::l->KA b:=aV1 h hl
theorem fZ (m:Nat) {l:List Ans} (hl:∀ a,a∈l->KA a) (n:Nat) {a:Ans} (e:SS.stepT (SS.memo l m) n a.g a.args a.h=some a.v):KA a:=aTH dO m hl n e
def l0:LP := [bT8,.func (.func 279) [] [.ptr 1 0,.ptr 2 0]]
def l63:LP := [nI 3,sB [59],nI 0,nI 1,nI 99]
def l66:LP := [nI 4,sB [],nI 0,nI 1,nI 100]
def l68:LP := [.agg [nI 3,sB [40],nI 0,nI 1,nI 96],.agg [nI 1,sB [97],nI 0,nI 1,nI 97],.agg [nI 3,sB [41],nI 0,nI 1,nI 98],.agg l63,.agg l66]
def l71:LP := .agg [nI 1,sB [99],nI 0,nI 1,nI 91] :: .agg [nI 3,sB [61],nI 0,nI 1,nI 93] :: .agg [nI 1,sB [116],nI 0,nI 1,nI 95]::l68
def l72:LP := .agg [nI 1,sB [99,111,109,112,111,110,101,110,116],nI 0,nI 1,nI 81]::l71
def l73:LP := .agg [nI 3,sB [125],nI 0,nI 1,nI 79]::l72
def l77:LP := .agg [nI 1,sB [112],nI 0,nI 1,nI 72] :: .agg [nI 1,sB [120],nI 0,nI 1,nI 74] :: .agg [nI 1,sB [112],nI 0,nI 1,nI 76] :: .agg [nI 3,sB [59],nI 0,nI 1,nI 77]::l73
def l78:LP := .agg [nI 1,sB [101,100,103,101],nI 0,nI 1,nI 67]::l77
def l81:LP := .agg [nI 1,sB [112],nI 0,nI 1,nI 57] :: .agg [nI 1,sB [109,97,114,107,101,100],nI 0,nI 1,nI 59] :: .agg [nI 3,sB [59],nI 0,nI 1,nI 65]::l78
def l83:LP := .agg [nI 3,sB [123],nI 0,nI 1,nI 46] :: .agg [nI 1,sB [108,111,99,97,116,105,111,110],nI 0,nI 1,nI 48]::l81
def l84:LP := .agg [nI 3,sB [41],nI 0,nI 1,nI 44]::l83
def l85:LP := .agg [nI 1,sB [120],nI 0,nI 1,nI 43]::l84
def l90:LP := [.sl true 1 [],nI 0,nI 0,.sl true 1 [],.sl true 4 [],.sl true 8 []]
def l93:LP:=sB [116] :: .sl true 1 [] :: .sl true 1 []::l90
def l96:LP:=sB [116] :: .sl true 1 []::(.sl true 1 [sB [120]]::l90)
def a0:Ans:=⟨286,l0,[some [.sl false 5 l85,nI 0,nI 0,nI 0],some l93,some [.ptr 3 0],some [bT8,nI 0,.sl true 1 []]],(.tuple [],[some [.sl false 5 l84,nI 0,nI 0,nI 0],some l96,some [.ptr 3 0],some [bT8,nI 0,.sl true 1 []]])⟩
theorem k0:KA a0:=fZ 40 (l := []) fM 400 (by kernel_rfl)
def l99:LP := [nI 3,sB [40],nI 0,nI 1,nI 42]
def a1:Ans:=⟨278,l0,[some [.ptr 3 0,nI 0,.sl true 1 []],some l93,some [bT8],some [.sl false 5 (.agg l99::l85),nI 0,nI 0,nI 0]],(.tuple [],[some [.ptr 3 0,nI 0,.sl true 1 []],some l96,some [bT8],some [.sl false 5 l83,nI 0,nI 0,nI 0]])⟩
theorem k1:KA a1:=fZ 40 (l := [a0]) (fU k0 fM) 400 (by kernel_rfl)
def aM7:LP := [sB [116],.sl true 1 [sB [112]],.sl true 1 [sB [120]],.sl true 1 [],nI 0,nI 0,.sl true 1 [nI 0],.sl true 4 [],.sl true 8 []]
def a2:Ans:=⟨280,[bT8,.ptr 1 0,.ptr 2 0],[some [.ptr 3 0,nI 0,.sl true 1 []],some l96,some [.bool false],some [.sl false 5 l81,nI 0,nI 0,nI 0]],(.tuple [],[some [.ptr 3 0,nI 0,.sl true 1 []],some aM7,some [.bool false],some [.sl false 5 l78,nI 0,nI 0,nI 0]])⟩
theorem k2:KA a2:=fZ 40 (l := []) fM 400 (by kernel_rfl)
def a6T:LP := [nI 0,nI 0,.sl false 4 []]
def a6U:LP:=nI 0::a6T
def aM8:LP := [nI 0,nI 0,nI 0,nI 6,nI 0,nI 0,.sl false 4 [.agg a6U,.agg a6U],.sl false 5 []]
def a3:Ans:=⟨282,[bT8,.ptr 1 0],[some [.ptr 2 0,nI 0,.sl true 1 []],some aM7,some [.sl false 5 l77,nI 0,nI 0,nI 0]],(.tuple [],[some [.ptr 2 0,nI 0,.sl true 1 []],some [sB [116],.sl true 1 [sB [112]],.sl true 1 [sB [120]],.sl true 1 [],nI 0,nI 0,.sl true 1 [nI 0],.sl true 4 [],.sl true 8 [.agg aM8]],some [.sl false 5 l73,nI 0,nI 0,nI 0]])⟩
theorem k3:KA a3:=fZ 40 (l := []) fM 400 (by kernel_rfl)
def ZX:LP := [sB [97],.bool true,.bool false,.bool false,nI 0]
def aM9:LP := [.sl true 3 [],.sl true 2 [],.sl true 3 []]
def aMA:LP := .sl true 3 []::aM9
def a6V:LP:=sB [109] :: .sl true 5 [.agg ZX] :: .sl true 9 []::aMA
def aMB:LP := .agg [nI 1,sB [116],nI 0,nI 1,nI 41]::(.agg l99::l85)
def aMC:LP := [.sl false 5 aMB,nI 0,nI 0,nI 0]
def Hu:LP := [bT7 [nI 0],nI 1,nI 0,bT7 [nI 0],.sl false 4 [],.sl false 8 [.agg aM8]]
def l146:LP:=sB [116] :: bT7 [sB [112]] :: bT7 [sB [120]]::Hu
def Oi:LP:=sB [109] :: .sl true 5 [.agg ZX]::(.sl true 9 [.agg l146]::aMA)
def ZY:LP := [.sl false 5 l72,nI 0,nI 0,nI 0]
def a4:Ans:=⟨224,[bT8,.ptr 1 0],[some [.ptr 2 0,nI 0,.sl true 1 []],some a6V,some aMC],(.tuple [],[some [.ptr 2 0,nI 0,.sl true 1 []],some Oi,some ZY])⟩
theorem k4:KA a4:=fZ 40 (l := [a1,a2,a3]) (fU k1 (fU k2 (fU k3 fM))) 400 (by kernel_rfl)
def a5:Ans:=⟨223,[bT8,.ptr 1 0],[some [.ptr 2 0],some [.ptr 3 0],some [.ptr 4 0,nI 0,.sl true 1 []],some a6V,some aMC],(.tuple [],[some [.ptr 2 0],some [.ptr 3 0],some [.ptr 4 0,nI 0,.sl true 1 []],some Oi,some ZY])⟩
theorem k5:KA a5:=fZ 40 (l := [a4]) (fU k4 fM) 400 (by kernel_rfl)
def a6:Ans:=⟨132,[bT8,.ptr 1 0],[some [.ptr 2 0,nI 0,.sl true 1 []],some a6V,some [.sl false 5 (.agg [nI 1,sB [116,101,109,112,108,97,116,101],nI 0,nI 1,nI 32]::aMB),nI 0,nI 0,nI 0]],(.tuple [],[some [.ptr 2 0,nI 0,.sl true 1 []],some Oi,some ZY])⟩
theorem k6:KA a6:=fZ 40 (l := [a5]) (fU k5 fM) 400 (by kernel_rfl)
def a7:Ans:=⟨278,[bT8,.func (.func 284) [] [.ptr 1 0,.ptr 2 0]],[some [.ptr 3 0,nI 0,.sl true 1 []],some [sB [99],sB [116],.sl true 1 []],some [bT8],some [.sl false 5 l68,nI 0,nI 0,nI 0]],(.tuple [],[some [.ptr 3 0,nI 0,.sl true 1 []],some [sB [99],sB [116],.sl true 1 [sB [97]]],some [bT8],some [.sl false 5 [.agg l63,.agg l66],nI 0,nI 0,nI 0]])⟩
theorem k7:KA a7:=fZ 40 (l := []) fM 400 (by kernel_rfl)
def aMD:LP := [.sl false 5 l71,nI 0,nI 0,nI 0]
def a6W:LP := [sB [99],sB [116],bT7 [sB [97]]]
def a6X:LP:=sB [109] :: .sl true 5 [.agg ZX] :: .sl true 9 [.agg l146]::(.sl true 3 [.agg a6W]::aM9)
def a6Y:LP := [.sl false 5 [.agg l66],nI 0,nI 0,nI 0]
def a8:Ans:=⟨226,[bT8,.ptr 1 0,.ptr 1 3],[some [.ptr 2 0,nI 0,.sl true 1 []],some Oi,some aMD],(.tuple [],[some [.ptr 2 0,nI 0,.sl true 1 []],some a6X,some a6Y])⟩
theorem k8:KA a8:=fZ 40 (l := [a7]) (fU k7 fM) 400 (by kernel_rfl)
def a9:Ans:=⟨225,[bT8,.ptr 1 0],[some [.ptr 2 0],some [.ptr 3 0],some [.ptr 4 0,nI 0,.sl true 1 []],some Oi,some aMD],(.tuple [],[some [.ptr 2 0],some [.ptr 3 0],some [.ptr 4 0,nI 0,.sl true 1 []],some a6X,some a6Y])⟩
theorem k9:KA a9:=fZ 40 (l := [a8]) (fU k8 fM) 400 (by kernel_rfl)
def a10:Ans:=⟨132,[bT8,.ptr 1 0],[some [.ptr 2 0,nI 0,.sl true 1 []],some Oi,some ZY],(.tuple [],[some [.ptr 2 0,nI 0,.sl true 1 []],some a6X,some a6Y])⟩
theorem k10:KA a10:=fZ 40 (l := [a9]) (fU k9 fM) 400 (by kernel_rfl)
def a11:Ans:=⟨67,[bT7 [.func (.func 176) [] [.cst (.agg l146)],.func (.func 178) [] [.cst (.agg l146)],.func (.func 179) [] [.cst (.agg Hu),.cst (.agg l146)],.func (.func 181) [] [.cst (.agg Hu),.cst (.agg l146)],.func (.func 182) [] [.cst (.agg Hu)],.func (.func 183) [] [.cst (.agg Hu)],.func (.func 184) [] [.cst (.agg Hu)],.func (.func 185) [] [.cst (.agg Hu)],.func (.func 188) [] [.cst (.agg Hu),.cst (.agg l146)]]],[],(nI 0,[])⟩
theorem k11:KA a11:=fZ 40 (l := []) fM 400 (by kernel_rfl)
def a12:Ans:=⟨78,[.agg l146],[],(nI 0,[])⟩
theorem k12:KA a12:=fZ 40 (l := [a11]) (fU k11 fM) 400 (by kernel_rfl)
def yA:LP := [sB [109],.sl false 5 [.agg ZX],.sl false 9 [.agg l146],.sl false 3 [.agg a6W],.sl false 3 [],.sl false 2 [],.sl false 3 []]
def a13:Ans:=⟨77,[.cst (.agg yA),.cst (nI 0)],[],(nI 0,[])⟩
theorem k13:KA a13:=fZ 40 (l := [a12]) (fU k12 fM) 400 (by kernel_rfl)
def a14:Ans:=⟨67,[bT7 [.func (.func 75) [] [.cst (bT7 [sB [116]]),.cst (nI 0)],.func (.func 77) [] [.cst (.agg yA),.cst (nI 0)]]],[],(nI 0,[])⟩
theorem k14:KA a14:=fZ 40 (l := [a13]) (fU k13 fM) 400 (by kernel_rfl)
def a15:Ans:=⟨74,[nI 0,.cst (bT7 [sB [116]]),.cst (.agg yA)],[],(nI 0,[])⟩
theorem k15:KA a15:=fZ 40 (l := [a14]) (fU k14 fM) 400 (by kernel_rfl)
def a16:Ans:=⟨73,[.sl false 9 [.agg l146],.func (.func 74) [] [.cst (bT7 [sB [116]]),.cst (.agg yA)]],[],(nI 0,[])⟩
theorem k16:KA a16:=fZ 40 (l := [a15]) (fU k15 fM) 400 (by kernel_rfl)
def a17:Ans:=⟨72,[.cst (.agg yA),.cst (bT7 [sB [116]])],[],(nI 0,[])⟩
theorem k17:KA a17:=fZ 40 (l := [a16]) (fU k16 fM) 400 (by kernel_rfl)
def a18:Ans:=⟨67,[bT7 [.func (.func 68) [] [.cst (.agg yA)],.func (.func 70) [] [.cst (.agg yA)],.func (.func 71) [] [.cst (.agg yA)],.func (.func 72) [] [.cst (.agg yA),.cst (bT7 [sB [116]])],.func (.func 79) [] [.cst (.sl false 3 [.agg a6W]),.cst (bT7 [sB [99]])],.func (.func 85) [] [.cst (.agg yA),.cst (bT7 [])],.func (.func 93) [] [.cst (.agg yA),.cst (bT7 [])]]],[],(nI 0,[])⟩
theorem k18:KA a18:=fZ 40 (l := [a17]) (fU k17 fM) 400 (by kernel_rfl)
def a19:Ans:=⟨18,[.agg yA],[],(nI 0,[])⟩
theorem k19:KA a19:=fZ 40 (l := [a18]) (fU k18 fM) 400 (by kernel_rfl)
def a20:Ans:=⟨36,[sB [109,111,100,101,108,32,109,59,32,101,118,101,110,116,32,97,32,99,111,110,116,114,111,108,108,97,98,108,101,59,32,116,101,109,112,108,97,116,101,32,116,40,120,41,32,123,32,108,111,99,97,116,105,111,110,32,112,32,109,97,114,107,101,100,59,32,101,100,103,101,32,112,32,120,32,112,59,32,125,32,99,111,109,112,111,110,101,110,116,32,99,32,61,32,116,40,97,41,59]],[],(.tuple [.agg yA,nI 0,nI 0,nI 0],[])⟩
theorem k20:KA a20:=fZ 40 (l := [a6,a10,a19]) (fU k6 (fU k10 (fU k19 fM))) 400 (by kernel_rfl)
def U6:LP := [nI 3,sB [59],nI 0,nI 0,nI 0]
def aME:LP := [nI 1,sB [97],nI 0,nI 0,nI 0]
def aMF:LP := [nI 1,sB [116],nI 0,nI 0,nI 0]
def a6Z:LP := [nI 3,sB [40],nI 0,nI 0,nI 0]
def aMG:LP := [nI 1,sB [120],nI 0,nI 0,nI 0]
def a7A:LP := [nI 3,sB [41],nI 0,nI 0,nI 0]
def a7B:LP := [nI 1,sB [112],nI 0,nI 0,nI 0]
def aMH:LP := [.agg [nI 1,sB [109,111,100,101,108],nI 0,nI 0,nI 0],.agg [nI 1,sB [109],nI 0,nI 0,nI 0],.agg U6,.agg [nI 1,sB [101,118,101,110,116],nI 0,nI 0,nI 0],.agg aME,.agg [nI 1,sB [99,111,110,116,114,111,108,108,97,98,108,101],nI 0,nI 0,nI 0],.agg U6,.agg [nI 1,sB [116,101,109,112,108,97,116,101],nI 0,nI 0,nI 0],.agg aMF,.agg a6Z,.agg aMG,.agg a7A,.agg [nI 3,sB [123],nI 0,nI 0,nI 0],.agg [nI 1,sB [108,111,99,97,116,105,111,110],nI 0,nI 0,nI 0],.agg a7B,.agg [nI 1,sB [105,110,105,116,105,97,108],nI 0,nI 0,nI 0],.agg [nI 1,sB [109,97,114,107,101,100],nI 0,nI 0,nI 0],.agg U6,.agg [nI 1,sB [101,100,103,101],nI 0,nI 0,nI 0],.agg a7B,.agg aMG,.agg a7B,.agg U6,.agg [nI 3,sB [125],nI 0,nI 0,nI 0],.agg [nI 1,sB [99,111,109,112,111,110,101,110,116],nI 0,nI 0,nI 0],.agg [nI 1,sB [99],nI 0,nI 0,nI 0],.agg [nI 3,sB [61],nI 0,nI 0,nI 0],.agg aMF,.agg a6Z,.agg aME,.agg a7A,.agg U6]
def a21:Ans:=⟨114,[.sl false 5 aMH],[],(.tuple [sB [109,111,100,101,108,32,109,32,59,32,101,118,101,110,116,32,97,32,99,111,110,116,114,111,108,108,97,98,108,101,32,59,32,116,101,109,112,108,97,116,101,32,116,32,40,32,120,32,41,32,123,32,108,111,99,97,116,105,111,110,32,112,32,105,110,105,116,105,97,108,32,109,97,114,107,101,100,32,59,32,101,100,103,101,32,112,32,120,32,112,32,59,32,125,32,99,111,109,112,111,110,101,110,116,32,99,32,61,32,116,32,40,32,97,32,41,32,59],nI 0],[])⟩
theorem k21:KA a21:=fZ 40 (l := []) fM 400 (by kernel_rfl)
def aMI:LP := [sB [109,111,100,101,108,32,109,59,10,101,118,101,110,116,32,97,32,99,111,110,116,114,111,108,108,97,98,108,101,59,10,116,101,109,112,108,97,116,101,32,116,32,40,120,41,32,123,10,32,32,108,111,99,97,116,105,111,110,32,112,32,105,110,105,116,105,97,108,32,109,97,114,107,101,100,59,10,32,32,101,100,103,101,32,112,32,120,32,112,59,10,125,10,99,111,109,112,111,110,101,110,116,32,99,32,61,32,116,32,40,97,41,59,10],nI 0]
def a22:Ans:=⟨58,[.sl false 5 aMH],[],(.tuple aMI,[])⟩
theorem k22:KA a22:=fZ 40 (l := [a21]) (fU k21 fM) 400 (by kernel_rfl)
def a23:Ans:=⟨17,[.agg yA],[],(.tuple aMI,[])⟩
theorem k23:KA a23:=fZ 40 (l := [a19,a22]) (fU k19 (fU k22 fM)) 400 (by kernel_rfl)
def qm:LP := [.ptr 1 0,nI 0,bT7 [sB [110]]]
def aMJ:LP := [nI 3,sB [41],nI 0,nI 1,nI 22]
def a7C:LP := [nI 4,sB [],nI 0,nI 1,nI 23]
def aMK:LP := [.agg [nI 1,sB [110],nI 0,nI 1,nI 16],.agg [nI 3,sB [61,61],nI 0,nI 1,nI 18],.agg [nI 2,sB [48],nI 0,nI 1,nI 21],.agg aMJ,.agg a7C]
def aML:LP := .agg [nI 3,sB [40],nI 0,nI 1,nI 15]::aMK
def aMM:LP := .agg [nI 3,sB [33],nI 0,nI 1,nI 14]::aML
def aMN:LP := .agg [nI 3,sB [38,38],nI 0,nI 1,nI 11]::aMM
def aMO:LP := .agg [nI 3,sB [60],nI 0,nI 1,nI 7] :: .agg [nI 2,sB [51],nI 3,nI 1,nI 9]::aMN
def U7:LP := [.sl false 5 (.agg [nI 1,sB [110],nI 0,nI 1,nI 1] :: .agg [nI 3,sB [43],nI 0,nI 1,nI 3] :: .agg [nI 2,sB [49],nI 1,nI 1,nI 5]::aMO),nI 0,nI 0,nI 0]
def aMP:LP := [nI 2,nI 0,nI 0,.sl false 4 [.agg (nI 1::a6T),.agg [nI 0,nI 1,nI 0,.sl false 4 []]]]
def a24:Ans:=⟨196,[bT8,nI 4],[some qm,some U7],(.agg aMP,[some qm,some [.sl false 5 aMO,nI 0,nI 0,nI 0]])⟩
theorem k24:KA a24:=fZ 40 (l := []) fM 400 (by kernel_rfl)
def a7D:LP := [nI 8,nI 0,nI 0,.sl false 4 [.agg aMP,.agg [nI 0,nI 3,nI 0,.sl false 4 []]]]
def a25:Ans:=⟨196,[bT8,nI 3],[some qm,some U7],(.agg a7D,[some qm,some [.sl false 5 aMN,nI 0,nI 0,nI 0]])⟩
theorem k25:KA a25:=fZ 40 (l := [a24]) (fU k24 fM) 400 (by kernel_rfl)
def Hw:LP := [.ptr 1 0,nI 2,bT7 [sB [110]]]
def U9:LP := [.sl false 5 aMK,nI 0,nI 0,nI 0]
def Hy:LP := [nI 6,nI 0,nI 0,.sl false 4 [.agg (nI 1::a6T),.agg a6U]]
def ZZ:LP := [.sl false 5 [.agg aMJ,.agg a7C],nI 0,nI 0,nI 0]
def a26:Ans:=⟨196,[bT8,nI 3],[some Hw,some U9],(.agg Hy,[some Hw,some ZZ])⟩
theorem k26:KA a26:=fZ 40 (l := []) fM 400 (by kernel_rfl)
def a27:Ans:=⟨196,[bT8,nI 2],[some Hw,some U9],(.agg Hy,[some Hw,some ZZ])⟩
theorem k27:KA a27:=fZ 40 (l := [a26]) (fU k26 fM) 400 (by kernel_rfl)
def a28:Ans:=⟨196,[bT8,nI 1],[some Hw,some U9],(.agg Hy,[some Hw,some ZZ])⟩
theorem k28:KA a28:=fZ 40 (l := [a27]) (fU k27 fM) 400 (by kernel_rfl)
def a29:Ans:=⟨102,[bT8],[some Hw,some U9],(.agg Hy,[some Hw,some ZZ])⟩
theorem k29:KA a29:=fZ 40 (l := [a28]) (fU k28 fM) 400 (by kernel_rfl)
def aMQ:LP := [.ptr 2 0,nI 2,bT7 [sB [110]]]
def zJ:LP := [.sl false 5 [.agg a7C],nI 0,nI 0,nI 0]
def a30:Ans:=⟨310,[bT8],[some [.ptr 1 0],some aMQ,some U9],(.agg Hy,[some [.ptr 1 0],some aMQ,some zJ])⟩
theorem k30:KA a30:=fZ 40 (l := [a29]) (fU k29 fM) 400 (by kernel_rfl)
def Za:LP := [.ptr 2 0,nI 1,bT7 [sB [110]]]
def a7E:LP := [.sl false 5 aML,nI 0,nI 0,nI 0]
def a31:Ans:=⟨307,[bT8,.func (.func 310) [] [.ptr 1 0]],[some Za,some [bT8],some a7E],(.agg Hy,[some Za,some [bT8],some zJ])⟩
theorem k31:KA a31:=fZ 40 (l := [a30]) (fU k30 fM) 400 (by kernel_rfl)
def aMR:LP := [.ptr 1 0,nI 1,bT7 [sB [110]]]
def a32:Ans:=⟨254,[bT8],[some aMR,some a7E],(.agg Hy,[some aMR,some zJ])⟩
theorem k32:KA a32:=fZ 40 (l := [a31]) (fU k31 fM) 400 (by kernel_rfl)
def F9:LP := [nI 10,nI 0,nI 0,.sl false 4 [.agg Hy]]
def a33:Ans:=⟨308,[bT8],[some [.ptr 1 0],some Za,some a7E],(.agg F9,[some [.ptr 1 0],some Za,some zJ])⟩
theorem k33:KA a33:=fZ 40 (l := [a32]) (fU k32 fM) 400 (by kernel_rfl)
def aMS:LP := [.ptr 2 0,nI 0,bT7 [sB [110]]]
def Oj:LP := [.sl false 5 aMM,nI 0,nI 0,nI 0]
def a34:Ans:=⟨307,[bT8,.func (.func 308) [] [.ptr 1 0]],[some aMS,some [bT8],some Oj],(.agg F9,[some aMS,some [bT8],some zJ])⟩
theorem k34:KA a34:=fZ 40 (l := [a33]) (fU k33 fM) 400 (by kernel_rfl)
def a35:Ans:=⟨254,[bT8],[some qm,some Oj],(.agg F9,[some qm,some zJ])⟩
theorem k35:KA a35:=fZ 40 (l := [a34]) (fU k34 fM) 400 (by kernel_rfl)
def a36:Ans:=⟨196,[bT8,nI 6],[some qm,some Oj],(.agg F9,[some qm,some zJ])⟩
theorem k36:KA a36:=fZ 40 (l := [a35]) (fU k35 fM) 400 (by kernel_rfl)
def a37:Ans:=⟨196,[bT8,nI 5],[some qm,some Oj],(.agg F9,[some qm,some zJ])⟩
theorem k37:KA a37:=fZ 40 (l := [a36]) (fU k36 fM) 400 (by kernel_rfl)
def a38:Ans:=⟨196,[bT8,nI 4],[some qm,some Oj],(.agg F9,[some qm,some zJ])⟩
theorem k38:KA a38:=fZ 40 (l := [a37]) (fU k37 fM) 400 (by kernel_rfl)
def a39:Ans:=⟨196,[bT8,nI 3],[some qm,some Oj],(.agg F9,[some qm,some zJ])⟩
theorem k39:KA a39:=fZ 40 (l := [a38]) (fU k38 fM) 400 (by kernel_rfl)
def Hz:LP := [nI 11,nI 0,nI 0,.sl false 4 [.agg a7D,.agg F9]]
def a40:Ans:=⟨196,[bT8,nI 2],[some qm,some U7],(.agg Hz,[some qm,some zJ])⟩
theorem k40:KA a40:=fZ 40 (l := [a25,a39]) (fU k25 (fU k39 fM)) 400 (by kernel_rfl)
def a41:Ans:=⟨196,[bT8,nI 1],[some qm,some U7],(.agg Hz,[some qm,some zJ])⟩
theorem k41:KA a41:=fZ 40 (l := [a40]) (fU k40 fM) 400 (by kernel_rfl)
def a42:Ans:=⟨102,[bT8],[some qm,some U7],(.agg Hz,[some qm,some zJ])⟩
theorem k42:KA a42:=fZ 40 (l := [a41]) (fU k41 fM) 400 (by kernel_rfl)
def a43:Ans:=⟨21,[bT7 [sB [110]],sB [110,32,43,32,49,32,60,32,51,32,38,38,32,33,40,110,32,61,61,32,48,41]],[],(.tuple [.agg Hz,nI 0,nI 0,nI 0],[])⟩
theorem k43:KA a43:=fZ 40 (l := [a42]) (fU k42 fM) 400 (by kernel_rfl)
def a44:Ans:=⟨27,[.agg Hz,nI 1],[],(.tuple [nI 2,nI 0],[])⟩
theorem k44:KA a44:=fZ 40 (l := []) fM 400 (by kernel_rfl)
def Zb:LP := [nI 1,sB [110],nI 0,nI 0,nI 0]
def a7F:LP := [nI 3,sB [43],nI 0,nI 0,nI 0]
def a7G:LP := [nI 2,sB [49],nI 1,nI 0,nI 0]
def a7H:LP := [nI 3,sB [60],nI 0,nI 0,nI 0]
def a7I:LP := [nI 2,sB [51],nI 3,nI 0,nI 0]
def aMT:LP := [.agg Zb,.agg a7F,.agg a7G,.agg a7H,.agg a7I]
def a45:Ans:=⟨113,[bT8,bT7 [sB [110]],.agg a7D,nI 2],[some [.sl true 5 []]],(.tuple [],[some [.sl true 5 aMT]])⟩
theorem k45:KA a45:=fZ 40 (l := []) fM 400 (by kernel_rfl)
def aMU:LP := [bT8,.cst (bT7 [sB [110]]),.cst (.agg Hz)]
def a46:Ans:=⟨208,(nI 0::nI 2::aMU),[some [.ptr 1 0],some [.sl true 5 []]],(.tuple [],[some [.ptr 1 0],some [.sl true 5 aMT]])⟩
theorem k46:KA a46:=fZ 40 (l := [a45]) (fU k45 fM) 400 (by kernel_rfl)
def aMV:LP := [nI 3,sB [38,38],nI 0,nI 0,nI 0]
def aMW:LP := [.agg Zb,.agg a7F,.agg a7G,.agg a7H,.agg a7I,.agg aMV]
def Zd:LP := [.agg Zb,.agg a7F,.agg a7G,.agg a7H,.agg a7I,.agg aMV,.agg [nI 3,sB [33],nI 0,nI 0,nI 0],.agg a6Z,.agg Zb,.agg [nI 3,sB [61,61],nI 0,nI 0,nI 0],.agg [nI 2,sB [48],nI 0,nI 0,nI 0],.agg a7A]
def a47:Ans:=⟨113,[bT8,bT7 [sB [110]],.agg F9,nI 3],[some [.sl true 5 aMW]],(.tuple [],[some [.sl true 5 Zd]])⟩
theorem k47:KA a47:=fZ 40 (l := []) fM 400 (by kernel_rfl)
def a48:Ans:=⟨208,(nI 1::(nI 3::aMU)),[some [.ptr 1 0],some [.sl true 5 aMW]],(.tuple [],[some [.ptr 1 0],some [.sl true 5 Zd]])⟩
theorem k48:KA a48:=fZ 40 (l := [a47]) (fU k47 fM) 400 (by kernel_rfl)
def a49:Ans:=⟨113,[bT8,bT7 [sB [110]],.agg Hz,nI 0],[some [.sl true 5 []]],(.tuple [],[some [.sl true 5 Zd]])⟩
theorem k49:KA a49:=fZ 40 (l := [a46,a48]) (fU k46 (fU k48 fM)) 400 (by kernel_rfl)
def aMX:LP := [sB [110,32,43,32,49,32,60,32,51,32,38,38,32,33,32,40,32,110,32,61,61,32,48,32,41],nI 0]
def a50:Ans:=⟨114,[.sl false 5 Zd],[],(.tuple aMX,[])⟩
theorem k50:KA a50:=fZ 40 (l := []) fM 400 (by kernel_rfl)
def a51:Ans:=⟨28,[bT7 [sB [110]],.agg Hz],[],(.tuple aMX,[])⟩
theorem k51:KA a51:=fZ 40 (l := [a44,a49,a50]) (fU k44 (fU k49 (fU k50 fM))) 400 (by kernel_rfl)
def a52:Ans:=⟨12,[],[],(.bool true,[])⟩
theorem k52:KA a52:=fZ 40 (l := [a20,a23,a43,a51]) (fU k20 (fU k23 (fU k43 (fU k51 fM)))) 400 (by kernel_rfl)
end Go.Proofs.YtcdceiloganlnaaGreatDoor.W
end
