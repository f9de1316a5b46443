/- A part of the proof. -/
import Derived.Test.YtcdceiloganlnaaGreatDoorPl4
import Derived.Test.YtcdceiloganlnaaGreatDoorPl3
set_option linter.unusedVariables false
set_option linter.unusedSimpArgs false
set_option linter.unnecessarySimpa false
set_option linter.unusedSectionVars false
noncomputable section
namespace Go.Proofs.YtcdceiloganlnaaGreatDoor.W
open Go.RowKit
set_option maxRecDepth 1000000
abbrev LP:=bSH
abbrev nI (n:Int):PV := bSD n
abbrev sB (l:bSI):PV := .str ⟨⟨l⟩⟩
abbrev KA (a:Ans):Prop:=SS.CC a.g a.args a.h=some a.v
theorem fV {a:Ans} {l:List Ans} (h:KA a) (hl:∀ a,a∈l->KA a):∀ b,b∈a::l->KA b:=aSN h hl
theorem fZ (m:Nat) {l:List Ans} (hl:∀ a,a∈l->KA a) (n:Nat) {a:Ans} (e:SS.stepT (SS.memo l m) n a.g a.args a.h=some a.v):KA a:=aRH dZ m hl n e
def l0:LP := [bSF,.func (.func 279) [] [.ptr 1 0,.ptr 2 0]]
def l63:LP := [nI 3,sB [59],nI 0,nI 1,nI 99]
def l66:LP := [nI 4,sB [],nI 0,nI 1,nI 100]
def l68:LP := [.agg [nI 3,sB [40],nI 0,nI 1,nI 96],.agg [nI 1,sB [97],nI 0,nI 1,nI 97],.agg [nI 3,sB [41],nI 0,nI 1,nI 98],.agg l63,.agg l66]
def l71:LP := .agg [nI 1,sB [99],nI 0,nI 1,nI 91] :: .agg [nI 3,sB [61],nI 0,nI 1,nI 93] :: .agg [nI 1,sB [116],nI 0,nI 1,nI 95]::l68
def l72:LP := .agg [nI 1,sB [99,111,109,112,111,110,101,110,116],nI 0,nI 1,nI 81]::l71
def l73:LP := .agg [nI 3,sB [125],nI 0,nI 1,nI 79]::l72
def l77:LP := .agg [nI 1,sB [112],nI 0,nI 1,nI 72] :: .agg [nI 1,sB [120],nI 0,nI 1,nI 74] :: .agg [nI 1,sB [112],nI 0,nI 1,nI 76] :: .agg [nI 3,sB [59],nI 0,nI 1,nI 77]::l73
def l78:LP := .agg [nI 1,sB [101,100,103,101],nI 0,nI 1,nI 67]::l77
def OT:LP := .agg [nI 1,sB [112],nI 0,nI 1,nI 57] :: .agg [nI 1,sB [109,97,114,107,101,100],nI 0,nI 1,nI 59] :: .agg [nI 3,sB [59],nI 0,nI 1,nI 65]::l78
def l83:LP := .agg [nI 3,sB [123],nI 0,nI 1,nI 46] :: .agg [nI 1,sB [108,111,99,97,116,105,111,110],nI 0,nI 1,nI 48]::OT
def l84:LP := .agg [nI 3,sB [41],nI 0,nI 1,nI 44]::l83
def l85:LP := .agg [nI 1,sB [120],nI 0,nI 1,nI 43]::l84
def Ti:LP := [.sl true 1 [],nI 0,nI 0,.sl true 1 [],.sl true 4 [],.sl true 8 []]
def l93:LP:=sB [116] :: .sl true 1 [] :: .sl true 1 []::Ti
def l96:LP:=sB [116] :: .sl true 1 []::(.sl true 1 [sB [120]]::Ti)
def a0:Ans:=⟨286,l0,[some [.sl false 5 l85,nI 0,nI 0,nI 0],some l93,some [.ptr 3 0],some [bSF,nI 0,.sl true 1 []]],(.tuple [],[some [.sl false 5 l84,nI 0,nI 0,nI 0],some l96,some [.ptr 3 0],some [bSF,nI 0,.sl true 1 []]])⟩
theorem k0:KA a0:=fZ 40 (l := []) fU 400 (by kernel_rfl)
def l99:LP := [nI 3,sB [40],nI 0,nI 1,nI 42]
def a1:Ans:=⟨278,l0,[some [.ptr 3 0,nI 0,.sl true 1 []],some l93,some [bSF],some [.sl false 5 (.agg l99::l85),nI 0,nI 0,nI 0]],(.tuple [],[some [.ptr 3 0,nI 0,.sl true 1 []],some l96,some [bSF],some [.sl false 5 l83,nI 0,nI 0,nI 0]])⟩
theorem k1:KA a1:=fZ 40 (l := [a0]) (fV k0 fU) 400 (by kernel_rfl)
def aL0:LP := [sB [116],.sl true 1 [sB [112]],.sl true 1 [sB [120]],.sl true 1 [],nI 0,nI 0,.sl true 1 [nI 0],.sl true 4 [],.sl true 8 []]
def a2:Ans:=⟨280,[bSF,.ptr 1 0,.ptr 2 0],[some [.ptr 3 0,nI 0,.sl true 1 []],some l96,some [.bool false],some [.sl false 5 OT,nI 0,nI 0,nI 0]],(.tuple [],[some [.ptr 3 0,nI 0,.sl true 1 []],some aL0,some [.bool false],some [.sl false 5 l78,nI 0,nI 0,nI 0]])⟩
theorem k2:KA a2:=fZ 40 (l := []) fU 400 (by kernel_rfl)
def a5E:LP := [nI 0,nI 0,.sl false 4 []]
def Jv:LP:=nI 0::a5E
def aL1:LP := [nI 0,nI 0,nI 0,nI 6,nI 0,nI 0,.sl false 4 [.agg Jv,.agg Jv],.sl false 5 []]
def a3:Ans:=⟨282,[bSF,.ptr 1 0],[some [.ptr 2 0,nI 0,.sl true 1 []],some aL0,some [.sl false 5 l77,nI 0,nI 0,nI 0]],(.tuple [],[some [.ptr 2 0,nI 0,.sl true 1 []],some [sB [116],.sl true 1 [sB [112]],.sl true 1 [sB [120]],.sl true 1 [],nI 0,nI 0,.sl true 1 [nI 0],.sl true 4 [],.sl true 8 [.agg aL1]],some [.sl false 5 l73,nI 0,nI 0,nI 0]])⟩
theorem k3:KA a3:=fZ 40 (l := []) fU 400 (by kernel_rfl)
def I7:LP := [sB [97],.bool true,.bool false,.bool false,nI 0]
def aL3:LP := [.sl true 3 [],.sl true 2 [],.sl true 3 []]
def aL4:LP := .sl true 3 []::aL3
def a5F:LP:=sB [109] :: .sl true 5 [.agg I7] :: .sl true 9 []::aL4
def TZ:LP := .agg [nI 1,sB [116],nI 0,nI 1,nI 41]::(.agg l99::l85)
def aL5:LP := [.sl false 5 TZ,nI 0,nI 0,nI 0]
def I8:LP := [bSE [nI 0],nI 1,nI 0,bSE [nI 0],.sl false 4 [],.sl false 8 [.agg aL1]]
def l146:LP:=sB [116] :: bSE [sB [112]] :: bSE [sB [120]]::I8
def OO:LP:=sB [109] :: .sl true 5 [.agg I7]::(.sl true 9 [.agg l146]::aL4)
def Yj:LP := [.sl false 5 l72,nI 0,nI 0,nI 0]
def a4:Ans:=⟨224,[bSF,.ptr 1 0],[some [.ptr 2 0,nI 0,.sl true 1 []],some a5F,some aL5],(.tuple [],[some [.ptr 2 0,nI 0,.sl true 1 []],some OO,some Yj])⟩
theorem k4:KA a4:=fZ 40 (l := [a1,a2,a3]) (fV k1 (fV k2 (fV k3 fU))) 400 (by kernel_rfl)
def a5:Ans:=⟨223,[bSF,.ptr 1 0],[some [.ptr 2 0],some [.ptr 3 0],some [.ptr 4 0,nI 0,.sl true 1 []],some a5F,some aL5],(.tuple [],[some [.ptr 2 0],some [.ptr 3 0],some [.ptr 4 0,nI 0,.sl true 1 []],some OO,some Yj])⟩
theorem k5:KA a5:=fZ 40 (l := [a4]) (fV k4 fU) 400 (by kernel_rfl)
def a6:Ans:=⟨132,[bSF,.ptr 1 0],[some [.ptr 2 0,nI 0,.sl true 1 []],some a5F,some [.sl false 5 (.agg [nI 1,sB [116,101,109,112,108,97,116,101],nI 0,nI 1,nI 32]::TZ),nI 0,nI 0,nI 0]],(.tuple [],[some [.ptr 2 0,nI 0,.sl true 1 []],some OO,some Yj])⟩
theorem k6:KA a6:=fZ 40 (l := [a5]) (fV k5 fU) 400 (by kernel_rfl)
def a7:Ans:=⟨278,[bSF,.func (.func 284) [] [.ptr 1 0,.ptr 2 0]],[some [.ptr 3 0,nI 0,.sl true 1 []],some [sB [99],sB [116],.sl true 1 []],some [bSF],some [.sl false 5 l68,nI 0,nI 0,nI 0]],(.tuple [],[some [.ptr 3 0,nI 0,.sl true 1 []],some [sB [99],sB [116],.sl true 1 [sB [97]]],some [bSF],some [.sl false 5 [.agg l63,.agg l66],nI 0,nI 0,nI 0]])⟩
theorem k7:KA a7:=fZ 40 (l := []) fU 400 (by kernel_rfl)
def aL6:LP := [.sl false 5 l71,nI 0,nI 0,nI 0]
def a5G:LP := [sB [99],sB [116],bSE [sB [97]]]
def a5H:LP:=sB [109] :: .sl true 5 [.agg I7] :: .sl true 9 [.agg l146]::(.sl true 3 [.agg a5G]::aL3)
def a5I:LP := [.sl false 5 [.agg l66],nI 0,nI 0,nI 0]
def a8:Ans:=⟨226,[bSF,.ptr 1 0,.ptr 1 3],[some [.ptr 2 0,nI 0,.sl true 1 []],some OO,some aL6],(.tuple [],[some [.ptr 2 0,nI 0,.sl true 1 []],some a5H,some a5I])⟩
theorem k8:KA a8:=fZ 40 (l := [a7]) (fV k7 fU) 400 (by kernel_rfl)
def a9:Ans:=⟨225,[bSF,.ptr 1 0],[some [.ptr 2 0],some [.ptr 3 0],some [.ptr 4 0,nI 0,.sl true 1 []],some OO,some aL6],(.tuple [],[some [.ptr 2 0],some [.ptr 3 0],some [.ptr 4 0,nI 0,.sl true 1 []],some a5H,some a5I])⟩
theorem k9:KA a9:=fZ 40 (l := [a8]) (fV k8 fU) 400 (by kernel_rfl)
def a10:Ans:=⟨132,[bSF,.ptr 1 0],[some [.ptr 2 0,nI 0,.sl true 1 []],some OO,some Yj],(.tuple [],[some [.ptr 2 0,nI 0,.sl true 1 []],some a5H,some a5I])⟩
theorem k10:KA a10:=fZ 40 (l := [a9]) (fV k9 fU) 400 (by kernel_rfl)
def a11:Ans:=⟨67,[bSE [.func (.func 176) [] [.cst (.agg l146)],.func (.func 178) [] [.cst (.agg l146)],.func (.func 179) [] [.cst (.agg I8),.cst (.agg l146)],.func (.func 181) [] [.cst (.agg I8),.cst (.agg l146)],.func (.func 182) [] [.cst (.agg I8)],.func (.func 183) [] [.cst (.agg I8)],.func (.func 184) [] [.cst (.agg I8)],.func (.func 185) [] [.cst (.agg I8)],.func (.func 188) [] [.cst (.agg I8),.cst (.agg l146)]]],[],(nI 0,[])⟩
theorem k11:KA a11:=fZ 40 (l := []) fU 400 (by kernel_rfl)
def a12:Ans:=⟨78,[.agg l146],[],(nI 0,[])⟩
theorem k12:KA a12:=fZ 40 (l := [a11]) (fV k11 fU) 400 (by kernel_rfl)
def yN:LP := [sB [109],.sl false 5 [.agg I7],.sl false 9 [.agg l146],.sl false 3 [.agg a5G],.sl false 3 [],.sl false 2 [],.sl false 3 []]
def a13:Ans:=⟨77,[.cst (.agg yN),.cst (nI 0)],[],(nI 0,[])⟩
theorem k13:KA a13:=fZ 40 (l := [a12]) (fV k12 fU) 400 (by kernel_rfl)
def a14:Ans:=⟨67,[bSE [.func (.func 75) [] [.cst (bSE [sB [116]]),.cst (nI 0)],.func (.func 77) [] [.cst (.agg yN),.cst (nI 0)]]],[],(nI 0,[])⟩
theorem k14:KA a14:=fZ 40 (l := [a13]) (fV k13 fU) 400 (by kernel_rfl)
def a15:Ans:=⟨74,[nI 0,.cst (bSE [sB [116]]),.cst (.agg yN)],[],(nI 0,[])⟩
theorem k15:KA a15:=fZ 40 (l := [a14]) (fV k14 fU) 400 (by kernel_rfl)
def a16:Ans:=⟨73,[.sl false 9 [.agg l146],.func (.func 74) [] [.cst (bSE [sB [116]]),.cst (.agg yN)]],[],(nI 0,[])⟩
theorem k16:KA a16:=fZ 40 (l := [a15]) (fV k15 fU) 400 (by kernel_rfl)
def a17:Ans:=⟨72,[.cst (.agg yN),.cst (bSE [sB [116]])],[],(nI 0,[])⟩
theorem k17:KA a17:=fZ 40 (l := [a16]) (fV k16 fU) 400 (by kernel_rfl)
def a18:Ans:=⟨67,[bSE [.func (.func 68) [] [.cst (.agg yN)],.func (.func 70) [] [.cst (.agg yN)],.func (.func 71) [] [.cst (.agg yN)],.func (.func 72) [] [.cst (.agg yN),.cst (bSE [sB [116]])],.func (.func 79) [] [.cst (.sl false 3 [.agg a5G]),.cst (bSE [sB [99]])],.func (.func 85) [] [.cst (.agg yN),.cst (bSE [])],.func (.func 93) [] [.cst (.agg yN),.cst (bSE [])]]],[],(nI 0,[])⟩
theorem k18:KA a18:=fZ 40 (l := [a17]) (fV k17 fU) 400 (by kernel_rfl)
def a19:Ans:=⟨18,[.agg yN],[],(nI 0,[])⟩
theorem k19:KA a19:=fZ 40 (l := [a18]) (fV k18 fU) 400 (by kernel_rfl)
def a20:Ans:=⟨36,[sB [109,111,100,101,108,32,109,59,32,101,118,101,110,116,32,97,32,99,111,110,116,114,111,108,108,97,98,108,101,59,32,116,101,109,112,108,97,116,101,32,116,40,120,41,32,123,32,108,111,99,97,116,105,111,110,32,112,32,109,97,114,107,101,100,59,32,101,100,103,101,32,112,32,120,32,112,59,32,125,32,99,111,109,112,111,110,101,110,116,32,99,32,61,32,116,40,97,41,59]],[],(.tuple [.agg yN,nI 0,nI 0,nI 0],[])⟩
theorem k20:KA a20:=fZ 40 (l := [a6,a10,a19]) (fV k6 (fV k10 (fV k19 fU))) 400 (by kernel_rfl)
def Tc:LP := [nI 3,sB [59],nI 0,nI 0,nI 0]
def aL7:LP := [nI 1,sB [97],nI 0,nI 0,nI 0]
def aL8:LP := [nI 1,sB [116],nI 0,nI 0,nI 0]
def a5J:LP := [nI 3,sB [40],nI 0,nI 0,nI 0]
def aL9:LP := [nI 1,sB [120],nI 0,nI 0,nI 0]
def a5K:LP := [nI 3,sB [41],nI 0,nI 0,nI 0]
def a5L:LP := [nI 1,sB [112],nI 0,nI 0,nI 0]
def aLA:LP := [.agg [nI 1,sB [109,111,100,101,108],nI 0,nI 0,nI 0],.agg [nI 1,sB [109],nI 0,nI 0,nI 0],.agg Tc,.agg [nI 1,sB [101,118,101,110,116],nI 0,nI 0,nI 0],.agg aL7,.agg [nI 1,sB [99,111,110,116,114,111,108,108,97,98,108,101],nI 0,nI 0,nI 0],.agg Tc,.agg [nI 1,sB [116,101,109,112,108,97,116,101],nI 0,nI 0,nI 0],.agg aL8,.agg a5J,.agg aL9,.agg a5K,.agg [nI 3,sB [123],nI 0,nI 0,nI 0],.agg [nI 1,sB [108,111,99,97,116,105,111,110],nI 0,nI 0,nI 0],.agg a5L,.agg [nI 1,sB [105,110,105,116,105,97,108],nI 0,nI 0,nI 0],.agg [nI 1,sB [109,97,114,107,101,100],nI 0,nI 0,nI 0],.agg Tc,.agg [nI 1,sB [101,100,103,101],nI 0,nI 0,nI 0],.agg a5L,.agg aL9,.agg a5L,.agg Tc,.agg [nI 3,sB [125],nI 0,nI 0,nI 0],.agg [nI 1,sB [99,111,109,112,111,110,101,110,116],nI 0,nI 0,nI 0],.agg [nI 1,sB [99],nI 0,nI 0,nI 0],.agg [nI 3,sB [61],nI 0,nI 0,nI 0],.agg aL8,.agg a5J,.agg aL7,.agg a5K,.agg Tc]
def a21:Ans:=⟨114,[.sl false 5 aLA],[],(.tuple [sB [109,111,100,101,108,32,109,32,59,32,101,118,101,110,116,32,97,32,99,111,110,116,114,111,108,108,97,98,108,101,32,59,32,116,101,109,112,108,97,116,101,32,116,32,40,32,120,32,41,32,123,32,108,111,99,97,116,105,111,110,32,112,32,105,110,105,116,105,97,108,32,109,97,114,107,101,100,32,59,32,101,100,103,101,32,112,32,120,32,112,32,59,32,125,32,99,111,109,112,111,110,101,110,116,32,99,32,61,32,116,32,40,32,97,32,41,32,59],nI 0],[])⟩
theorem k21:KA a21:=fZ 40 (l := []) fU 400 (by kernel_rfl)
def aLB:LP := [sB [109,111,100,101,108,32,109,59,10,101,118,101,110,116,32,97,32,99,111,110,116,114,111,108,108,97,98,108,101,59,10,116,101,109,112,108,97,116,101,32,116,32,40,120,41,32,123,10,32,32,108,111,99,97,116,105,111,110,32,112,32,105,110,105,116,105,97,108,32,109,97,114,107,101,100,59,10,32,32,101,100,103,101,32,112,32,120,32,112,59,10,125,10,99,111,109,112,111,110,101,110,116,32,99,32,61,32,116,32,40,97,41,59,10],nI 0]
def a22:Ans:=⟨58,[.sl false 5 aLA],[],(.tuple aLB,[])⟩
theorem k22:KA a22:=fZ 40 (l := [a21]) (fV k21 fU) 400 (by kernel_rfl)
def a23:Ans:=⟨17,[.agg yN],[],(.tuple aLB,[])⟩
theorem k23:KA a23:=fZ 40 (l := [a19,a22]) (fV k19 (fV k22 fU)) 400 (by kernel_rfl)
def rM:LP := [.ptr 1 0,nI 0,bSE [sB [110]]]
def aLC:LP := [nI 3,sB [41],nI 0,nI 1,nI 22]
def a5M:LP := [nI 4,sB [],nI 0,nI 1,nI 23]
def aLD:LP := [.agg [nI 1,sB [110],nI 0,nI 1,nI 16],.agg [nI 3,sB [61,61],nI 0,nI 1,nI 18],.agg [nI 2,sB [48],nI 0,nI 1,nI 21],.agg aLC,.agg a5M]
def aLE:LP := .agg [nI 3,sB [40],nI 0,nI 1,nI 15]::aLD
def aLF:LP := .agg [nI 3,sB [33],nI 0,nI 1,nI 14]::aLE
def aLG:LP := .agg [nI 3,sB [38,38],nI 0,nI 1,nI 11]::aLF
def aLH:LP := .agg [nI 3,sB [60],nI 0,nI 1,nI 7] :: .agg [nI 2,sB [51],nI 3,nI 1,nI 9]::aLG
def Td:LP := [.sl false 5 (.agg [nI 1,sB [110],nI 0,nI 1,nI 1] :: .agg [nI 3,sB [43],nI 0,nI 1,nI 3] :: .agg [nI 2,sB [49],nI 1,nI 1,nI 5]::aLH),nI 0,nI 0,nI 0]
def aLI:LP := [nI 2,nI 0,nI 0,.sl false 4 [.agg (nI 1::a5E),.agg [nI 0,nI 1,nI 0,.sl false 4 []]]]
def a24:Ans:=⟨196,[bSF,nI 4],[some rM,some Td],(.agg aLI,[some rM,some [.sl false 5 aLH,nI 0,nI 0,nI 0]])⟩
theorem k24:KA a24:=fZ 40 (l := []) fU 400 (by kernel_rfl)
def a5N:LP := [nI 8,nI 0,nI 0,.sl false 4 [.agg aLI,.agg [nI 0,nI 3,nI 0,.sl false 4 []]]]
def a25:Ans:=⟨196,[bSF,nI 3],[some rM,some Td],(.agg a5N,[some rM,some [.sl false 5 aLG,nI 0,nI 0,nI 0]])⟩
theorem k25:KA a25:=fZ 40 (l := [a24]) (fV k24 fU) 400 (by kernel_rfl)
def I9:LP := [.ptr 1 0,nI 2,bSE [sB [110]]]
def Tf:LP := [.sl false 5 aLD,nI 0,nI 0,nI 0]
def IA:LP := [nI 6,nI 0,nI 0,.sl false 4 [.agg (nI 1::a5E),.agg Jv]]
def Yk:LP := [.sl false 5 [.agg aLC,.agg a5M],nI 0,nI 0,nI 0]
def a26:Ans:=⟨196,[bSF,nI 3],[some I9,some Tf],(.agg IA,[some I9,some Yk])⟩
theorem k26:KA a26:=fZ 40 (l := []) fU 400 (by kernel_rfl)
def a27:Ans:=⟨196,[bSF,nI 2],[some I9,some Tf],(.agg IA,[some I9,some Yk])⟩
theorem k27:KA a27:=fZ 40 (l := [a26]) (fV k26 fU) 400 (by kernel_rfl)
def a28:Ans:=⟨196,[bSF,nI 1],[some I9,some Tf],(.agg IA,[some I9,some Yk])⟩
theorem k28:KA a28:=fZ 40 (l := [a27]) (fV k27 fU) 400 (by kernel_rfl)
def a29:Ans:=⟨102,[bSF],[some I9,some Tf],(.agg IA,[some I9,some Yk])⟩
theorem k29:KA a29:=fZ 40 (l := [a28]) (fV k28 fU) 400 (by kernel_rfl)
def aLJ:LP := [.ptr 2 0,nI 2,bSE [sB [110]]]
def zT:LP := [.sl false 5 [.agg a5M],nI 0,nI 0,nI 0]
def a30:Ans:=⟨310,[bSF],[some [.ptr 1 0],some aLJ,some Tf],(.agg IA,[some [.ptr 1 0],some aLJ,some zT])⟩
theorem k30:KA a30:=fZ 40 (l := [a29]) (fV k29 fU) 400 (by kernel_rfl)
def Yl:LP := [.ptr 2 0,nI 1,bSE [sB [110]]]
def a5O:LP := [.sl false 5 aLE,nI 0,nI 0,nI 0]
def a31:Ans:=⟨307,[bSF,.func (.func 310) [] [.ptr 1 0]],[some Yl,some [bSF],some a5O],(.agg IA,[some Yl,some [bSF],some zT])⟩
theorem k31:KA a31:=fZ 40 (l := [a30]) (fV k30 fU) 400 (by kernel_rfl)
def aLK:LP := [.ptr 1 0,nI 1,bSE [sB [110]]]
def a32:Ans:=⟨254,[bSF],[some aLK,some a5O],(.agg IA,[some aLK,some zT])⟩
theorem k32:KA a32:=fZ 40 (l := [a31]) (fV k31 fU) 400 (by kernel_rfl)
def FK:LP := [nI 10,nI 0,nI 0,.sl false 4 [.agg IA]]
def a33:Ans:=⟨308,[bSF],[some [.ptr 1 0],some Yl,some a5O],(.agg FK,[some [.ptr 1 0],some Yl,some zT])⟩
theorem k33:KA a33:=fZ 40 (l := [a32]) (fV k32 fU) 400 (by kernel_rfl)
def aLL:LP := [.ptr 2 0,nI 0,bSE [sB [110]]]
def OQ:LP := [.sl false 5 aLF,nI 0,nI 0,nI 0]
def a34:Ans:=⟨307,[bSF,.func (.func 308) [] [.ptr 1 0]],[some aLL,some [bSF],some OQ],(.agg FK,[some aLL,some [bSF],some zT])⟩
theorem k34:KA a34:=fZ 40 (l := [a33]) (fV k33 fU) 400 (by kernel_rfl)
def a35:Ans:=⟨254,[bSF],[some rM,some OQ],(.agg FK,[some rM,some zT])⟩
theorem k35:KA a35:=fZ 40 (l := [a34]) (fV k34 fU) 400 (by kernel_rfl)
def a36:Ans:=⟨196,[bSF,nI 6],[some rM,some OQ],(.agg FK,[some rM,some zT])⟩
theorem k36:KA a36:=fZ 40 (l := [a35]) (fV k35 fU) 400 (by kernel_rfl)
def a37:Ans:=⟨196,[bSF,nI 5],[some rM,some OQ],(.agg FK,[some rM,some zT])⟩
theorem k37:KA a37:=fZ 40 (l := [a36]) (fV k36 fU) 400 (by kernel_rfl)
def a38:Ans:=⟨196,[bSF,nI 4],[some rM,some OQ],(.agg FK,[some rM,some zT])⟩
theorem k38:KA a38:=fZ 40 (l := [a37]) (fV k37 fU) 400 (by kernel_rfl)
def a39:Ans:=⟨196,[bSF,nI 3],[some rM,some OQ],(.agg FK,[some rM,some zT])⟩
theorem k39:KA a39:=fZ 40 (l := [a38]) (fV k38 fU) 400 (by kernel_rfl)
def IB:LP := [nI 11,nI 0,nI 0,.sl false 4 [.agg a5N,.agg FK]]
def a40:Ans:=⟨196,[bSF,nI 2],[some rM,some Td],(.agg IB,[some rM,some zT])⟩
theorem k40:KA a40:=fZ 40 (l := [a25,a39]) (fV k25 (fV k39 fU)) 400 (by kernel_rfl)
def a41:Ans:=⟨196,[bSF,nI 1],[some rM,some Td],(.agg IB,[some rM,some zT])⟩
theorem k41:KA a41:=fZ 40 (l := [a40]) (fV k40 fU) 400 (by kernel_rfl)
def a42:Ans:=⟨102,[bSF],[some rM,some Td],(.agg IB,[some rM,some zT])⟩
theorem k42:KA a42:=fZ 40 (l := [a41]) (fV k41 fU) 400 (by kernel_rfl)
def a43:Ans:=⟨21,[bSE [sB [110]],sB [110,32,43,32,49,32,60,32,51,32,38,38,32,33,40,110,32,61,61,32,48,41]],[],(.tuple [.agg IB,nI 0,nI 0,nI 0],[])⟩
theorem k43:KA a43:=fZ 40 (l := [a42]) (fV k42 fU) 400 (by kernel_rfl)
def a44:Ans:=⟨27,[.agg IB,nI 1],[],(.tuple [nI 2,nI 0],[])⟩
theorem k44:KA a44:=fZ 40 (l := []) fU 400 (by kernel_rfl)
def Ym:LP := [nI 1,sB [110],nI 0,nI 0,nI 0]
def a5P:LP := [nI 3,sB [43],nI 0,nI 0,nI 0]
def a5Q:LP := [nI 2,sB [49],nI 1,nI 0,nI 0]
def a5R:LP := [nI 3,sB [60],nI 0,nI 0,nI 0]
def a5S:LP := [nI 2,sB [51],nI 3,nI 0,nI 0]
def aLM:LP := [.agg Ym,.agg a5P,.agg a5Q,.agg a5R,.agg a5S]
def a45:Ans:=⟨113,[bSF,bSE [sB [110]],.agg a5N,nI 2],[some [.sl true 5 []]],(.tuple [],[some [.sl true 5 aLM]])⟩
theorem k45:KA a45:=fZ 40 (l := []) fU 400 (by kernel_rfl)
def aLN:LP := [bSF,.cst (bSE [sB [110]]),.cst (.agg IB)]
def a46:Ans:=⟨208,(nI 0::nI 2::aLN),[some [.ptr 1 0],some [.sl true 5 []]],(.tuple [],[some [.ptr 1 0],some [.sl true 5 aLM]])⟩
theorem k46:KA a46:=fZ 40 (l := [a45]) (fV k45 fU) 400 (by kernel_rfl)
def aLO:LP := [nI 3,sB [38,38],nI 0,nI 0,nI 0]
def aLP:LP := [.agg Ym,.agg a5P,.agg a5Q,.agg a5R,.agg a5S,.agg aLO]
def Yn:LP := [.agg Ym,.agg a5P,.agg a5Q,.agg a5R,.agg a5S,.agg aLO,.agg [nI 3,sB [33],nI 0,nI 0,nI 0],.agg a5J,.agg Ym,.agg [nI 3,sB [61,61],nI 0,nI 0,nI 0],.agg [nI 2,sB [48],nI 0,nI 0,nI 0],.agg a5K]
def a47:Ans:=⟨113,[bSF,bSE [sB [110]],.agg FK,nI 3],[some [.sl true 5 aLP]],(.tuple [],[some [.sl true 5 Yn]])⟩
theorem k47:KA a47:=fZ 40 (l := []) fU 400 (by kernel_rfl)
def a48:Ans:=⟨208,(nI 1::(nI 3::aLN)),[some [.ptr 1 0],some [.sl true 5 aLP]],(.tuple [],[some [.ptr 1 0],some [.sl true 5 Yn]])⟩
theorem k48:KA a48:=fZ 40 (l := [a47]) (fV k47 fU) 400 (by kernel_rfl)
def a49:Ans:=⟨113,[bSF,bSE [sB [110]],.agg IB,nI 0],[some [.sl true 5 []]],(.tuple [],[some [.sl true 5 Yn]])⟩
theorem k49:KA a49:=fZ 40 (l := [a46,a48]) (fV k46 (fV k48 fU)) 400 (by kernel_rfl)
def aLQ:LP := [sB [110,32,43,32,49,32,60,32,51,32,38,38,32,33,32,40,32,110,32,61,61,32,48,32,41],nI 0]
def a50:Ans:=⟨114,[.sl false 5 Yn],[],(.tuple aLQ,[])⟩
theorem k50:KA a50:=fZ 40 (l := []) fU 400 (by kernel_rfl)
def a51:Ans:=⟨28,[bSE [sB [110]],.agg IB],[],(.tuple aLQ,[])⟩
theorem k51:KA a51:=fZ 40 (l := [a44,a49,a50]) (fV k44 (fV k49 (fV k50 fU))) 400 (by kernel_rfl)
def a52:Ans:=⟨12,[],[],(.bool true,[])⟩
theorem k52:KA a52:=fZ 40 (l := [a20,a23,a43,a51]) (fV k20 (fV k23 (fV k43 (fV k51 fU)))) 400 (by kernel_rfl)
end Go.Proofs.YtcdceiloganlnaaGreatDoor.W
end
