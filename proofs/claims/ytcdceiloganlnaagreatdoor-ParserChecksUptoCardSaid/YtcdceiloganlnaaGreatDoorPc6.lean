/- A part of the proof: K17m. -/
import Derived.Test.YtcdceiloganlnaaGreatDoorPc4
import Derived.Test.YtcdceiloganlnaaGreatDoorPc3
set_option linter.unusedVariables false
set_option linter.unusedSimpArgs false
set_option linter.unnecessarySimpa false
set_option linter.unusedSectionVars false
noncomputable section
namespace Go.Proofs.YtcdceiloganlnaaGreatDoor.W
open Go.RowKit
set_option maxRecDepth 1000000
abbrev LP:=List PV
abbrev nI (n:Int):PV := .int .i64 n
abbrev sB (l:List UInt8):PV := .str ⟨⟨l⟩⟩
abbrev KA (a:Ans):Prop:=SS.CC a.g a.args a.h=some a.v
theorem eU {a:Ans} {l:List Ans} (h:KA a) (hl:∀ a,a∈l->KA a):∀ b,b∈a::l->KA b:=aM9 h hl
theorem eX (m:Nat) {l:List Ans} (hl:∀ a,a∈l->KA a) (n:Nat) {a:Ans} (e:SS.stepT (SS.memo l m) n a.g a.args a.h=some a.v):KA a:=aLE dO m hl n e
def l0:LP := [.ptr 0 0,.func (.func 279) [] [.ptr 1 0,.ptr 2 0]]
def l63:LP := [nI 3,sB [59],nI 0,nI 1,nI 99]
def l66:LP := [nI 4,sB [],nI 0,nI 1,nI 100]
def l68:LP := [.agg [nI 3,sB [40],nI 0,nI 1,nI 96],.agg [nI 1,sB [97],nI 0,nI 1,nI 97],.agg [nI 3,sB [41],nI 0,nI 1,nI 98],.agg l63,.agg l66]
def l71:LP := .agg [nI 1,sB [99],nI 0,nI 1,nI 91] :: .agg [nI 3,sB [61],nI 0,nI 1,nI 93] :: .agg [nI 1,sB [116],nI 0,nI 1,nI 95]::l68
def l72:LP := .agg [nI 1,sB [99,111,109,112,111,110,101,110,116],nI 0,nI 1,nI 81]::l71
def l73:LP := .agg [nI 3,sB [125],nI 0,nI 1,nI 79]::l72
def l77:LP := .agg [nI 1,sB [112],nI 0,nI 1,nI 72] :: .agg [nI 1,sB [120],nI 0,nI 1,nI 74] :: .agg [nI 1,sB [112],nI 0,nI 1,nI 76] :: .agg [nI 3,sB [59],nI 0,nI 1,nI 77]::l73
def l78:LP := .agg [nI 1,sB [101,100,103,101],nI 0,nI 1,nI 67]::l77
def Kr:LP := .agg [nI 1,sB [112],nI 0,nI 1,nI 57] :: .agg [nI 1,sB [109,97,114,107,101,100],nI 0,nI 1,nI 59] :: .agg [nI 3,sB [59],nI 0,nI 1,nI 65]::l78
def l83:LP := .agg [nI 3,sB [123],nI 0,nI 1,nI 46] :: .agg [nI 1,sB [108,111,99,97,116,105,111,110],nI 0,nI 1,nI 48]::Kr
def l84:LP := .agg [nI 3,sB [41],nI 0,nI 1,nI 44]::l83
def l85:LP := .agg [nI 1,sB [120],nI 0,nI 1,nI 43]::l84
def Ph:LP := [.sl true 1 [],nI 0,nI 0,.sl true 1 [],.sl true 4 [],.sl true 8 []]
def l93:LP:=sB [116] :: .sl true 1 [] :: .sl true 1 []::Ph
def l96:LP:=sB [116] :: .sl true 1 []::(.sl true 1 [sB [120]]::Ph)
def a0:Ans:=⟨286,l0,[some [.sl false 5 l85,nI 0,nI 0,nI 0],some l93,some [.ptr 3 0],some [.ptr 0 0,nI 0,.sl true 1 []]],(.tuple [],[some [.sl false 5 l84,nI 0,nI 0,nI 0],some l96,some [.ptr 3 0],some [.ptr 0 0,nI 0,.sl true 1 []]])⟩
theorem k0:KA a0:=eX 40 (l := []) eQ 400 (by kernel_rfl)
def l99:LP := [nI 3,sB [40],nI 0,nI 1,nI 42]
def a1:Ans:=⟨278,l0,[some [.ptr 3 0,nI 0,.sl true 1 []],some l93,some [.ptr 0 0],some [.sl false 5 (.agg l99::l85),nI 0,nI 0,nI 0]],(.tuple [],[some [.ptr 3 0,nI 0,.sl true 1 []],some l96,some [.ptr 0 0],some [.sl false 5 l83,nI 0,nI 0,nI 0]])⟩
theorem k1:KA a1:=eX 40 (l := [a0]) (eU k0 eQ) 400 (by kernel_rfl)
def aF1:LP := [sB [116],.sl true 1 [sB [112]],.sl true 1 [sB [120]],.sl true 1 [],nI 0,nI 0,.sl true 1 [nI 0],.sl true 4 [],.sl true 8 []]
def a2:Ans:=⟨280,[.ptr 0 0,.ptr 1 0,.ptr 2 0],[some [.ptr 3 0,nI 0,.sl true 1 []],some l96,some [.bool false],some [.sl false 5 Kr,nI 0,nI 0,nI 0]],(.tuple [],[some [.ptr 3 0,nI 0,.sl true 1 []],some aF1,some [.bool false],some [.sl false 5 l78,nI 0,nI 0,nI 0]])⟩
theorem k2:KA a2:=eX 40 (l := []) eQ 400 (by kernel_rfl)
def Zf:LP := [nI 0,nI 0,.sl false 4 []]
def Hw:LP:=nI 0::Zf
def aF2:LP := [nI 0,nI 0,nI 0,nI 6,nI 0,nI 0,.sl false 4 [.agg Hw,.agg Hw],.sl false 5 []]
def a3:Ans:=⟨282,[.ptr 0 0,.ptr 1 0],[some [.ptr 2 0,nI 0,.sl true 1 []],some aF1,some [.sl false 5 l77,nI 0,nI 0,nI 0]],(.tuple [],[some [.ptr 2 0,nI 0,.sl true 1 []],some [sB [116],.sl true 1 [sB [112]],.sl true 1 [sB [120]],.sl true 1 [],nI 0,nI 0,.sl true 1 [nI 0],.sl true 4 [],.sl true 8 [.agg aF2]],some [.sl false 5 l73,nI 0,nI 0,nI 0]])⟩
theorem k3:KA a3:=eX 40 (l := []) eQ 400 (by kernel_rfl)
def Eh:LP := [sB [97],.bool true,.bool false,.bool false,nI 0]
def aF4:LP := [.sl true 3 [],.sl true 2 [],.sl true 3 []]
def aF5:LP := .sl true 3 []::aF4
def Zh:LP:=sB [109] :: .sl true 5 [.agg Eh] :: .sl true 9 []::aF5
def PX:LP := .agg [nI 1,sB [116],nI 0,nI 1,nI 41]::(.agg l99::l85)
def aF6:LP := [.sl false 5 PX,nI 0,nI 0,nI 0]
def Ei:LP := [.sl false 1 [nI 0],nI 1,nI 0,.sl false 1 [nI 0],.sl false 4 [],.sl false 8 [.agg aF2]]
def l146:LP:=sB [116] :: .sl false 1 [sB [112]] :: .sl false 1 [sB [120]]::Ei
def KZ:LP:=sB [109] :: .sl true 5 [.agg Eh]::(.sl true 9 [.agg l146]::aF5)
def VN:LP := [.sl false 5 l72,nI 0,nI 0,nI 0]
def a4:Ans:=⟨224,[.ptr 0 0,.ptr 1 0],[some [.ptr 2 0,nI 0,.sl true 1 []],some Zh,some aF6],(.tuple [],[some [.ptr 2 0,nI 0,.sl true 1 []],some KZ,some VN])⟩
theorem k4:KA a4:=eX 40 (l := [a1,a2,a3]) (eU k1 (eU k2 (eU k3 eQ))) 400 (by kernel_rfl)
def a5:Ans:=⟨223,[.ptr 0 0,.ptr 1 0],[some [.ptr 2 0],some [.ptr 3 0],some [.ptr 4 0,nI 0,.sl true 1 []],some Zh,some aF6],(.tuple [],[some [.ptr 2 0],some [.ptr 3 0],some [.ptr 4 0,nI 0,.sl true 1 []],some KZ,some VN])⟩
theorem k5:KA a5:=eX 40 (l := [a4]) (eU k4 eQ) 400 (by kernel_rfl)
def a6:Ans:=⟨132,[.ptr 0 0,.ptr 1 0],[some [.ptr 2 0,nI 0,.sl true 1 []],some Zh,some [.sl false 5 (.agg [nI 1,sB [116,101,109,112,108,97,116,101],nI 0,nI 1,nI 32]::PX),nI 0,nI 0,nI 0]],(.tuple [],[some [.ptr 2 0,nI 0,.sl true 1 []],some KZ,some VN])⟩
theorem k6:KA a6:=eX 40 (l := [a5]) (eU k5 eQ) 400 (by kernel_rfl)
def a7:Ans:=⟨278,[.ptr 0 0,.func (.func 284) [] [.ptr 1 0,.ptr 2 0]],[some [.ptr 3 0,nI 0,.sl true 1 []],some [sB [99],sB [116],.sl true 1 []],some [.ptr 0 0],some [.sl false 5 l68,nI 0,nI 0,nI 0]],(.tuple [],[some [.ptr 3 0,nI 0,.sl true 1 []],some [sB [99],sB [116],.sl true 1 [sB [97]]],some [.ptr 0 0],some [.sl false 5 [.agg l63,.agg l66],nI 0,nI 0,nI 0]])⟩
theorem k7:KA a7:=eX 40 (l := []) eQ 400 (by kernel_rfl)
def aF7:LP := [.sl false 5 l71,nI 0,nI 0,nI 0]
def Zi:LP := [sB [99],sB [116],.sl false 1 [sB [97]]]
def Zk:LP:=sB [109] :: .sl true 5 [.agg Eh] :: .sl true 9 [.agg l146]::(.sl true 3 [.agg Zi]::aF4)
def Zl:LP := [.sl false 5 [.agg l66],nI 0,nI 0,nI 0]
def a8:Ans:=⟨226,[.ptr 0 0,.ptr 1 0,.ptr 1 3],[some [.ptr 2 0,nI 0,.sl true 1 []],some KZ,some aF7],(.tuple [],[some [.ptr 2 0,nI 0,.sl true 1 []],some Zk,some Zl])⟩
theorem k8:KA a8:=eX 40 (l := [a7]) (eU k7 eQ) 400 (by kernel_rfl)
def a9:Ans:=⟨225,[.ptr 0 0,.ptr 1 0],[some [.ptr 2 0],some [.ptr 3 0],some [.ptr 4 0,nI 0,.sl true 1 []],some KZ,some aF7],(.tuple [],[some [.ptr 2 0],some [.ptr 3 0],some [.ptr 4 0,nI 0,.sl true 1 []],some Zk,some Zl])⟩
theorem k9:KA a9:=eX 40 (l := [a8]) (eU k8 eQ) 400 (by kernel_rfl)
def a10:Ans:=⟨132,[.ptr 0 0,.ptr 1 0],[some [.ptr 2 0,nI 0,.sl true 1 []],some KZ,some VN],(.tuple [],[some [.ptr 2 0,nI 0,.sl true 1 []],some Zk,some Zl])⟩
theorem k10:KA a10:=eX 40 (l := [a9]) (eU k9 eQ) 400 (by kernel_rfl)
def a11:Ans:=⟨67,[.sl false 1 [.func (.func 176) [] [.cst (.agg l146)],.func (.func 178) [] [.cst (.agg l146)],.func (.func 179) [] [.cst (.agg Ei),.cst (.agg l146)],.func (.func 181) [] [.cst (.agg Ei),.cst (.agg l146)],.func (.func 182) [] [.cst (.agg Ei)],.func (.func 183) [] [.cst (.agg Ei)],.func (.func 184) [] [.cst (.agg Ei)],.func (.func 185) [] [.cst (.agg Ei)],.func (.func 188) [] [.cst (.agg Ei),.cst (.agg l146)]]],[],(nI 0,[])⟩
theorem k11:KA a11:=eX 40 (l := []) eQ 400 (by kernel_rfl)
def a12:Ans:=⟨78,[.agg l146],[],(nI 0,[])⟩
theorem k12:KA a12:=eX 40 (l := [a11]) (eU k11 eQ) 400 (by kernel_rfl)
def vP:LP := [sB [109],.sl false 5 [.agg Eh],.sl false 9 [.agg l146],.sl false 3 [.agg Zi],.sl false 3 [],.sl false 2 [],.sl false 3 []]
def a13:Ans:=⟨77,[.cst (.agg vP),.cst (nI 0)],[],(nI 0,[])⟩
theorem k13:KA a13:=eX 40 (l := [a12]) (eU k12 eQ) 400 (by kernel_rfl)
def a14:Ans:=⟨67,[.sl false 1 [.func (.func 75) [] [.cst (.sl false 1 [sB [116]]),.cst (nI 0)],.func (.func 77) [] [.cst (.agg vP),.cst (nI 0)]]],[],(nI 0,[])⟩
theorem k14:KA a14:=eX 40 (l := [a13]) (eU k13 eQ) 400 (by kernel_rfl)
def a15:Ans:=⟨74,[nI 0,.cst (.sl false 1 [sB [116]]),.cst (.agg vP)],[],(nI 0,[])⟩
theorem k15:KA a15:=eX 40 (l := [a14]) (eU k14 eQ) 400 (by kernel_rfl)
def a16:Ans:=⟨73,[.sl false 9 [.agg l146],.func (.func 74) [] [.cst (.sl false 1 [sB [116]]),.cst (.agg vP)]],[],(nI 0,[])⟩
theorem k16:KA a16:=eX 40 (l := [a15]) (eU k15 eQ) 400 (by kernel_rfl)
def a17:Ans:=⟨72,[.cst (.agg vP),.cst (.sl false 1 [sB [116]])],[],(nI 0,[])⟩
theorem k17:KA a17:=eX 40 (l := [a16]) (eU k16 eQ) 400 (by kernel_rfl)
def a18:Ans:=⟨67,[.sl false 1 [.func (.func 68) [] [.cst (.agg vP)],.func (.func 70) [] [.cst (.agg vP)],.func (.func 71) [] [.cst (.agg vP)],.func (.func 72) [] [.cst (.agg vP),.cst (.sl false 1 [sB [116]])],.func (.func 79) [] [.cst (.sl false 3 [.agg Zi]),.cst (.sl false 1 [sB [99]])],.func (.func 85) [] [.cst (.agg vP),.cst (.sl false 1 [])],.func (.func 93) [] [.cst (.agg vP),.cst (.sl false 1 [])]]],[],(nI 0,[])⟩
theorem k18:KA a18:=eX 40 (l := [a17]) (eU k17 eQ) 400 (by kernel_rfl)
def Xf:Ans:=⟨18,[.agg vP],[],(nI 0,[])⟩
theorem k19:KA Xf:=eX 40 (l := [a18]) (eU k18 eQ) 400 (by kernel_rfl)
def a20:Ans:=⟨36,[sB [109,111,100,101,108,32,109,59,32,101,118,101,110,116,32,97,32,99,111,110,116,114,111,108,108,97,98,108,101,59,32,116,101,109,112,108,97,116,101,32,116,40,120,41,32,123,32,108,111,99,97,116,105,111,110,32,112,32,109,97,114,107,101,100,59,32,101,100,103,101,32,112,32,120,32,112,59,32,125,32,99,111,109,112,111,110,101,110,116,32,99,32,61,32,116,40,97,41,59]],[],(.tuple [.agg vP,nI 0,nI 0,nI 0],[])⟩
theorem k20:KA a20:=eX 40 (l := [a6,a10,Xf]) (eU k6 (eU k10 (eU k19 eQ))) 400 (by kernel_rfl)
def PY:LP := [nI 3,sB [59],nI 0,nI 0,nI 0]
def aF8:LP := [nI 1,sB [97],nI 0,nI 0,nI 0]
def aF9:LP := [nI 1,sB [116],nI 0,nI 0,nI 0]
def Zm:LP := [nI 3,sB [40],nI 0,nI 0,nI 0]
def aFA:LP := [nI 1,sB [120],nI 0,nI 0,nI 0]
def Zn:LP := [nI 3,sB [41],nI 0,nI 0,nI 0]
def Zo:LP := [nI 1,sB [112],nI 0,nI 0,nI 0]
def aFB:LP := [.agg [nI 1,sB [109,111,100,101,108],nI 0,nI 0,nI 0],.agg [nI 1,sB [109],nI 0,nI 0,nI 0],.agg PY,.agg [nI 1,sB [101,118,101,110,116],nI 0,nI 0,nI 0],.agg aF8,.agg [nI 1,sB [99,111,110,116,114,111,108,108,97,98,108,101],nI 0,nI 0,nI 0],.agg PY,.agg [nI 1,sB [116,101,109,112,108,97,116,101],nI 0,nI 0,nI 0],.agg aF9,.agg Zm,.agg aFA,.agg Zn,.agg [nI 3,sB [123],nI 0,nI 0,nI 0],.agg [nI 1,sB [108,111,99,97,116,105,111,110],nI 0,nI 0,nI 0],.agg Zo,.agg [nI 1,sB [105,110,105,116,105,97,108],nI 0,nI 0,nI 0],.agg [nI 1,sB [109,97,114,107,101,100],nI 0,nI 0,nI 0],.agg PY,.agg [nI 1,sB [101,100,103,101],nI 0,nI 0,nI 0],.agg Zo,.agg aFA,.agg Zo,.agg PY,.agg [nI 3,sB [125],nI 0,nI 0,nI 0],.agg [nI 1,sB [99,111,109,112,111,110,101,110,116],nI 0,nI 0,nI 0],.agg [nI 1,sB [99],nI 0,nI 0,nI 0],.agg [nI 3,sB [61],nI 0,nI 0,nI 0],.agg aF9,.agg Zm,.agg aF8,.agg Zn,.agg PY]
def a21:Ans:=⟨114,[.sl false 5 aFB],[],(.tuple [sB [109,111,100,101,108,32,109,32,59,32,101,118,101,110,116,32,97,32,99,111,110,116,114,111,108,108,97,98,108,101,32,59,32,116,101,109,112,108,97,116,101,32,116,32,40,32,120,32,41,32,123,32,108,111,99,97,116,105,111,110,32,112,32,105,110,105,116,105,97,108,32,109,97,114,107,101,100,32,59,32,101,100,103,101,32,112,32,120,32,112,32,59,32,125,32,99,111,109,112,111,110,101,110,116,32,99,32,61,32,116,32,40,32,97,32,41,32,59],nI 0],[])⟩
theorem k21:KA a21:=eX 40 (l := []) eQ 400 (by kernel_rfl)
def aFC:LP := [sB [109,111,100,101,108,32,109,59,10,101,118,101,110,116,32,97,32,99,111,110,116,114,111,108,108,97,98,108,101,59,10,116,101,109,112,108,97,116,101,32,116,32,40,120,41,32,123,10,32,32,108,111,99,97,116,105,111,110,32,112,32,105,110,105,116,105,97,108,32,109,97,114,107,101,100,59,10,32,32,101,100,103,101,32,112,32,120,32,112,59,10,125,10,99,111,109,112,111,110,101,110,116,32,99,32,61,32,116,32,40,97,41,59,10],nI 0]
def a22:Ans:=⟨58,[.sl false 5 aFB],[],(.tuple aFC,[])⟩
theorem k22:KA a22:=eX 40 (l := [a21]) (eU k21 eQ) 400 (by kernel_rfl)
def a23:Ans:=⟨17,[.agg vP],[],(.tuple aFC,[])⟩
theorem k23:KA a23:=eX 40 (l := [Xf,a22]) (eU k19 (eU k22 eQ)) 400 (by kernel_rfl)
def oP:LP := [.ptr 1 0,nI 0,.sl false 1 [sB [110]]]
def aFD:LP := [nI 3,sB [41],nI 0,nI 1,nI 22]
def Zp:LP := [nI 4,sB [],nI 0,nI 1,nI 23]
def aFE:LP := [.agg [nI 1,sB [110],nI 0,nI 1,nI 16],.agg [nI 3,sB [61,61],nI 0,nI 1,nI 18],.agg [nI 2,sB [48],nI 0,nI 1,nI 21],.agg aFD,.agg Zp]
def aFF:LP := .agg [nI 3,sB [40],nI 0,nI 1,nI 15]::aFE
def aFG:LP := .agg [nI 3,sB [33],nI 0,nI 1,nI 14]::aFF
def aFH:LP := .agg [nI 3,sB [38,38],nI 0,nI 1,nI 11]::aFG
def aFI:LP := .agg [nI 3,sB [60],nI 0,nI 1,nI 7] :: .agg [nI 2,sB [51],nI 3,nI 1,nI 9]::aFH
def PZ:LP := [.sl false 5 (.agg [nI 1,sB [110],nI 0,nI 1,nI 1] :: .agg [nI 3,sB [43],nI 0,nI 1,nI 3] :: .agg [nI 2,sB [49],nI 1,nI 1,nI 5]::aFI),nI 0,nI 0,nI 0]
def aFJ:LP := [nI 2,nI 0,nI 0,.sl false 4 [.agg (nI 1::Zf),.agg [nI 0,nI 1,nI 0,.sl false 4 []]]]
def a24:Ans:=⟨196,[.ptr 0 0,nI 4],[some oP,some PZ],(.agg aFJ,[some oP,some [.sl false 5 aFI,nI 0,nI 0,nI 0]])⟩
theorem k24:KA a24:=eX 40 (l := []) eQ 400 (by kernel_rfl)
def Zq:LP := [nI 8,nI 0,nI 0,.sl false 4 [.agg aFJ,.agg [nI 0,nI 3,nI 0,.sl false 4 []]]]
def a25:Ans:=⟨196,[.ptr 0 0,nI 3],[some oP,some PZ],(.agg Zq,[some oP,some [.sl false 5 aFH,nI 0,nI 0,nI 0]])⟩
theorem k25:KA a25:=eX 40 (l := [a24]) (eU k24 eQ) 400 (by kernel_rfl)
def Ej:LP := [.ptr 1 0,nI 2,.sl false 1 [sB [110]]]
def Pg:LP := [.sl false 5 aFE,nI 0,nI 0,nI 0]
def Em:LP := [nI 6,nI 0,nI 0,.sl false 4 [.agg (nI 1::Zf),.agg Hw]]
def VO:LP := [.sl false 5 [.agg aFD,.agg Zp],nI 0,nI 0,nI 0]
def a26:Ans:=⟨196,[.ptr 0 0,nI 3],[some Ej,some Pg],(.agg Em,[some Ej,some VO])⟩
theorem k26:KA a26:=eX 40 (l := []) eQ 400 (by kernel_rfl)
def a27:Ans:=⟨196,[.ptr 0 0,nI 2],[some Ej,some Pg],(.agg Em,[some Ej,some VO])⟩
theorem k27:KA a27:=eX 40 (l := [a26]) (eU k26 eQ) 400 (by kernel_rfl)
def a28:Ans:=⟨196,[.ptr 0 0,nI 1],[some Ej,some Pg],(.agg Em,[some Ej,some VO])⟩
theorem k28:KA a28:=eX 40 (l := [a27]) (eU k27 eQ) 400 (by kernel_rfl)
def a29:Ans:=⟨102,[.ptr 0 0],[some Ej,some Pg],(.agg Em,[some Ej,some VO])⟩
theorem k29:KA a29:=eX 40 (l := [a28]) (eU k28 eQ) 400 (by kernel_rfl)
def aFK:LP := [.ptr 2 0,nI 2,.sl false 1 [sB [110]]]
def wZ:LP := [.sl false 5 [.agg Zp],nI 0,nI 0,nI 0]
def a30:Ans:=⟨310,[.ptr 0 0],[some [.ptr 1 0],some aFK,some Pg],(.agg Em,[some [.ptr 1 0],some aFK,some wZ])⟩
theorem k30:KA a30:=eX 40 (l := [a29]) (eU k29 eQ) 400 (by kernel_rfl)
def VP:LP := [.ptr 2 0,nI 1,.sl false 1 [sB [110]]]
def Zu:LP := [.sl false 5 aFF,nI 0,nI 0,nI 0]
def a31:Ans:=⟨307,[.ptr 0 0,.func (.func 310) [] [.ptr 1 0]],[some VP,some [.ptr 0 0],some Zu],(.agg Em,[some VP,some [.ptr 0 0],some wZ])⟩
theorem k31:KA a31:=eX 40 (l := [a30]) (eU k30 eQ) 400 (by kernel_rfl)
def aFL:LP := [.ptr 1 0,nI 1,.sl false 1 [sB [110]]]
def a32:Ans:=⟨254,[.ptr 0 0],[some aFL,some Zu],(.agg Em,[some aFL,some wZ])⟩
theorem k32:KA a32:=eX 40 (l := [a31]) (eU k31 eQ) 400 (by kernel_rfl)
def Ci:LP := [nI 10,nI 0,nI 0,.sl false 4 [.agg Em]]
def a33:Ans:=⟨308,[.ptr 0 0],[some [.ptr 1 0],some VP,some Zu],(.agg Ci,[some [.ptr 1 0],some VP,some wZ])⟩
theorem k33:KA a33:=eX 40 (l := [a32]) (eU k32 eQ) 400 (by kernel_rfl)
def aFM:LP := [.ptr 2 0,nI 0,.sl false 1 [sB [110]]]
def Ko:LP := [.sl false 5 aFG,nI 0,nI 0,nI 0]
def a34:Ans:=⟨307,[.ptr 0 0,.func (.func 308) [] [.ptr 1 0]],[some aFM,some [.ptr 0 0],some Ko],(.agg Ci,[some aFM,some [.ptr 0 0],some wZ])⟩
theorem k34:KA a34:=eX 40 (l := [a33]) (eU k33 eQ) 400 (by kernel_rfl)
def a35:Ans:=⟨254,[.ptr 0 0],[some oP,some Ko],(.agg Ci,[some oP,some wZ])⟩
theorem k35:KA a35:=eX 40 (l := [a34]) (eU k34 eQ) 400 (by kernel_rfl)
def a36:Ans:=⟨196,[.ptr 0 0,nI 6],[some oP,some Ko],(.agg Ci,[some oP,some wZ])⟩
theorem k36:KA a36:=eX 40 (l := [a35]) (eU k35 eQ) 400 (by kernel_rfl)
def a37:Ans:=⟨196,[.ptr 0 0,nI 5],[some oP,some Ko],(.agg Ci,[some oP,some wZ])⟩
theorem k37:KA a37:=eX 40 (l := [a36]) (eU k36 eQ) 400 (by kernel_rfl)
def a38:Ans:=⟨196,[.ptr 0 0,nI 4],[some oP,some Ko],(.agg Ci,[some oP,some wZ])⟩
theorem k38:KA a38:=eX 40 (l := [a37]) (eU k37 eQ) 400 (by kernel_rfl)
def a39:Ans:=⟨196,[.ptr 0 0,nI 3],[some oP,some Ko],(.agg Ci,[some oP,some wZ])⟩
theorem k39:KA a39:=eX 40 (l := [a38]) (eU k38 eQ) 400 (by kernel_rfl)
def En:LP := [nI 11,nI 0,nI 0,.sl false 4 [.agg Zq,.agg Ci]]
def a40:Ans:=⟨196,[.ptr 0 0,nI 2],[some oP,some PZ],(.agg En,[some oP,some wZ])⟩
theorem k40:KA a40:=eX 40 (l := [a25,a39]) (eU k25 (eU k39 eQ)) 400 (by kernel_rfl)
def a41:Ans:=⟨196,[.ptr 0 0,nI 1],[some oP,some PZ],(.agg En,[some oP,some wZ])⟩
theorem k41:KA a41:=eX 40 (l := [a40]) (eU k40 eQ) 400 (by kernel_rfl)
def a42:Ans:=⟨102,[.ptr 0 0],[some oP,some PZ],(.agg En,[some oP,some wZ])⟩
theorem k42:KA a42:=eX 40 (l := [a41]) (eU k41 eQ) 400 (by kernel_rfl)
def a43:Ans:=⟨21,[.sl false 1 [sB [110]],sB [110,32,43,32,49,32,60,32,51,32,38,38,32,33,40,110,32,61,61,32,48,41]],[],(.tuple [.agg En,nI 0,nI 0,nI 0],[])⟩
theorem k43:KA a43:=eX 40 (l := [a42]) (eU k42 eQ) 400 (by kernel_rfl)
def a44:Ans:=⟨27,[.agg En,nI 1],[],(.tuple [nI 2,nI 0],[])⟩
theorem k44:KA a44:=eX 40 (l := []) eQ 400 (by kernel_rfl)
def VQ:LP := [nI 1,sB [110],nI 0,nI 0,nI 0]
def Zv:LP := [nI 3,sB [43],nI 0,nI 0,nI 0]
def Zw:LP := [nI 2,sB [49],nI 1,nI 0,nI 0]
def Zx:LP := [nI 3,sB [60],nI 0,nI 0,nI 0]
def Zy:LP := [nI 2,sB [51],nI 3,nI 0,nI 0]
def aFN:LP := [.agg VQ,.agg Zv,.agg Zw,.agg Zx,.agg Zy]
def a45:Ans:=⟨113,[.ptr 0 0,.sl false 1 [sB [110]],.agg Zq,nI 2],[some [.sl true 5 []]],(.tuple [],[some [.sl true 5 aFN]])⟩
theorem k45:KA a45:=eX 40 (l := []) eQ 400 (by kernel_rfl)
def aFO:LP := [.ptr 0 0,.cst (.sl false 1 [sB [110]]),.cst (.agg En)]
def a46:Ans:=⟨208,(nI 0::nI 2::aFO),[some [.ptr 1 0],some [.sl true 5 []]],(.tuple [],[some [.ptr 1 0],some [.sl true 5 aFN]])⟩
theorem k46:KA a46:=eX 40 (l := [a45]) (eU k45 eQ) 400 (by kernel_rfl)
def aFP:LP := [nI 3,sB [38,38],nI 0,nI 0,nI 0]
def aFQ:LP := [.agg VQ,.agg Zv,.agg Zw,.agg Zx,.agg Zy,.agg aFP]
def VR:LP := [.agg VQ,.agg Zv,.agg Zw,.agg Zx,.agg Zy,.agg aFP,.agg [nI 3,sB [33],nI 0,nI 0,nI 0],.agg Zm,.agg VQ,.agg [nI 3,sB [61,61],nI 0,nI 0,nI 0],.agg [nI 2,sB [48],nI 0,nI 0,nI 0],.agg Zn]
def a47:Ans:=⟨113,[.ptr 0 0,.sl false 1 [sB [110]],.agg Ci,nI 3],[some [.sl true 5 aFQ]],(.tuple [],[some [.sl true 5 VR]])⟩
theorem k47:KA a47:=eX 40 (l := []) eQ 400 (by kernel_rfl)
def a48:Ans:=⟨208,(nI 1::(nI 3::aFO)),[some [.ptr 1 0],some [.sl true 5 aFQ]],(.tuple [],[some [.ptr 1 0],some [.sl true 5 VR]])⟩
theorem k48:KA a48:=eX 40 (l := [a47]) (eU k47 eQ) 400 (by kernel_rfl)
def a49:Ans:=⟨113,[.ptr 0 0,.sl false 1 [sB [110]],.agg En,nI 0],[some [.sl true 5 []]],(.tuple [],[some [.sl true 5 VR]])⟩
theorem k49:KA a49:=eX 40 (l := [a46,a48]) (eU k46 (eU k48 eQ)) 400 (by kernel_rfl)
def aFR:LP := [sB [110,32,43,32,49,32,60,32,51,32,38,38,32,33,32,40,32,110,32,61,61,32,48,32,41],nI 0]
def a50:Ans:=⟨114,[.sl false 5 VR],[],(.tuple aFR,[])⟩
theorem k50:KA a50:=eX 40 (l := []) eQ 400 (by kernel_rfl)
def a51:Ans:=⟨28,[.sl false 1 [sB [110]],.agg En],[],(.tuple aFR,[])⟩
theorem k51:KA a51:=eX 40 (l := [a44,a49,a50]) (eU k44 (eU k49 (eU k50 eQ))) 400 (by kernel_rfl)
def a52:Ans:=⟨12,[],[],(.bool true,[])⟩
theorem k52:KA a52:=eX 40 (l := [a20,a23,a43,a51]) (eU k20 (eU k23 (eU k43 (eU k51 eQ)))) 400 (by kernel_rfl)
end Go.Proofs.YtcdceiloganlnaaGreatDoor.W
end
