/- A part of the proof. -/
import Derived.Test.YtagkcbgkhgccmaaGreatDoorPq4
import Derived.Test.YtagkcbgkhgccmaaGreatDoorPq3
set_option linter.unusedVariables false
set_option linter.defProp false
set_option linter.unusedSimpArgs false
set_option linter.unnecessarySimpa false
set_option linter.unusedSectionVars false
noncomputable section
namespace Go.Proofs.YtagkcbgkhgccmaaGreatDoor.W
open Go.RowKit
set_option maxRecDepth 1000000
abbrev LP:=ai
abbrev nI (n:Int):PV := af n
abbrev sB (l:f_):PV := .str ⟨⟨l⟩⟩
abbrev KA (a:Ans):Prop:=SS.CC a.g a.args a.h=some a.v
variable {a:Ans}
def gu {l:List Ans} (h:KA a) (c:∀ a,a∈l->KA a):∀ b,b∈a::l->KA b:=a_1 h c
def gy (m:Nat) {l:List Ans} (b:∀ a,a∈l->KA a) (n:Nat) (e:SS.stepT (SS.memo l m) n a.g a.args a.h=some a.v):KA a:=aZB fD m b n e
def l0:LP := [ag,fU 167 [.ptr 1 0,.ptr 2 0]]
def l63:LP := [nI 3,sB [59],nI 0,nI 1,nI 99]
def l66:LP := [nI 4,sB [],nI 0,nI 1,nI 100]
def l68:LP := [.agg [nI 3,sB [40],nI 0,nI 1,nI 96],.agg [nI 1,sB [97],nI 0,nI 1,nI 97],.agg [nI 3,sB [41],nI 0,nI 1,nI 98],.agg l63,.agg l66]
def l71:LP := .agg [nI 1,sB [99],nI 0,nI 1,nI 91] :: .agg [nI 3,sB [61],nI 0,nI 1,nI 93] :: .agg [nI 1,sB [116],nI 0,nI 1,nI 95]::l68
def l72:LP := .agg [nI 1,sB [99,111,109,112,111,110,101,110,116],nI 0,nI 1,nI 81]::l71
def l73:LP := .agg [nI 3,sB [125],nI 0,nI 1,nI 79]::l72
def l77:LP := .agg [nI 1,sB [112],nI 0,nI 1,nI 72] :: .agg [nI 1,sB [120],nI 0,nI 1,nI 74] :: .agg [nI 1,sB [112],nI 0,nI 1,nI 76] :: .agg [nI 3,sB [59],nI 0,nI 1,nI 77]::l73
def l78:LP := .agg [nI 1,sB [101,100,103,101],nI 0,nI 1,nI 67]::l77
def Qx:LP := .agg [nI 1,sB [112],nI 0,nI 1,nI 57] :: .agg [nI 1,sB [109,97,114,107,101,100],nI 0,nI 1,nI 59] :: .agg [nI 3,sB [59],nI 0,nI 1,nI 65]::l78
def l83:LP := .agg [nI 3,sB [123],nI 0,nI 1,nI 46] :: .agg [nI 1,sB [108,111,99,97,116,105,111,110],nI 0,nI 1,nI 48]::Qx
def l84:LP := .agg [nI 3,sB [41],nI 0,nI 1,nI 44]::l83
def l85:LP := .agg [nI 1,sB [120],nI 0,nI 1,nI 43]::l84
def WA:LP := [.sl true 1 [],nI 0,nI 0,.sl true 1 [],.sl true 4 [],.sl true 8 []]
def l93:LP:=sB [116] :: .sl true 1 [] :: .sl true 1 []::WA
def l96:LP:=sB [116] :: .sl true 1 []::(.sl true 1 [sB [120]]::WA)
def a0:Ans:=⟨175,l0,[some [.sl false 5 l85,nI 0,nI 0,nI 0],some l93,some [.ptr 3 0],some [ag,nI 0,.sl true 1 []]],(.tuple [],[some [.sl false 5 l84,nI 0,nI 0,nI 0],some l96,some [.ptr 3 0],some [ag,nI 0,.sl true 1 []]])⟩
def k0:KA a0:=gy 40 (l := []) gq 400 (by kernel_rfl)
def l99:LP := [nI 3,sB [40],nI 0,nI 1,nI 42]
def a1:Ans:=⟨166,l0,[some [.ptr 3 0,nI 0,.sl true 1 []],some l93,some [ag],some [.sl false 5 (.agg l99::l85),nI 0,nI 0,nI 0]],(.tuple [],[some [.ptr 3 0,nI 0,.sl true 1 []],some l96,some [ag],some [.sl false 5 l83,nI 0,nI 0,nI 0]])⟩
def k1:KA a1:=gy 40 (l := [a0]) (gu k0 gq) 400 (by kernel_rfl)
def aRN:LP := [sB [116],.sl true 1 [sB [112]],.sl true 1 [sB [120]],.sl true 1 [],nI 0,nI 0,.sl true 1 [nI 0],.sl true 4 [],.sl true 8 []]
def a2:Ans:=⟨168,[ag,.ptr 1 0,.ptr 2 0],[some [.ptr 3 0,nI 0,.sl true 1 []],some l96,some [.bool false],some [.sl false 5 Qx,nI 0,nI 0,nI 0]],(.tuple [],[some [.ptr 3 0,nI 0,.sl true 1 []],some aRN,some [.bool false],some [.sl false 5 l78,nI 0,nI 0,nI 0]])⟩
def k2:KA a2:=gy 40 (l := []) gq 400 (by kernel_rfl)
def aAN:LP := [nI 0,nI 0,.sl false 4 []]
def NP:LP:=nI 0::aAN
def aRO:LP := [nI 0,nI 0,nI 0,nI 6,nI 0,nI 0,.sl false 4 [.agg NP,.agg NP],.sl false 5 []]
def a3:Ans:=⟨170,[ag,.ptr 1 0],[some [.ptr 2 0,nI 0,.sl true 1 []],some aRN,some [.sl false 5 l77,nI 0,nI 0,nI 0]],(.tuple [],[some [.ptr 2 0,nI 0,.sl true 1 []],some [sB [116],.sl true 1 [sB [112]],.sl true 1 [sB [120]],.sl true 1 [],nI 0,nI 0,.sl true 1 [nI 0],.sl true 4 [],.sl true 8 [.agg aRO]],some [.sl false 5 l73,nI 0,nI 0,nI 0]])⟩
def k3:KA a3:=gy 40 (l := []) gq 400 (by kernel_rfl)
def Ja:LP := [sB [97],.bool true,.bool false,.bool false,nI 0]
def aRQ:LP := [.sl true 3 [],.sl true 2 [],.sl true 3 []]
def aRR:LP := .sl true 3 []::aRQ
def aAO:LP:=sB [109] :: .sl true 5 [.agg Ja] :: .sl true 9 []::aRR
def Vw:LP := .agg [nI 1,sB [116],nI 0,nI 1,nI 41]::(.agg l99::l85)
def aRS:LP := [.sl false 5 Vw,nI 0,nI 0,nI 0]
def Jb:LP := [a_ [nI 0],nI 1,nI 0,a_ [nI 0],.sl false 4 [],.sl false 8 [.agg aRO]]
def u_:LP:=sB [116] :: a_ [sB [112]] :: a_ [sB [120]]::Jb
def Qv:LP:=sB [109] :: .sl true 5 [.agg Ja]::(.sl true 9 [.agg u_]::aRR)
def a2V:LP := [.sl false 5 l72,nI 0,nI 0,nI 0]
def a4:Ans:=⟨67,[ag,.ptr 1 0],[some [.ptr 2 0,nI 0,.sl true 1 []],some aAO,some aRS],(.tuple [],[some [.ptr 2 0,nI 0,.sl true 1 []],some Qv,some a2V])⟩
def k4:KA a4:=gy 40 (l := [a1,a2,a3]) (gu k1 (gu k2 (gu k3 gq))) 400 (by kernel_rfl)
def a5:Ans:=⟨66,[ag,.ptr 1 0],[some [.ptr 2 0],some [.ptr 3 0],some [.ptr 4 0,nI 0,.sl true 1 []],some aAO,some aRS],(.tuple [],[some [.ptr 2 0],some [.ptr 3 0],some [.ptr 4 0,nI 0,.sl true 1 []],some Qv,some a2V])⟩
def k5:KA a5:=gy 40 (l := [a4]) (gu k4 gq) 400 (by kernel_rfl)
def a6:Ans:=⟨20,[ag,.ptr 1 0],[some [.ptr 2 0,nI 0,.sl true 1 []],some aAO,some [.sl false 5 (.agg [nI 1,sB [116,101,109,112,108,97,116,101],nI 0,nI 1,nI 32]::Vw),nI 0,nI 0,nI 0]],(.tuple [],[some [.ptr 2 0,nI 0,.sl true 1 []],some Qv,some a2V])⟩
def k6:KA a6:=gy 40 (l := [a5]) (gu k5 gq) 400 (by kernel_rfl)
def a7:Ans:=⟨166,[ag,fU 173 [.ptr 1 0,.ptr 2 0]],[some [.ptr 3 0,nI 0,.sl true 1 []],some [sB [99],sB [116],.sl true 1 []],some [ag],some [.sl false 5 l68,nI 0,nI 0,nI 0]],(.tuple [],[some [.ptr 3 0,nI 0,.sl true 1 []],some [sB [99],sB [116],.sl true 1 [sB [97]]],some [ag],some [.sl false 5 [.agg l63,.agg l66],nI 0,nI 0,nI 0]])⟩
def k7:KA a7:=gy 40 (l := []) gq 400 (by kernel_rfl)
def aRT:LP := [.sl false 5 l71,nI 0,nI 0,nI 0]
def aAP:LP := [sB [99],sB [116],a_ [sB [97]]]
def aAQ:LP:=sB [109] :: .sl true 5 [.agg Ja] :: .sl true 9 [.agg u_]::(.sl true 3 [.agg aAP]::aRQ)
def aAR:LP := [.sl false 5 [.agg l66],nI 0,nI 0,nI 0]
def a8:Ans:=⟨69,[ag,.ptr 1 0,.ptr 1 3],[some [.ptr 2 0,nI 0,.sl true 1 []],some Qv,some aRT],(.tuple [],[some [.ptr 2 0,nI 0,.sl true 1 []],some aAQ,some aAR])⟩
def k8:KA a8:=gy 40 (l := [a7]) (gu k7 gq) 400 (by kernel_rfl)
def a9:Ans:=⟨68,[ag,.ptr 1 0],[some [.ptr 2 0],some [.ptr 3 0],some [.ptr 4 0,nI 0,.sl true 1 []],some Qv,some aRT],(.tuple [],[some [.ptr 2 0],some [.ptr 3 0],some [.ptr 4 0,nI 0,.sl true 1 []],some aAQ,some aAR])⟩
def k9:KA a9:=gy 40 (l := [a8]) (gu k8 gq) 400 (by kernel_rfl)
def Dn:Ans:=⟨20,[ag,.ptr 1 0],[some [.ptr 2 0,nI 0,.sl true 1 []],some Qv,some a2V],(.tuple [],[some [.ptr 2 0,nI 0,.sl true 1 []],some aAQ,some aAR])⟩
def k10:KA Dn:=gy 40 (l := [a9]) (gu k9 gq) 400 (by kernel_rfl)
def Sl:Ans:=⟨84,[a_ [fU 180 [.cst (.agg u_)],fU 182 [.cst (.agg u_)],fU 183 [.cst (.agg Jb),.cst (.agg u_)],fU 184 [.cst (.agg Jb),.cst (.agg u_)],fU 185 [.cst (.agg Jb)],fU 186 [.cst (.agg Jb)],fU 188 [.cst (.agg Jb)],fU 190 [.cst (.agg Jb)],fU 193 [.cst (.agg Jb),.cst (.agg u_)]]],[],(nI 0,[])⟩
def k11:KA Sl:=gy 40 (l := []) gq 400 (by kernel_rfl)
def a12:Ans:=⟨96,[.agg u_],[],(nI 0,[])⟩
def k12:KA a12:=gy 40 (l := [Sl]) (gu k11 gq) 400 (by kernel_rfl)
def zD:LP := [sB [109],.sl false 5 [.agg Ja],.sl false 9 [.agg u_],.sl false 3 [.agg aAP],.sl false 3 [],.sl false 2 [],.sl false 3 []]
def a13:Ans:=⟨95,[.cst (.agg zD),.cst (nI 0)],[],(nI 0,[])⟩
def k13:KA a13:=gy 40 (l := [a12]) (gu k12 gq) 400 (by kernel_rfl)
def a14:Ans:=⟨84,[a_ [fU 93 [.cst (a_ [sB [116]]),.cst (nI 0)],fU 95 [.cst (.agg zD),.cst (nI 0)]]],[],(nI 0,[])⟩
def k14:KA a14:=gy 40 (l := [a13]) (gu k13 gq) 400 (by kernel_rfl)
def a15:Ans:=⟨92,[nI 0,.cst (a_ [sB [116]]),.cst (.agg zD)],[],(nI 0,[])⟩
def k15:KA a15:=gy 40 (l := [a14]) (gu k14 gq) 400 (by kernel_rfl)
def a16:Ans:=⟨91,[.sl false 9 [.agg u_],fU 92 [.cst (a_ [sB [116]]),.cst (.agg zD)]],[],(nI 0,[])⟩
def k16:KA a16:=gy 40 (l := [a15]) (gu k15 gq) 400 (by kernel_rfl)
def a17:Ans:=⟨90,[.cst (.agg zD),.cst (a_ [sB [116]])],[],(nI 0,[])⟩
def k17:KA a17:=gy 40 (l := [a16]) (gu k16 gq) 400 (by kernel_rfl)
def a18:Ans:=⟨84,[a_ [fU 85 [.cst (.agg zD)],fU 87 [.cst (.agg zD)],fU 89 [.cst (.agg zD)],fU 90 [.cst (.agg zD),.cst (a_ [sB [116]])],fU 97 [.cst (.sl false 3 [.agg aAP]),.cst (a_ [sB [99]])],fU 103 [.cst (.agg zD),.cst (a_ [])],fU 111 [.cst (.agg zD),.cst (a_ [])]]],[],(nI 0,[])⟩
def k18:KA a18:=gy 40 (l := [a17]) (gu k17 gq) 400 (by kernel_rfl)
def a19:Ans:=⟨22,[.agg zD],[],(nI 0,[])⟩
def k19:KA a19:=gy 40 (l := [a18]) (gu k18 gq) 400 (by kernel_rfl)
def a20:Ans:=⟨6,[sB [109,111,100,101,108,32,109,59,32,101,118,101,110,116,32,97,32,99,111,110,116,114,111,108,108,97,98,108,101,59,32,116,101,109,112,108,97,116,101,32,116,40,120,41,32,123,32,108,111,99,97,116,105,111,110,32,112,32,109,97,114,107,101,100,59,32,101,100,103,101,32,112,32,120,32,112,59,32,125,32,99,111,109,112,111,110,101,110,116,32,99,32,61,32,116,40,97,41,59]],[],(.tuple [.agg zD,nI 0,nI 0,nI 0],[])⟩
def k20:KA a20:=gy 40 (l := [a6,Dn,a19]) (gu k6 (gu k10 (gu k19 gq))) 400 (by kernel_rfl)
def Vx:LP := [nI 3,sB [59],nI 0,nI 0,nI 0]
def aRU:LP := [nI 1,sB [97],nI 0,nI 0,nI 0]
def aRV:LP := [nI 1,sB [116],nI 0,nI 0,nI 0]
def aAT:LP := [nI 3,sB [40],nI 0,nI 0,nI 0]
def aRW:LP := [nI 1,sB [120],nI 0,nI 0,nI 0]
def aAU:LP := [nI 3,sB [41],nI 0,nI 0,nI 0]
def aAV:LP := [nI 1,sB [112],nI 0,nI 0,nI 0]
def aRX:LP := [.agg [nI 1,sB [109,111,100,101,108],nI 0,nI 0,nI 0],.agg [nI 1,sB [109],nI 0,nI 0,nI 0],.agg Vx,.agg [nI 1,sB [101,118,101,110,116],nI 0,nI 0,nI 0],.agg aRU,.agg [nI 1,sB [99,111,110,116,114,111,108,108,97,98,108,101],nI 0,nI 0,nI 0],.agg Vx,.agg [nI 1,sB [116,101,109,112,108,97,116,101],nI 0,nI 0,nI 0],.agg aRV,.agg aAT,.agg aRW,.agg aAU,.agg [nI 3,sB [123],nI 0,nI 0,nI 0],.agg [nI 1,sB [108,111,99,97,116,105,111,110],nI 0,nI 0,nI 0],.agg aAV,.agg [nI 1,sB [105,110,105,116,105,97,108],nI 0,nI 0,nI 0],.agg [nI 1,sB [109,97,114,107,101,100],nI 0,nI 0,nI 0],.agg Vx,.agg [nI 1,sB [101,100,103,101],nI 0,nI 0,nI 0],.agg aAV,.agg aRW,.agg aAV,.agg Vx,.agg [nI 3,sB [125],nI 0,nI 0,nI 0],.agg [nI 1,sB [99,111,109,112,111,110,101,110,116],nI 0,nI 0,nI 0],.agg [nI 1,sB [99],nI 0,nI 0,nI 0],.agg [nI 3,sB [61],nI 0,nI 0,nI 0],.agg aRV,.agg aAT,.agg aRU,.agg aAU,.agg Vx]
def a21:Ans:=⟨35,[.sl false 5 aRX],[],(.tuple [sB [109,111,100,101,108,32,109,32,59,32,101,118,101,110,116,32,97,32,99,111,110,116,114,111,108,108,97,98,108,101,32,59,32,116,101,109,112,108,97,116,101,32,116,32,40,32,120,32,41,32,123,32,108,111,99,97,116,105,111,110,32,112,32,105,110,105,116,105,97,108,32,109,97,114,107,101,100,32,59,32,101,100,103,101,32,112,32,120,32,112,32,59,32,125,32,99,111,109,112,111,110,101,110,116,32,99,32,61,32,116,32,40,32,97,32,41,32,59],nI 0],[])⟩
def k21:KA a21:=gy 40 (l := []) gq 400 (by kernel_rfl)
def aRY:LP := [sB [109,111,100,101,108,32,109,59,10,101,118,101,110,116,32,97,32,99,111,110,116,114,111,108,108,97,98,108,101,59,10,116,101,109,112,108,97,116,101,32,116,32,40,120,41,32,123,10,32,32,108,111,99,97,116,105,111,110,32,112,32,105,110,105,116,105,97,108,32,109,97,114,107,101,100,59,10,32,32,101,100,103,101,32,112,32,120,32,112,59,10,125,10,99,111,109,112,111,110,101,110,116,32,99,32,61,32,116,32,40,97,41,59,10],nI 0]
def a22:Ans:=⟨25,[.sl false 5 aRX],[],(.tuple aRY,[])⟩
def k22:KA a22:=gy 40 (l := [a21]) (gu k21 gq) 400 (by kernel_rfl)
def a23:Ans:=⟨7,[.agg zD],[],(.tuple aRY,[])⟩
def k23:KA a23:=gy 40 (l := [a19,a22]) (gu k19 (gu k22 gq)) 400 (by kernel_rfl)
def sW:LP := [.ptr 1 0,nI 0,a_ [sB [110]]]
def aRZ:LP := [nI 3,sB [41],nI 0,nI 1,nI 22]
def aAW:LP := [nI 4,sB [],nI 0,nI 1,nI 23]
def aR':LP := [.agg [nI 1,sB [110],nI 0,nI 1,nI 16],.agg [nI 3,sB [61,61],nI 0,nI 1,nI 18],.agg [nI 2,sB [48],nI 0,nI 1,nI 21],.agg aRZ,.agg aAW]
def aS0:LP := .agg [nI 3,sB [40],nI 0,nI 1,nI 15]::aR'
def aS1:LP := .agg [nI 3,sB [33],nI 0,nI 1,nI 14]::aS0
def aS2:LP := .agg [nI 3,sB [38,38],nI 0,nI 1,nI 11]::aS1
def aS3:LP := .agg [nI 3,sB [60],nI 0,nI 1,nI 7] :: .agg [nI 2,sB [51],nI 3,nI 1,nI 9]::aS2
def Vy:LP := [.sl false 5 (.agg [nI 1,sB [110],nI 0,nI 1,nI 1] :: .agg [nI 3,sB [43],nI 0,nI 1,nI 3] :: .agg [nI 2,sB [49],nI 1,nI 1,nI 5]::aS3),nI 0,nI 0,nI 0]
def aS4:LP := [nI 2,nI 0,nI 0,.sl false 4 [.agg (nI 1::aAN),.agg [nI 0,nI 1,nI 0,.sl false 4 []]]]
def a24:Ans:=⟨131,[ag,nI 4],[some sW,some Vy],(.agg aS4,[some sW,some [.sl false 5 aS3,nI 0,nI 0,nI 0]])⟩
def k24:KA a24:=gy 40 (l := []) gq 400 (by kernel_rfl)
def aAX:LP := [nI 8,nI 0,nI 0,.sl false 4 [.agg aS4,.agg [nI 0,nI 3,nI 0,.sl false 4 []]]]
def a25:Ans:=⟨131,[ag,nI 3],[some sW,some Vy],(.agg aAX,[some sW,some [.sl false 5 aS2,nI 0,nI 0,nI 0]])⟩
def k25:KA a25:=gy 40 (l := [a24]) (gu k24 gq) 400 (by kernel_rfl)
def Jc:LP := [.ptr 1 0,nI 2,a_ [sB [110]]]
def Vz:LP := [.sl false 5 aR',nI 0,nI 0,nI 0]
def Jd:LP := [nI 6,nI 0,nI 0,.sl false 4 [.agg (nI 1::aAN),.agg NP]]
def a2W:LP := [.sl false 5 [.agg aRZ,.agg aAW],nI 0,nI 0,nI 0]
def a26:Ans:=⟨131,[ag,nI 3],[some Jc,some Vz],(.agg Jd,[some Jc,some a2W])⟩
def k26:KA a26:=gy 40 (l := []) gq 400 (by kernel_rfl)
def a27:Ans:=⟨131,[ag,nI 2],[some Jc,some Vz],(.agg Jd,[some Jc,some a2W])⟩
def k27:KA a27:=gy 40 (l := [a26]) (gu k26 gq) 400 (by kernel_rfl)
def a28:Ans:=⟨131,[ag,nI 1],[some Jc,some Vz],(.agg Jd,[some Jc,some a2W])⟩
def k28:KA a28:=gy 40 (l := [a27]) (gu k27 gq) 400 (by kernel_rfl)
def CG:Ans:=⟨27,[ag],[some Jc,some Vz],(.agg Jd,[some Jc,some a2W])⟩
def k29:KA CG:=gy 40 (l := [a28]) (gu k28 gq) 400 (by kernel_rfl)
def aS5:LP := [.ptr 2 0,nI 2,a_ [sB [110]]]
def AY:LP := [.sl false 5 [.agg aAW],nI 0,nI 0,nI 0]
def a30:Ans:=⟨257,[ag],[some [.ptr 1 0],some aS5,some Vz],(.agg Jd,[some [.ptr 1 0],some aS5,some AY])⟩
def k30:KA a30:=gy 40 (l := [CG]) (gu k29 gq) 400 (by kernel_rfl)
def a2X:LP := [.ptr 2 0,nI 1,a_ [sB [110]]]
def aAY:LP := [.sl false 5 aS0,nI 0,nI 0,nI 0]
def a31:Ans:=⟨254,[ag,fU 257 [.ptr 1 0]],[some a2X,some [ag],some aAY],(.agg Jd,[some a2X,some [ag],some AY])⟩
def k31:KA a31:=gy 40 (l := [a30]) (gu k30 gq) 400 (by kernel_rfl)
def aS6:LP := [.ptr 1 0,nI 1,a_ [sB [110]]]
def a32:Ans:=⟨211,[ag],[some aS6,some aAY],(.agg Jd,[some aS6,some AY])⟩
def k32:KA a32:=gy 40 (l := [a31]) (gu k31 gq) 400 (by kernel_rfl)
def Hl:LP := [nI 10,nI 0,nI 0,.sl false 4 [.agg Jd]]
def a33:Ans:=⟨255,[ag],[some [.ptr 1 0],some a2X,some aAY],(.agg Hl,[some [.ptr 1 0],some a2X,some AY])⟩
def k33:KA a33:=gy 40 (l := [a32]) (gu k32 gq) 400 (by kernel_rfl)
def aS7:LP := [.ptr 2 0,nI 0,a_ [sB [110]]]
def Qw:LP := [.sl false 5 aS1,nI 0,nI 0,nI 0]
def a34:Ans:=⟨254,[ag,fU 255 [.ptr 1 0]],[some aS7,some [ag],some Qw],(.agg Hl,[some aS7,some [ag],some AY])⟩
def k34:KA a34:=gy 40 (l := [a33]) (gu k33 gq) 400 (by kernel_rfl)
def a35:Ans:=⟨211,[ag],[some sW,some Qw],(.agg Hl,[some sW,some AY])⟩
def k35:KA a35:=gy 40 (l := [a34]) (gu k34 gq) 400 (by kernel_rfl)
def a36:Ans:=⟨131,[ag,nI 6],[some sW,some Qw],(.agg Hl,[some sW,some AY])⟩
def k36:KA a36:=gy 40 (l := [a35]) (gu k35 gq) 400 (by kernel_rfl)
def a37:Ans:=⟨131,[ag,nI 5],[some sW,some Qw],(.agg Hl,[some sW,some AY])⟩
def k37:KA a37:=gy 40 (l := [a36]) (gu k36 gq) 400 (by kernel_rfl)
def a38:Ans:=⟨131,[ag,nI 4],[some sW,some Qw],(.agg Hl,[some sW,some AY])⟩
def k38:KA a38:=gy 40 (l := [a37]) (gu k37 gq) 400 (by kernel_rfl)
def a39:Ans:=⟨131,[ag,nI 3],[some sW,some Qw],(.agg Hl,[some sW,some AY])⟩
def k39:KA a39:=gy 40 (l := [a38]) (gu k38 gq) 400 (by kernel_rfl)
def Je:LP := [nI 11,nI 0,nI 0,.sl false 4 [.agg aAX,.agg Hl]]
def a40:Ans:=⟨131,[ag,nI 2],[some sW,some Vy],(.agg Je,[some sW,some AY])⟩
def k40:KA a40:=gy 40 (l := [a25,a39]) (gu k25 (gu k39 gq)) 400 (by kernel_rfl)
def a41:Ans:=⟨131,[ag,nI 1],[some sW,some Vy],(.agg Je,[some sW,some AY])⟩
def k41:KA a41:=gy 40 (l := [a40]) (gu k40 gq) 400 (by kernel_rfl)
def a42:Ans:=⟨27,[ag],[some sW,some Vy],(.agg Je,[some sW,some AY])⟩
def k42:KA a42:=gy 40 (l := [a41]) (gu k41 gq) 400 (by kernel_rfl)
def a43:Ans:=⟨8,[a_ [sB [110]],sB [110,32,43,32,49,32,60,32,51,32,38,38,32,33,40,110,32,61,61,32,48,41]],[],(.tuple [.agg Je,nI 0,nI 0,nI 0],[])⟩
def k43:KA a43:=gy 40 (l := [a42]) (gu k42 gq) 400 (by kernel_rfl)
def a44:Ans:=⟨33,[.agg Je,nI 1],[],(.tuple [nI 2,nI 0],[])⟩
def k44:KA a44:=gy 40 (l := []) gq 400 (by kernel_rfl)
def a2Y:LP := [nI 1,sB [110],nI 0,nI 0,nI 0]
def aAZ:LP := [nI 3,sB [43],nI 0,nI 0,nI 0]
def aA':LP := [nI 2,sB [49],nI 1,nI 0,nI 0]
def aB0:LP := [nI 3,sB [60],nI 0,nI 0,nI 0]
def aB1:LP := [nI 2,sB [51],nI 3,nI 0,nI 0]
def aS8:LP := [.agg a2Y,.agg aAZ,.agg aA',.agg aB0,.agg aB1]
def a45:Ans:=⟨34,[ag,a_ [sB [110]],.agg aAX,nI 2],[some [.sl true 5 []]],(.tuple [],[some [.sl true 5 aS8]])⟩
def k45:KA a45:=gy 40 (l := []) gq 400 (by kernel_rfl)
def aS9:LP := [ag,.cst (a_ [sB [110]]),.cst (.agg Je)]
def a46:Ans:=⟨136,(nI 0::nI 2::aS9),[some [.ptr 1 0],some [.sl true 5 []]],(.tuple [],[some [.ptr 1 0],some [.sl true 5 aS8]])⟩
def k46:KA a46:=gy 40 (l := [a45]) (gu k45 gq) 400 (by kernel_rfl)
def aSA:LP := [nI 3,sB [38,38],nI 0,nI 0,nI 0]
def aSB:LP := [.agg a2Y,.agg aAZ,.agg aA',.agg aB0,.agg aB1,.agg aSA]
def a2Z:LP := [.agg a2Y,.agg aAZ,.agg aA',.agg aB0,.agg aB1,.agg aSA,.agg [nI 3,sB [33],nI 0,nI 0,nI 0],.agg aAT,.agg a2Y,.agg [nI 3,sB [61,61],nI 0,nI 0,nI 0],.agg [nI 2,sB [48],nI 0,nI 0,nI 0],.agg aAU]
def a47:Ans:=⟨34,[ag,a_ [sB [110]],.agg Hl,nI 3],[some [.sl true 5 aSB]],(.tuple [],[some [.sl true 5 a2Z]])⟩
def k47:KA a47:=gy 40 (l := []) gq 400 (by kernel_rfl)
def a48:Ans:=⟨136,(nI 1::(nI 3::aS9)),[some [.ptr 1 0],some [.sl true 5 aSB]],(.tuple [],[some [.ptr 1 0],some [.sl true 5 a2Z]])⟩
def k48:KA a48:=gy 40 (l := [a47]) (gu k47 gq) 400 (by kernel_rfl)
def a49:Ans:=⟨34,[ag,a_ [sB [110]],.agg Je,nI 0],[some [.sl true 5 []]],(.tuple [],[some [.sl true 5 a2Z]])⟩
def k49:KA a49:=gy 40 (l := [a46,a48]) (gu k46 (gu k48 gq)) 400 (by kernel_rfl)
def aSC:LP := [sB [110,32,43,32,49,32,60,32,51,32,38,38,32,33,32,40,32,110,32,61,61,32,48,32,41],nI 0]
def a50:Ans:=⟨35,[.sl false 5 a2Z],[],(.tuple aSC,[])⟩
def k50:KA a50:=gy 40 (l := []) gq 400 (by kernel_rfl)
def a51:Ans:=⟨9,[a_ [sB [110]],.agg Je],[],(.tuple aSC,[])⟩
def k51:KA a51:=gy 40 (l := [a44,a49,a50]) (gu k44 (gu k49 (gu k50 gq))) 400 (by kernel_rfl)
def a52:Ans:=⟨4,[],[],(.bool true,[])⟩
def k52:KA a52:=gy 40 (l := [a20,a23,a43,a51]) (gu k20 (gu k23 (gu k43 (gu k51 gq)))) 400 (by kernel_rfl)
end Go.Proofs.YtagkcbgkhgccmaaGreatDoor.W
end
