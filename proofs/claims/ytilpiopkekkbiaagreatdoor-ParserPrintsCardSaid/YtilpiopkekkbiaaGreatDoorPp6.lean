/- A part of the proof. -/
import Derived.Test.YtilpiopkekkbiaaGreatDoorPp4
import Derived.Test.YtilpiopkekkbiaaGreatDoorPp3
set_option linter.unusedVariables false
set_option linter.unusedSimpArgs false
set_option linter.unnecessarySimpa false
set_option linter.unusedSectionVars false
noncomputable section
namespace Go.Proofs.YtilpiopkekkbiaaGreatDoor.W
open Go.RowKit
set_option maxRecDepth 1000000
abbrev LP:=bZZ
abbrev nI (n:Int):PV := bZV n
abbrev sB (l:bZ'):PV := .str ⟨⟨l⟩⟩
abbrev KA (a:Ans):Prop:=SS.CC a.g a.args a.h=some a.v
theorem gK {a:Ans} {l:List Ans} (h:KA a) (hl:∀ a,a∈l->KA a):∀ b,b∈a::l->KA b:=aXQ h hl
theorem gQ (m:Nat) {l:List Ans} (hl:∀ a,a∈l->KA a) (n:Nat) {a:Ans} (e:SS.stepT (SS.memo l m) n a.g a.args a.h=some a.v):KA a:=aW9 dQ m hl n e
def l0:LP := [bZX,.func (.func 229) [] [.ptr 1 0,.ptr 2 0]]
def l63:LP := [nI 3,sB [59],nI 0,nI 1,nI 99]
def l66:LP := [nI 4,sB [],nI 0,nI 1,nI 100]
def l68:LP := [.agg [nI 3,sB [40],nI 0,nI 1,nI 96],.agg [nI 1,sB [97],nI 0,nI 1,nI 97],.agg [nI 3,sB [41],nI 0,nI 1,nI 98],.agg l63,.agg l66]
def l71:LP := .agg [nI 1,sB [99],nI 0,nI 1,nI 91] :: .agg [nI 3,sB [61],nI 0,nI 1,nI 93] :: .agg [nI 1,sB [116],nI 0,nI 1,nI 95]::l68
def l72:LP := .agg [nI 1,sB [99,111,109,112,111,110,101,110,116],nI 0,nI 1,nI 81]::l71
def l73:LP := .agg [nI 3,sB [125],nI 0,nI 1,nI 79]::l72
def l77:LP := .agg [nI 1,sB [112],nI 0,nI 1,nI 72] :: .agg [nI 1,sB [120],nI 0,nI 1,nI 74] :: .agg [nI 1,sB [112],nI 0,nI 1,nI 76] :: .agg [nI 3,sB [59],nI 0,nI 1,nI 77]::l73
def l78:LP := .agg [nI 1,sB [101,100,103,101],nI 0,nI 1,nI 67]::l77
def PS:LP := .agg [nI 1,sB [112],nI 0,nI 1,nI 57] :: .agg [nI 1,sB [109,97,114,107,101,100],nI 0,nI 1,nI 59] :: .agg [nI 3,sB [59],nI 0,nI 1,nI 65]::l78
def l83:LP := .agg [nI 3,sB [123],nI 0,nI 1,nI 46] :: .agg [nI 1,sB [108,111,99,97,116,105,111,110],nI 0,nI 1,nI 48]::PS
def l84:LP := .agg [nI 3,sB [41],nI 0,nI 1,nI 44]::l83
def l85:LP := .agg [nI 1,sB [120],nI 0,nI 1,nI 43]::l84
def Us:LP := [.sl true 1 [],nI 0,nI 0,.sl true 1 [],.sl true 4 [],.sl true 8 []]
def l93:LP:=sB [116] :: .sl true 1 [] :: .sl true 1 []::Us
def l96:LP:=sB [116] :: .sl true 1 []::(.sl true 1 [sB [120]]::Us)
def a0:Ans:=⟨236,l0,[some [.sl false 5 l85,nI 0,nI 0,nI 0],some l93,some [.ptr 3 0],some [bZX,nI 0,.sl true 1 []]],(.tuple [],[some [.sl false 5 l84,nI 0,nI 0,nI 0],some l96,some [.ptr 3 0],some [bZX,nI 0,.sl true 1 []]])⟩
theorem k0:KA a0:=gQ 40 (l := []) gG 400 (by kernel_rfl)
def l99:LP := [nI 3,sB [40],nI 0,nI 1,nI 42]
def a1:Ans:=⟨228,l0,[some [.ptr 3 0,nI 0,.sl true 1 []],some l93,some [bZX],some [.sl false 5 (.agg l99::l85),nI 0,nI 0,nI 0]],(.tuple [],[some [.ptr 3 0,nI 0,.sl true 1 []],some l96,some [bZX],some [.sl false 5 l83,nI 0,nI 0,nI 0]])⟩
theorem k1:KA a1:=gQ 40 (l := [a0]) (gK k0 gG) 400 (by kernel_rfl)
def aP2:LP := [sB [116],.sl true 1 [sB [112]],.sl true 1 [sB [120]],.sl true 1 [],nI 0,nI 0,.sl true 1 [nI 0],.sl true 4 [],.sl true 8 []]
def a2:Ans:=⟨230,[bZX,.ptr 1 0,.ptr 2 0],[some [.ptr 3 0,nI 0,.sl true 1 []],some l96,some [.bool false],some [.sl false 5 PS,nI 0,nI 0,nI 0]],(.tuple [],[some [.ptr 3 0,nI 0,.sl true 1 []],some aP2,some [.bool false],some [.sl false 5 l78,nI 0,nI 0,nI 0]])⟩
theorem k2:KA a2:=gQ 40 (l := []) gG 400 (by kernel_rfl)
def a97:LP := [nI 0,nI 0,.sl false 4 []]
def Kv:LP:=nI 0::a97
def aP3:LP := [nI 0,nI 0,nI 0,nI 6,nI 0,nI 0,.sl false 4 [.agg Kv,.agg Kv],.sl false 5 []]
def a3:Ans:=⟨232,[bZX,.ptr 1 0],[some [.ptr 2 0,nI 0,.sl true 1 []],some aP2,some [.sl false 5 l77,nI 0,nI 0,nI 0]],(.tuple [],[some [.ptr 2 0,nI 0,.sl true 1 []],some [sB [116],.sl true 1 [sB [112]],.sl true 1 [sB [120]],.sl true 1 [],nI 0,nI 0,.sl true 1 [nI 0],.sl true 4 [],.sl true 8 [.agg aP3]],some [.sl false 5 l73,nI 0,nI 0,nI 0]])⟩
theorem k3:KA a3:=gQ 40 (l := []) gG 400 (by kernel_rfl)
def IA:LP := [sB [97],.bool true,.bool false,.bool false,nI 0]
def aP5:LP := [.sl true 3 [],.sl true 2 [],.sl true 3 []]
def aP6:LP := .sl true 3 []::aP5
def a98:LP:=sB [109] :: .sl true 5 [.agg IA] :: .sl true 9 []::aP6
def Um:LP := .agg [nI 1,sB [116],nI 0,nI 1,nI 41]::(.agg l99::l85)
def aP7:LP := [.sl false 5 Um,nI 0,nI 0,nI 0]
def IB:LP := [bZW [nI 0],nI 1,nI 0,bZW [nI 0],.sl false 4 [],.sl false 8 [.agg aP3]]
def l146:LP:=sB [116] :: bZW [sB [112]] :: bZW [sB [120]]::IB
def PQ:LP:=sB [109] :: .sl true 5 [.agg IA]::(.sl true 9 [.agg l146]::aP6)
def a1G:LP := [.sl false 5 l72,nI 0,nI 0,nI 0]
def a4:Ans:=⟨148,[bZX,.ptr 1 0],[some [.ptr 2 0,nI 0,.sl true 1 []],some a98,some aP7],(.tuple [],[some [.ptr 2 0,nI 0,.sl true 1 []],some PQ,some a1G])⟩
theorem k4:KA a4:=gQ 40 (l := [a1,a2,a3]) (gK k1 (gK k2 (gK k3 gG))) 400 (by kernel_rfl)
def a5:Ans:=⟨147,[bZX,.ptr 1 0],[some [.ptr 2 0],some [.ptr 3 0],some [.ptr 4 0,nI 0,.sl true 1 []],some a98,some aP7],(.tuple [],[some [.ptr 2 0],some [.ptr 3 0],some [.ptr 4 0,nI 0,.sl true 1 []],some PQ,some a1G])⟩
theorem k5:KA a5:=gQ 40 (l := [a4]) (gK k4 gG) 400 (by kernel_rfl)
def a6:Ans:=⟨36,[bZX,.ptr 1 0],[some [.ptr 2 0,nI 0,.sl true 1 []],some a98,some [.sl false 5 (.agg [nI 1,sB [116,101,109,112,108,97,116,101],nI 0,nI 1,nI 32]::Um),nI 0,nI 0,nI 0]],(.tuple [],[some [.ptr 2 0,nI 0,.sl true 1 []],some PQ,some a1G])⟩
theorem k6:KA a6:=gQ 40 (l := [a5]) (gK k5 gG) 400 (by kernel_rfl)
def a7:Ans:=⟨228,[bZX,.func (.func 234) [] [.ptr 1 0,.ptr 2 0]],[some [.ptr 3 0,nI 0,.sl true 1 []],some [sB [99],sB [116],.sl true 1 []],some [bZX],some [.sl false 5 l68,nI 0,nI 0,nI 0]],(.tuple [],[some [.ptr 3 0,nI 0,.sl true 1 []],some [sB [99],sB [116],.sl true 1 [sB [97]]],some [bZX],some [.sl false 5 [.agg l63,.agg l66],nI 0,nI 0,nI 0]])⟩
theorem k7:KA a7:=gQ 40 (l := []) gG 400 (by kernel_rfl)
def aP8:LP := [.sl false 5 l71,nI 0,nI 0,nI 0]
def a99:LP := [sB [99],sB [116],bZW [sB [97]]]
def a9A:LP:=sB [109] :: .sl true 5 [.agg IA] :: .sl true 9 [.agg l146]::(.sl true 3 [.agg a99]::aP5)
def a9B:LP := [.sl false 5 [.agg l66],nI 0,nI 0,nI 0]
def a8:Ans:=⟨150,[bZX,.ptr 1 0,.ptr 1 3],[some [.ptr 2 0,nI 0,.sl true 1 []],some PQ,some aP8],(.tuple [],[some [.ptr 2 0,nI 0,.sl true 1 []],some a9A,some a9B])⟩
theorem k8:KA a8:=gQ 40 (l := [a7]) (gK k7 gG) 400 (by kernel_rfl)
def a9:Ans:=⟨149,[bZX,.ptr 1 0],[some [.ptr 2 0],some [.ptr 3 0],some [.ptr 4 0,nI 0,.sl true 1 []],some PQ,some aP8],(.tuple [],[some [.ptr 2 0],some [.ptr 3 0],some [.ptr 4 0,nI 0,.sl true 1 []],some a9A,some a9B])⟩
theorem k9:KA a9:=gQ 40 (l := [a8]) (gK k8 gG) 400 (by kernel_rfl)
def a10:Ans:=⟨36,[bZX,.ptr 1 0],[some [.ptr 2 0,nI 0,.sl true 1 []],some PQ,some a1G],(.tuple [],[some [.ptr 2 0,nI 0,.sl true 1 []],some a9A,some a9B])⟩
theorem k10:KA a10:=gQ 40 (l := [a9]) (gK k9 gG) 400 (by kernel_rfl)
def a11:Ans:=⟨48,[bZW [.func (.func 157) [] [.cst (.agg l146)],.func (.func 159) [] [.cst (.agg l146)],.func (.func 160) [] [.cst (.agg IB),.cst (.agg l146)],.func (.func 162) [] [.cst (.agg IB),.cst (.agg l146)],.func (.func 163) [] [.cst (.agg IB)],.func (.func 164) [] [.cst (.agg IB)],.func (.func 166) [] [.cst (.agg IB)],.func (.func 168) [] [.cst (.agg IB)],.func (.func 171) [] [.cst (.agg IB),.cst (.agg l146)]]],[],(nI 0,[])⟩
theorem k11:KA a11:=gQ 40 (l := []) gG 400 (by kernel_rfl)
def a12:Ans:=⟨61,[.agg l146],[],(nI 0,[])⟩
theorem k12:KA a12:=gQ 40 (l := [a11]) (gK k11 gG) 400 (by kernel_rfl)
def yL:LP := [sB [109],.sl false 5 [.agg IA],.sl false 9 [.agg l146],.sl false 3 [.agg a99],.sl false 3 [],.sl false 2 [],.sl false 3 []]
def a13:Ans:=⟨60,[.cst (.agg yL),.cst (nI 0)],[],(nI 0,[])⟩
theorem k13:KA a13:=gQ 40 (l := [a12]) (gK k12 gG) 400 (by kernel_rfl)
def a14:Ans:=⟨48,[bZW [.func (.func 58) [] [.cst (bZW [sB [116]]),.cst (nI 0)],.func (.func 60) [] [.cst (.agg yL),.cst (nI 0)]]],[],(nI 0,[])⟩
theorem k14:KA a14:=gQ 40 (l := [a13]) (gK k13 gG) 400 (by kernel_rfl)
def a15:Ans:=⟨57,[nI 0,.cst (bZW [sB [116]]),.cst (.agg yL)],[],(nI 0,[])⟩
theorem k15:KA a15:=gQ 40 (l := [a14]) (gK k14 gG) 400 (by kernel_rfl)
def a16:Ans:=⟨56,[.sl false 9 [.agg l146],.func (.func 57) [] [.cst (bZW [sB [116]]),.cst (.agg yL)]],[],(nI 0,[])⟩
theorem k16:KA a16:=gQ 40 (l := [a15]) (gK k15 gG) 400 (by kernel_rfl)
def a17:Ans:=⟨55,[.cst (.agg yL),.cst (bZW [sB [116]])],[],(nI 0,[])⟩
theorem k17:KA a17:=gQ 40 (l := [a16]) (gK k16 gG) 400 (by kernel_rfl)
def a18:Ans:=⟨48,[bZW [.func (.func 49) [] [.cst (.agg yL)],.func (.func 52) [] [.cst (.agg yL)],.func (.func 54) [] [.cst (.agg yL)],.func (.func 55) [] [.cst (.agg yL),.cst (bZW [sB [116]])],.func (.func 62) [] [.cst (.sl false 3 [.agg a99]),.cst (bZW [sB [99]])],.func (.func 68) [] [.cst (.agg yL),.cst (bZW [])],.func (.func 76) [] [.cst (.agg yL),.cst (bZW [])]]],[],(nI 0,[])⟩
theorem k18:KA a18:=gQ 40 (l := [a17]) (gK k17 gG) 400 (by kernel_rfl)
def a19:Ans:=⟨14,[.agg yL],[],(nI 0,[])⟩
theorem k19:KA a19:=gQ 40 (l := [a18]) (gK k18 gG) 400 (by kernel_rfl)
def a20:Ans:=⟨13,[sB [109,111,100,101,108,32,109,59,32,101,118,101,110,116,32,97,32,99,111,110,116,114,111,108,108,97,98,108,101,59,32,116,101,109,112,108,97,116,101,32,116,40,120,41,32,123,32,108,111,99,97,116,105,111,110,32,112,32,109,97,114,107,101,100,59,32,101,100,103,101,32,112,32,120,32,112,59,32,125,32,99,111,109,112,111,110,101,110,116,32,99,32,61,32,116,40,97,41,59]],[],(.tuple [.agg yL,nI 0,nI 0,nI 0],[])⟩
theorem k20:KA a20:=gQ 40 (l := [a6,a10,a19]) (gK k6 (gK k10 (gK k19 gG))) 400 (by kernel_rfl)
def Un:LP := [nI 3,sB [59],nI 0,nI 0,nI 0]
def aP9:LP := [nI 1,sB [97],nI 0,nI 0,nI 0]
def aPA:LP := [nI 1,sB [116],nI 0,nI 0,nI 0]
def a9C:LP := [nI 3,sB [40],nI 0,nI 0,nI 0]
def aPB:LP := [nI 1,sB [120],nI 0,nI 0,nI 0]
def a9D:LP := [nI 3,sB [41],nI 0,nI 0,nI 0]
def a9E:LP := [nI 1,sB [112],nI 0,nI 0,nI 0]
def aPC:LP := [.agg [nI 1,sB [109,111,100,101,108],nI 0,nI 0,nI 0],.agg [nI 1,sB [109],nI 0,nI 0,nI 0],.agg Un,.agg [nI 1,sB [101,118,101,110,116],nI 0,nI 0,nI 0],.agg aP9,.agg [nI 1,sB [99,111,110,116,114,111,108,108,97,98,108,101],nI 0,nI 0,nI 0],.agg Un,.agg [nI 1,sB [116,101,109,112,108,97,116,101],nI 0,nI 0,nI 0],.agg aPA,.agg a9C,.agg aPB,.agg a9D,.agg [nI 3,sB [123],nI 0,nI 0,nI 0],.agg [nI 1,sB [108,111,99,97,116,105,111,110],nI 0,nI 0,nI 0],.agg a9E,.agg [nI 1,sB [105,110,105,116,105,97,108],nI 0,nI 0,nI 0],.agg [nI 1,sB [109,97,114,107,101,100],nI 0,nI 0,nI 0],.agg Un,.agg [nI 1,sB [101,100,103,101],nI 0,nI 0,nI 0],.agg a9E,.agg aPB,.agg a9E,.agg Un,.agg [nI 3,sB [125],nI 0,nI 0,nI 0],.agg [nI 1,sB [99,111,109,112,111,110,101,110,116],nI 0,nI 0,nI 0],.agg [nI 1,sB [99],nI 0,nI 0,nI 0],.agg [nI 3,sB [61],nI 0,nI 0,nI 0],.agg aPA,.agg a9C,.agg aP9,.agg a9D,.agg Un]
def a21:Ans:=⟨113,[.sl false 5 aPC],[],(.tuple [sB [109,111,100,101,108,32,109,32,59,32,101,118,101,110,116,32,97,32,99,111,110,116,114,111,108,108,97,98,108,101,32,59,32,116,101,109,112,108,97,116,101,32,116,32,40,32,120,32,41,32,123,32,108,111,99,97,116,105,111,110,32,112,32,105,110,105,116,105,97,108,32,109,97,114,107,101,100,32,59,32,101,100,103,101,32,112,32,120,32,112,32,59,32,125,32,99,111,109,112,111,110,101,110,116,32,99,32,61,32,116,32,40,32,97,32,41,32,59],nI 0],[])⟩
theorem k21:KA a21:=gQ 40 (l := []) gG 400 (by kernel_rfl)
def aPD:LP := [sB [109,111,100,101,108,32,109,59,10,101,118,101,110,116,32,97,32,99,111,110,116,114,111,108,108,97,98,108,101,59,10,116,101,109,112,108,97,116,101,32,116,32,40,120,41,32,123,10,32,32,108,111,99,97,116,105,111,110,32,112,32,105,110,105,116,105,97,108,32,109,97,114,107,101,100,59,10,32,32,101,100,103,101,32,112,32,120,32,112,59,10,125,10,99,111,109,112,111,110,101,110,116,32,99,32,61,32,116,32,40,97,41,59,10],nI 0]
def a22:Ans:=⟨27,[.sl false 5 aPC],[],(.tuple aPD,[])⟩
theorem k22:KA a22:=gQ 40 (l := [a21]) (gK k21 gG) 400 (by kernel_rfl)
def a23:Ans:=⟨12,[.agg yL],[],(.tuple aPD,[])⟩
theorem k23:KA a23:=gQ 40 (l := [a19,a22]) (gK k19 (gK k22 gG)) 400 (by kernel_rfl)
def rY:LP := [.ptr 1 0,nI 0,bZW [sB [110]]]
def aPE:LP := [nI 3,sB [41],nI 0,nI 1,nI 22]
def a9F:LP := [nI 4,sB [],nI 0,nI 1,nI 23]
def aPF:LP := [.agg [nI 1,sB [110],nI 0,nI 1,nI 16],.agg [nI 3,sB [61,61],nI 0,nI 1,nI 18],.agg [nI 2,sB [48],nI 0,nI 1,nI 21],.agg aPE,.agg a9F]
def aPG:LP := .agg [nI 3,sB [40],nI 0,nI 1,nI 15]::aPF
def aPH:LP := .agg [nI 3,sB [33],nI 0,nI 1,nI 14]::aPG
def aPI:LP := .agg [nI 3,sB [38,38],nI 0,nI 1,nI 11]::aPH
def aPJ:LP := .agg [nI 3,sB [60],nI 0,nI 1,nI 7] :: .agg [nI 2,sB [51],nI 3,nI 1,nI 9]::aPI
def Uo:LP := [.sl false 5 (.agg [nI 1,sB [110],nI 0,nI 1,nI 1] :: .agg [nI 3,sB [43],nI 0,nI 1,nI 3] :: .agg [nI 2,sB [49],nI 1,nI 1,nI 5]::aPJ),nI 0,nI 0,nI 0]
def aPK:LP := [nI 2,nI 0,nI 0,.sl false 4 [.agg (nI 1::a97),.agg [nI 0,nI 1,nI 0,.sl false 4 []]]]
def a24:Ans:=⟨181,[bZX,nI 4],[some rY,some Uo],(.agg aPK,[some rY,some [.sl false 5 aPJ,nI 0,nI 0,nI 0]])⟩
theorem k24:KA a24:=gQ 40 (l := []) gG 400 (by kernel_rfl)
def a9G:LP := [nI 8,nI 0,nI 0,.sl false 4 [.agg aPK,.agg [nI 0,nI 3,nI 0,.sl false 4 []]]]
def a25:Ans:=⟨181,[bZX,nI 3],[some rY,some Uo],(.agg a9G,[some rY,some [.sl false 5 aPI,nI 0,nI 0,nI 0]])⟩
theorem k25:KA a25:=gQ 40 (l := [a24]) (gK k24 gG) 400 (by kernel_rfl)
def IC:LP := [.ptr 1 0,nI 2,bZW [sB [110]]]
def Ur:LP := [.sl false 5 aPF,nI 0,nI 0,nI 0]
def IE:LP := [nI 6,nI 0,nI 0,.sl false 4 [.agg (nI 1::a97),.agg Kv]]
def a1H:LP := [.sl false 5 [.agg aPE,.agg a9F],nI 0,nI 0,nI 0]
def a26:Ans:=⟨181,[bZX,nI 3],[some IC,some Ur],(.agg IE,[some IC,some a1H])⟩
theorem k26:KA a26:=gQ 40 (l := []) gG 400 (by kernel_rfl)
def a27:Ans:=⟨181,[bZX,nI 2],[some IC,some Ur],(.agg IE,[some IC,some a1H])⟩
theorem k27:KA a27:=gQ 40 (l := [a26]) (gK k26 gG) 400 (by kernel_rfl)
def a28:Ans:=⟨181,[bZX,nI 1],[some IC,some Ur],(.agg IE,[some IC,some a1H])⟩
theorem k28:KA a28:=gQ 40 (l := [a27]) (gK k27 gG) 400 (by kernel_rfl)
def a29:Ans:=⟨106,[bZX],[some IC,some Ur],(.agg IE,[some IC,some a1H])⟩
theorem k29:KA a29:=gQ 40 (l := [a28]) (gK k28 gG) 400 (by kernel_rfl)
def aPL:LP := [.ptr 2 0,nI 2,bZW [sB [110]]]
def zV:LP := [.sl false 5 [.agg a9F],nI 0,nI 0,nI 0]
def a30:Ans:=⟨291,[bZX],[some [.ptr 1 0],some aPL,some Ur],(.agg IE,[some [.ptr 1 0],some aPL,some zV])⟩
theorem k30:KA a30:=gQ 40 (l := [a29]) (gK k29 gG) 400 (by kernel_rfl)
def a1I:LP := [.ptr 2 0,nI 1,bZW [sB [110]]]
def a9H:LP := [.sl false 5 aPG,nI 0,nI 0,nI 0]
def a31:Ans:=⟨288,[bZX,.func (.func 291) [] [.ptr 1 0]],[some a1I,some [bZX],some a9H],(.agg IE,[some a1I,some [bZX],some zV])⟩
theorem k31:KA a31:=gQ 40 (l := [a30]) (gK k30 gG) 400 (by kernel_rfl)
def aPM:LP := [.ptr 1 0,nI 1,bZW [sB [110]]]
def a32:Ans:=⟨245,[bZX],[some aPM,some a9H],(.agg IE,[some aPM,some zV])⟩
theorem k32:KA a32:=gQ 40 (l := [a31]) (gK k31 gG) 400 (by kernel_rfl)
def FP:LP := [nI 10,nI 0,nI 0,.sl false 4 [.agg IE]]
def a33:Ans:=⟨289,[bZX],[some [.ptr 1 0],some a1I,some a9H],(.agg FP,[some [.ptr 1 0],some a1I,some zV])⟩
theorem k33:KA a33:=gQ 40 (l := [a32]) (gK k32 gG) 400 (by kernel_rfl)
def aPN:LP := [.ptr 2 0,nI 0,bZW [sB [110]]]
def PR:LP := [.sl false 5 aPH,nI 0,nI 0,nI 0]
def a34:Ans:=⟨288,[bZX,.func (.func 289) [] [.ptr 1 0]],[some aPN,some [bZX],some PR],(.agg FP,[some aPN,some [bZX],some zV])⟩
theorem k34:KA a34:=gQ 40 (l := [a33]) (gK k33 gG) 400 (by kernel_rfl)
def a35:Ans:=⟨245,[bZX],[some rY,some PR],(.agg FP,[some rY,some zV])⟩
theorem k35:KA a35:=gQ 40 (l := [a34]) (gK k34 gG) 400 (by kernel_rfl)
def a36:Ans:=⟨181,[bZX,nI 6],[some rY,some PR],(.agg FP,[some rY,some zV])⟩
theorem k36:KA a36:=gQ 40 (l := [a35]) (gK k35 gG) 400 (by kernel_rfl)
def a37:Ans:=⟨181,[bZX,nI 5],[some rY,some PR],(.agg FP,[some rY,some zV])⟩
theorem k37:KA a37:=gQ 40 (l := [a36]) (gK k36 gG) 400 (by kernel_rfl)
def a38:Ans:=⟨181,[bZX,nI 4],[some rY,some PR],(.agg FP,[some rY,some zV])⟩
theorem k38:KA a38:=gQ 40 (l := [a37]) (gK k37 gG) 400 (by kernel_rfl)
def a39:Ans:=⟨181,[bZX,nI 3],[some rY,some PR],(.agg FP,[some rY,some zV])⟩
theorem k39:KA a39:=gQ 40 (l := [a38]) (gK k38 gG) 400 (by kernel_rfl)
def IG:LP := [nI 11,nI 0,nI 0,.sl false 4 [.agg a9G,.agg FP]]
def a40:Ans:=⟨181,[bZX,nI 2],[some rY,some Uo],(.agg IG,[some rY,some zV])⟩
theorem k40:KA a40:=gQ 40 (l := [a25,a39]) (gK k25 (gK k39 gG)) 400 (by kernel_rfl)
def a41:Ans:=⟨181,[bZX,nI 1],[some rY,some Uo],(.agg IG,[some rY,some zV])⟩
theorem k41:KA a41:=gQ 40 (l := [a40]) (gK k40 gG) 400 (by kernel_rfl)
def a42:Ans:=⟨106,[bZX],[some rY,some Uo],(.agg IG,[some rY,some zV])⟩
theorem k42:KA a42:=gQ 40 (l := [a41]) (gK k41 gG) 400 (by kernel_rfl)
def a43:Ans:=⟨17,[bZW [sB [110]],sB [110,32,43,32,49,32,60,32,51,32,38,38,32,33,40,110,32,61,61,32,48,41]],[],(.tuple [.agg IG,nI 0,nI 0,nI 0],[])⟩
theorem k43:KA a43:=gQ 40 (l := [a42]) (gK k42 gG) 400 (by kernel_rfl)
def a44:Ans:=⟨111,[.agg IG,nI 1],[],(.tuple [nI 2,nI 0],[])⟩
theorem k44:KA a44:=gQ 40 (l := []) gG 400 (by kernel_rfl)
def a1J:LP := [nI 1,sB [110],nI 0,nI 0,nI 0]
def a9I:LP := [nI 3,sB [43],nI 0,nI 0,nI 0]
def a9J:LP := [nI 2,sB [49],nI 1,nI 0,nI 0]
def a9K:LP := [nI 3,sB [60],nI 0,nI 0,nI 0]
def a9L:LP := [nI 2,sB [51],nI 3,nI 0,nI 0]
def aPO:LP := [.agg a1J,.agg a9I,.agg a9J,.agg a9K,.agg a9L]
def a45:Ans:=⟨112,[bZX,bZW [sB [110]],.agg a9G,nI 2],[some [.sl true 5 []]],(.tuple [],[some [.sl true 5 aPO]])⟩
theorem k45:KA a45:=gQ 40 (l := []) gG 400 (by kernel_rfl)
def aPP:LP := [bZX,.cst (bZW [sB [110]]),.cst (.agg IG)]
def a46:Ans:=⟨186,(nI 0::nI 2::aPP),[some [.ptr 1 0],some [.sl true 5 []]],(.tuple [],[some [.ptr 1 0],some [.sl true 5 aPO]])⟩
theorem k46:KA a46:=gQ 40 (l := [a45]) (gK k45 gG) 400 (by kernel_rfl)
def aPQ:LP := [nI 3,sB [38,38],nI 0,nI 0,nI 0]
def aPR:LP := [.agg a1J,.agg a9I,.agg a9J,.agg a9K,.agg a9L,.agg aPQ]
def a1K:LP := [.agg a1J,.agg a9I,.agg a9J,.agg a9K,.agg a9L,.agg aPQ,.agg [nI 3,sB [33],nI 0,nI 0,nI 0],.agg a9C,.agg a1J,.agg [nI 3,sB [61,61],nI 0,nI 0,nI 0],.agg [nI 2,sB [48],nI 0,nI 0,nI 0],.agg a9D]
def a47:Ans:=⟨112,[bZX,bZW [sB [110]],.agg FP,nI 3],[some [.sl true 5 aPR]],(.tuple [],[some [.sl true 5 a1K]])⟩
theorem k47:KA a47:=gQ 40 (l := []) gG 400 (by kernel_rfl)
def a48:Ans:=⟨186,(nI 1::(nI 3::aPP)),[some [.ptr 1 0],some [.sl true 5 aPR]],(.tuple [],[some [.ptr 1 0],some [.sl true 5 a1K]])⟩
theorem k48:KA a48:=gQ 40 (l := [a47]) (gK k47 gG) 400 (by kernel_rfl)
def a49:Ans:=⟨112,[bZX,bZW [sB [110]],.agg IG,nI 0],[some [.sl true 5 []]],(.tuple [],[some [.sl true 5 a1K]])⟩
theorem k49:KA a49:=gQ 40 (l := [a46,a48]) (gK k46 (gK k48 gG)) 400 (by kernel_rfl)
def aPS:LP := [sB [110,32,43,32,49,32,60,32,51,32,38,38,32,33,32,40,32,110,32,61,61,32,48,32,41],nI 0]
def a50:Ans:=⟨113,[.sl false 5 a1K],[],(.tuple aPS,[])⟩
theorem k50:KA a50:=gQ 40 (l := []) gG 400 (by kernel_rfl)
def a51:Ans:=⟨18,[bZW [sB [110]],.agg IG],[],(.tuple aPS,[])⟩
theorem k51:KA a51:=gQ 40 (l := [a44,a49,a50]) (gK k44 (gK k49 (gK k50 gG))) 400 (by kernel_rfl)
def a52:Ans:=⟨6,[],[],(.bool true,[])⟩
theorem k52:KA a52:=gQ 40 (l := [a20,a23,a43,a51]) (gK k20 (gK k23 (gK k43 (gK k51 gG)))) 400 (by kernel_rfl)
end Go.Proofs.YtilpiopkekkbiaaGreatDoor.W
end
