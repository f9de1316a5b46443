/- A part of the proof: K17m. -/
import Derived.Test.YtcdceiloganlnaaGreatDoorPn6
import Derived.Test.YtcdceiloganlnaaGreatDoorPn4
set_option linter.unusedVariables false
set_option linter.unusedSimpArgs false
set_option linter.unnecessarySimpa false
set_option linter.unusedSectionVars false
namespace Go.Proofs.YtcdceiloganlnaaGreatDoor.W
open Go.RowKit
set_option maxRecDepth 1000000
abbrev LP := List PV
abbrev nI (n : Int) : PV := .int .i64 n
abbrev sB (l : List UInt8) : PV := .str ⟨⟨l⟩⟩
abbrev KA (a : Ans) : Prop := SS.CC a.g a.args a.h = some a.v
theorem kac {a : Ans} {l : List Ans} (h : KA a) (hl : ∀ a, a ∈ l → KA a) : ∀ b, b ∈ a :: l → KA b := ans_cons h hl
theorem kst (m : Nat) {l : List Ans} (hl : ∀ a, a ∈ l → KA a) (n : Nat) {a : Ans} (e : SS.stepT (SS.memo l m) n a.g a.args a.h = some a.v) : KA a := CC_of_step2 SS_ok m hl n e
def l0 : LP := [sB [99,111,110,116,114,111,108,108,97,98,108,101],sB [111,98,115,101,114,118,97,98,108,101],sB [102,111,114,99,105,98,108,101]]
def l2 : LP := [nI 0,nI 1,nI 18]
def l8 : LP := [nI 0,nI 1,nI 32]
def l17 : LP := [nI 0,nI 1,nI 43]
def l41 : LP := [nI 0,nI 1,nI 72]
def l53 : LP := [nI 0,nI 1,nI 79]
def l56 : LP := [nI 0,nI 1,nI 81]
def l68 : LP := [nI 0,nI 1,nI 96]
def l79 : LP := [nI 3,sB [59],nI 0,nI 1,nI 99]
def l82 : LP := [nI 4,sB [],nI 0,nI 1,nI 100]
def l84 : LP := [.agg (nI 3 :: sB [40] :: l68),.agg [nI 1,sB [97],nI 0,nI 1,nI 97],.agg [nI 3,sB [41],nI 0,nI 1,nI 98],.agg l79,.agg l82]
def l87 : LP := .agg [nI 1,sB [99],nI 0,nI 1,nI 91] :: .agg [nI 3,sB [61],nI 0,nI 1,nI 93] :: .agg [nI 1,sB [116],nI 0,nI 1,nI 95] :: l84
def l88 : LP := .agg (nI 1 :: sB [99,111,109,112,111,110,101,110,116] :: l56) :: l87
def l89 : LP := .agg (nI 3 :: sB [125] :: l53) :: l88
def l93 : LP := .agg (nI 1 :: sB [112] :: l41) :: .agg [nI 1,sB [120],nI 0,nI 1,nI 74] :: .agg [nI 1,sB [112],nI 0,nI 1,nI 76] :: .agg [nI 3,sB [59],nI 0,nI 1,nI 77] :: l89
def l94 : LP := .agg [nI 1,sB [101,100,103,101],nI 0,nI 1,nI 67] :: l93
def l97 : LP := .agg [nI 1,sB [112],nI 0,nI 1,nI 57] :: .agg [nI 1,sB [109,97,114,107,101,100],nI 0,nI 1,nI 59] :: .agg [nI 3,sB [59],nI 0,nI 1,nI 65] :: l94
def l99 : LP := .agg [nI 3,sB [123],nI 0,nI 1,nI 46] :: .agg [nI 1,sB [108,111,99,97,116,105,111,110],nI 0,nI 1,nI 48] :: l97
def l100 : LP := .agg [nI 3,sB [41],nI 0,nI 1,nI 44] :: l99
def l101 : LP := .agg (nI 1 :: sB [120] :: l17) :: l100
def l102 : LP := .agg [nI 3,sB [40],nI 0,nI 1,nI 42] :: l101
def l103 : LP := .agg [nI 1,sB [116],nI 0,nI 1,nI 41] :: l102
def l104 : LP := .agg (nI 1 :: sB [116,101,109,112,108,97,116,101] :: l8) :: l103
def l105 : LP := .agg [nI 3,sB [59],nI 0,nI 1,nI 30] :: l104
def l106 : LP := .agg (nI 1 :: sB [99,111,110,116,114,111,108,108,97,98,108,101] :: l2) :: l105
def l107 : LP := [.sl false 5 l106,nI 0,nI 0,nI 0]
def l108 : LP := [.sl false 5 l105,nI 0,nI 0,nI 0]
def a0 : Ans := ⟨327,[.sl false 1 l0,.func (.func 328) [] [.ptr 0 0]],[some [.ptr 1 0],some [.ptr 2 0,nI 0,.sl true 1 []],some l107],(.sl false 1 [.bool true,.bool false,.bool false],[some [.ptr 1 0],some [.ptr 2 0,nI 0,.sl true 1 []],some l108])⟩
theorem k0 : KA a0 := kst 30 (l := []) ans_nil 120 (by kernel_rfl)
def a1 : Ans := ⟨275,[.ptr 0 0,.sl false 1 l0],[some [.ptr 1 0,nI 0,.sl true 1 []],some l107],(.sl false 1 [.bool true,.bool false,.bool false],[some [.ptr 1 0,nI 0,.sl true 1 []],some l108])⟩
theorem k1 : KA a1 := kst 30 (l := [a0]) (kac k0 ans_nil) 120 (by kernel_rfl)
def l109 : LP := [.sl true 3 [],.sl true 2 [],.sl true 3 []]
def l110 : LP := .sl true 3 [] :: l109
def l111 : LP := .sl true 9 [] :: l110
def l113 : LP := sB [109] :: .sl true 5 [] :: l111
def l114 : LP := [nI 0,nI 1,nI 16]
def l116 : LP := nI 1 :: sB [97] :: l114
def l117 : LP := [.sl false 5 (.agg l116 :: l106),nI 0,nI 0,nI 0]
def l119 : LP := [sB [97],.bool true,.bool false,.bool false,nI 0]
def l120 : LP := sB [109] :: (.sl true 5 [.agg l119] :: l111)
def l121 : LP := [.sl false 5 l104,nI 0,nI 0,nI 0]
def a2 : Ans := ⟨222,[.ptr 0 0,.ptr 1 0],[some [.ptr 2 0,nI 0,.sl true 1 []],some l113,some l117],(.tuple [],[some [.ptr 2 0,nI 0,.sl true 1 []],some l120,some l121])⟩
theorem k2 : KA a2 := kst 30 (l := [a1]) (kac k1 ans_nil) 120 (by kernel_rfl)
def a3 : Ans := ⟨221,[.ptr 0 0,.ptr 1 0],[some [.ptr 2 0],some [.ptr 3 0],some [.ptr 4 0,nI 0,.sl true 1 []],some l113,some l117],(.tuple [],[some [.ptr 2 0],some [.ptr 3 0],some [.ptr 4 0,nI 0,.sl true 1 []],some l120,some l121])⟩
theorem k3 : KA a3 := kst 30 (l := [a2]) (kac k2 ans_nil) 120 (by kernel_rfl)
def a4 : Ans := ⟨132,[.ptr 0 0,.ptr 1 0],[some [.ptr 2 0,nI 0,.sl true 1 []],some l113,some [.sl false 5 (.agg [nI 1,sB [101,118,101,110,116],nI 0,nI 1,nI 10] :: (.agg l116 :: l106)),nI 0,nI 0,nI 0]],(.tuple [],[some [.ptr 2 0,nI 0,.sl true 1 []],some l120,some l121])⟩
theorem k4 : KA a4 := kst 30 (l := [a3]) (kac k3 ans_nil) 120 (by kernel_rfl)
def l127 : LP := [.ptr 0 0,.func (.func 279) [] [.ptr 1 0,.ptr 2 0]]
def l132 : LP := [.sl true 1 [],nI 0,nI 0,.sl true 1 [],.sl true 4 [],.sl true 8 []]
def l135 : LP := sB [116] :: .sl true 1 [] :: .sl true 1 [] :: l132
def l138 : LP := sB [116] :: .sl true 1 [] :: (.sl true 1 [sB [120]] :: l132)
def a5 : Ans := ⟨286,l127,[some [.sl false 5 l101,nI 0,nI 0,nI 0],some l135,some [.ptr 3 0],some [.ptr 0 0,nI 0,.sl true 1 []]],(.tuple [],[some [.sl false 5 l100,nI 0,nI 0,nI 0],some l138,some [.ptr 3 0],some [.ptr 0 0,nI 0,.sl true 1 []]])⟩
theorem k5 : KA a5 := kst 30 (l := []) ans_nil 120 (by kernel_rfl)
def a6 : Ans := ⟨278,l127,[some [.ptr 3 0,nI 0,.sl true 1 []],some l135,some [.ptr 0 0],some [.sl false 5 l102,nI 0,nI 0,nI 0]],(.tuple [],[some [.ptr 3 0,nI 0,.sl true 1 []],some l138,some [.ptr 0 0],some [.sl false 5 l99,nI 0,nI 0,nI 0]])⟩
theorem k6 : KA a6 := kst 30 (l := [a5]) (kac k5 ans_nil) 120 (by kernel_rfl)
def l148 : LP := [sB [116],.sl true 1 [sB [112]],.sl true 1 [sB [120]],.sl true 1 [],nI 0,nI 0,.sl true 1 [nI 0],.sl true 4 [],.sl true 8 []]
def a7 : Ans := ⟨280,[.ptr 0 0,.ptr 1 0,.ptr 2 0],[some [.ptr 3 0,nI 0,.sl true 1 []],some l138,some [.bool false],some [.sl false 5 l97,nI 0,nI 0,nI 0]],(.tuple [],[some [.ptr 3 0,nI 0,.sl true 1 []],some l148,some [.bool false],some [.sl false 5 l94,nI 0,nI 0,nI 0]])⟩
theorem k7 : KA a7 := kst 30 (l := []) ans_nil 120 (by kernel_rfl)
def l151 : LP := [nI 0,nI 0,.sl false 4 []]
def l152 : LP := nI 0 :: l151
def l158 : LP := [nI 0,nI 0,nI 0,nI 6,nI 0,nI 0,.sl false 4 [.agg l152,.agg l152],.sl false 5 []]
def a8 : Ans := ⟨282,[.ptr 0 0,.ptr 1 0],[some [.ptr 2 0,nI 0,.sl true 1 []],some l148,some [.sl false 5 l93,nI 0,nI 0,nI 0]],(.tuple [],[some [.ptr 2 0,nI 0,.sl true 1 []],some [sB [116],.sl true 1 [sB [112]],.sl true 1 [sB [120]],.sl true 1 [],nI 0,nI 0,.sl true 1 [nI 0],.sl true 4 [],.sl true 8 [.agg l158]],some [.sl false 5 l89,nI 0,nI 0,nI 0]])⟩
theorem k8 : KA a8 := kst 30 (l := []) ans_nil 120 (by kernel_rfl)
def l167 : LP := [.sl false 5 l103,nI 0,nI 0,nI 0]
def l171 : LP := [.sl false 1 [nI 0],nI 1,nI 0,.sl false 1 [nI 0],.sl false 4 [],.sl false 8 [.agg l158]]
def l174 : LP := sB [116] :: .sl false 1 [sB [112]] :: .sl false 1 [sB [120]] :: l171
def l176 : LP := sB [109] :: .sl true 5 [.agg l119] :: (.sl true 9 [.agg l174] :: l110)
def l177 : LP := [.sl false 5 l88,nI 0,nI 0,nI 0]
def a9 : Ans := ⟨224,[.ptr 0 0,.ptr 1 0],[some [.ptr 2 0,nI 0,.sl true 1 []],some l120,some l167],(.tuple [],[some [.ptr 2 0,nI 0,.sl true 1 []],some l176,some l177])⟩
theorem k9 : KA a9 := kst 30 (l := [a6,a7,a8]) (kac k6 (kac k7 (kac k8 ans_nil))) 120 (by kernel_rfl)
def a10 : Ans := ⟨223,[.ptr 0 0,.ptr 1 0],[some [.ptr 2 0],some [.ptr 3 0],some [.ptr 4 0,nI 0,.sl true 1 []],some l120,some l167],(.tuple [],[some [.ptr 2 0],some [.ptr 3 0],some [.ptr 4 0,nI 0,.sl true 1 []],some l176,some l177])⟩
theorem k10 : KA a10 := kst 30 (l := [a9]) (kac k9 ans_nil) 120 (by kernel_rfl)
def a11 : Ans := ⟨132,[.ptr 0 0,.ptr 1 0],[some [.ptr 2 0,nI 0,.sl true 1 []],some l120,some l121],(.tuple [],[some [.ptr 2 0,nI 0,.sl true 1 []],some l176,some l177])⟩
theorem k11 : KA a11 := kst 30 (l := [a10]) (kac k10 ans_nil) 120 (by kernel_rfl)
def a12 : Ans := ⟨278,[.ptr 0 0,.func (.func 284) [] [.ptr 1 0,.ptr 2 0]],[some [.ptr 3 0,nI 0,.sl true 1 []],some [sB [99],sB [116],.sl true 1 []],some [.ptr 0 0],some [.sl false 5 l84,nI 0,nI 0,nI 0]],(.tuple [],[some [.ptr 3 0,nI 0,.sl true 1 []],some [sB [99],sB [116],.sl true 1 [sB [97]]],some [.ptr 0 0],some [.sl false 5 [.agg l79,.agg l82],nI 0,nI 0,nI 0]])⟩
theorem k12 : KA a12 := kst 30 (l := []) ans_nil 120 (by kernel_rfl)
def l183 : LP := [.sl false 5 l87,nI 0,nI 0,nI 0]
def l184 : LP := [sB [99],sB [116],.sl false 1 [sB [97]]]
def l187 : LP := sB [109] :: .sl true 5 [.agg l119] :: .sl true 9 [.agg l174] :: (.sl true 3 [.agg l184] :: l109)
def l188 : LP := [.sl false 5 [.agg l82],nI 0,nI 0,nI 0]
def a13 : Ans := ⟨226,[.ptr 0 0,.ptr 1 0,.ptr 1 3],[some [.ptr 2 0,nI 0,.sl true 1 []],some l176,some l183],(.tuple [],[some [.ptr 2 0,nI 0,.sl true 1 []],some l187,some l188])⟩
theorem k13 : KA a13 := kst 30 (l := [a12]) (kac k12 ans_nil) 120 (by kernel_rfl)
def a14 : Ans := ⟨225,[.ptr 0 0,.ptr 1 0],[some [.ptr 2 0],some [.ptr 3 0],some [.ptr 4 0,nI 0,.sl true 1 []],some l176,some l183],(.tuple [],[some [.ptr 2 0],some [.ptr 3 0],some [.ptr 4 0,nI 0,.sl true 1 []],some l187,some l188])⟩
theorem k14 : KA a14 := kst 30 (l := [a13]) (kac k13 ans_nil) 120 (by kernel_rfl)
def a15 : Ans := ⟨132,[.ptr 0 0,.ptr 1 0],[some [.ptr 2 0,nI 0,.sl true 1 []],some l176,some l177],(.tuple [],[some [.ptr 2 0,nI 0,.sl true 1 []],some l187,some l188])⟩
theorem k15 : KA a15 := kst 30 (l := [a14]) (kac k14 ans_nil) 120 (by kernel_rfl)
def l190 : LP := [nI 6,nI 0,nI 0,.sl false 4 [.agg l152,.agg l152]]
def a16 : Ans := ⟨27,[.agg l190,nI 0],[],(.tuple [nI 2,nI 0],[])⟩
theorem k16 : KA a16 := kst 30 (l := []) ans_nil 120 (by kernel_rfl)
def a17 : Ans := ⟨248,[.agg l190,nI 0,nI 2],[],(nI 0,[])⟩
theorem k17 : KA a17 := kst 30 (l := [a16]) (kac k16 ans_nil) 120 (by kernel_rfl)
def a18 : Ans := ⟨191,[.agg l174,.agg l158],[],(nI 0,[])⟩
theorem k18 : KA a18 := kst 30 (l := [a17]) (kac k17 ans_nil) 120 (by kernel_rfl)
def a19 : Ans := ⟨190,[nI 0,.cst (.agg l174),.cst (.agg l171)],[],(nI 0,[])⟩
theorem k19 : KA a19 := kst 30 (l := [a18]) (kac k18 ans_nil) 120 (by kernel_rfl)
def a20 : Ans := ⟨189,[.sl false 8 [.agg l158],.func (.func 190) [] [.cst (.agg l174),.cst (.agg l171)]],[],(nI 0,[])⟩
theorem k20 : KA a20 := kst 30 (l := [a19]) (kac k19 ans_nil) 120 (by kernel_rfl)
def a21 : Ans := ⟨188,[.cst (.agg l171),.cst (.agg l174)],[],(nI 0,[])⟩
theorem k21 : KA a21 := kst 30 (l := [a20]) (kac k20 ans_nil) 120 (by kernel_rfl)
def a22 : Ans := ⟨67,[.sl false 1 [.func (.func 176) [] [.cst (.agg l174)],.func (.func 178) [] [.cst (.agg l174)],.func (.func 179) [] [.cst (.agg l171),.cst (.agg l174)],.func (.func 181) [] [.cst (.agg l171),.cst (.agg l174)],.func (.func 182) [] [.cst (.agg l171)],.func (.func 183) [] [.cst (.agg l171)],.func (.func 184) [] [.cst (.agg l171)],.func (.func 185) [] [.cst (.agg l171)],.func (.func 188) [] [.cst (.agg l171),.cst (.agg l174)]]],[],(nI 0,[])⟩
theorem k22 : KA a22 := kst 30 (l := [a21]) (kac k21 ans_nil) 120 (by kernel_rfl)
def a23 : Ans := ⟨78,[.agg l174],[],(nI 0,[])⟩
theorem k23 : KA a23 := kst 30 (l := [a22]) (kac k22 ans_nil) 120 (by kernel_rfl)
def l204 : LP := [sB [109],.sl false 5 [.agg l119],.sl false 9 [.agg l174],.sl false 3 [.agg l184],.sl false 3 [],.sl false 2 [],.sl false 3 []]
def a24 : Ans := ⟨77,[.cst (.agg l204),.cst (nI 0)],[],(nI 0,[])⟩
theorem k24 : KA a24 := kst 30 (l := [a23]) (kac k23 ans_nil) 120 (by kernel_rfl)
def a25 : Ans := ⟨67,[.sl false 1 [.func (.func 75) [] [.cst (.sl false 1 [sB [116]]),.cst (nI 0)],.func (.func 77) [] [.cst (.agg l204),.cst (nI 0)]]],[],(nI 0,[])⟩
theorem k25 : KA a25 := kst 30 (l := [a24]) (kac k24 ans_nil) 120 (by kernel_rfl)
def a26 : Ans := ⟨74,[nI 0,.cst (.sl false 1 [sB [116]]),.cst (.agg l204)],[],(nI 0,[])⟩
theorem k26 : KA a26 := kst 30 (l := [a25]) (kac k25 ans_nil) 120 (by kernel_rfl)
def a27 : Ans := ⟨73,[.sl false 9 [.agg l174],.func (.func 74) [] [.cst (.sl false 1 [sB [116]]),.cst (.agg l204)]],[],(nI 0,[])⟩
theorem k27 : KA a27 := kst 30 (l := [a26]) (kac k26 ans_nil) 120 (by kernel_rfl)
def a28 : Ans := ⟨72,[.cst (.agg l204),.cst (.sl false 1 [sB [116]])],[],(nI 0,[])⟩
theorem k28 : KA a28 := kst 30 (l := [a27]) (kac k27 ans_nil) 120 (by kernel_rfl)
def a29 : Ans := ⟨67,[.sl false 1 [.func (.func 82) [] [.cst (.sl false 1 [sB [99]]),.cst (nI 0)],.func (.func 83) [] [.cst (.sl false 3 [.agg l184]),.cst (nI 0)]]],[],(nI 0,[])⟩
theorem k29 : KA a29 := kst 30 (l := []) ans_nil 120 (by kernel_rfl)
def a30 : Ans := ⟨81,[nI 0,.cst (.sl false 1 [sB [99]]),.cst (.sl false 3 [.agg l184])],[],(nI 0,[])⟩
theorem k30 : KA a30 := kst 30 (l := [a29]) (kac k29 ans_nil) 120 (by kernel_rfl)
def a31 : Ans := ⟨80,[.sl false 3 [.agg l184],.func (.func 81) [] [.cst (.sl false 1 [sB [99]]),.cst (.sl false 3 [.agg l184])]],[],(nI 0,[])⟩
theorem k31 : KA a31 := kst 30 (l := [a30]) (kac k30 ans_nil) 120 (by kernel_rfl)
def a32 : Ans := ⟨79,[.cst (.sl false 3 [.agg l184]),.cst (.sl false 1 [sB [99]])],[],(nI 0,[])⟩
theorem k32 : KA a32 := kst 30 (l := [a31]) (kac k31 ans_nil) 120 (by kernel_rfl)
def a33 : Ans := ⟨67,[.sl false 1 [.func (.func 68) [] [.cst (.agg l204)],.func (.func 70) [] [.cst (.agg l204)],.func (.func 71) [] [.cst (.agg l204)],.func (.func 72) [] [.cst (.agg l204),.cst (.sl false 1 [sB [116]])],.func (.func 79) [] [.cst (.sl false 3 [.agg l184]),.cst (.sl false 1 [sB [99]])],.func (.func 85) [] [.cst (.agg l204),.cst (.sl false 1 [])],.func (.func 93) [] [.cst (.agg l204),.cst (.sl false 1 [])]]],[],(nI 0,[])⟩
theorem k33 : KA a33 := kst 30 (l := [a28,a32]) (kac k28 (kac k32 ans_nil)) 120 (by kernel_rfl)
def a34 : Ans := ⟨18,[.agg l204],[],(nI 0,[])⟩
theorem k34 : KA a34 := kst 30 (l := [a33]) (kac k33 ans_nil) 120 (by kernel_rfl)
def a35 : Ans := ⟨36,[sB [109,111,100,101,108,32,109,59,32,101,118,101,110,116,32,97,32,99,111,110,116,114,111,108,108,97,98,108,101,59,32,116,101,109,112,108,97,116,101,32,116,40,120,41,32,123,32,108,111,99,97,116,105,111,110,32,112,32,109,97,114,107,101,100,59,32,101,100,103,101,32,112,32,120,32,112,59,32,125,32,99,111,109,112,111,110,101,110,116,32,99,32,61,32,116,40,97,41,59]],[],(.tuple [.agg l204,nI 0,nI 0,nI 0],[])⟩
theorem k35 : KA a35 := kst 30 (l := [a4,a11,a15,a34]) (kac k4 (kac k11 (kac k15 (kac k34 ans_nil)))) 120 (by kernel_rfl)
def l221 : LP := [nI 1,sB [109,111,100,101,108],nI 0,nI 0,nI 0]
def l223 : LP := [nI 1,sB [109],nI 0,nI 0,nI 0]
def l225 : LP := [nI 3,sB [59],nI 0,nI 0,nI 0]
def l227 : LP := [nI 1,sB [101,118,101,110,116],nI 0,nI 0,nI 0]
def l229 : LP := [nI 1,sB [97],nI 0,nI 0,nI 0]
def l231 : LP := [nI 1,sB [99,111,110,116,114,111,108,108,97,98,108,101],nI 0,nI 0,nI 0]
def l237 : LP := [nI 1,sB [116,101,109,112,108,97,116,101],nI 0,nI 0,nI 0]
def l239 : LP := [nI 1,sB [116],nI 0,nI 0,nI 0]
def l241 : LP := [nI 3,sB [40],nI 0,nI 0,nI 0]
def l243 : LP := [nI 1,sB [120],nI 0,nI 0,nI 0]
def l245 : LP := [nI 3,sB [41],nI 0,nI 0,nI 0]
def l247 : LP := [nI 3,sB [123],nI 0,nI 0,nI 0]
def l249 : LP := [nI 1,sB [108,111,99,97,116,105,111,110],nI 0,nI 0,nI 0]
def l251 : LP := [nI 1,sB [112],nI 0,nI 0,nI 0]
def l253 : LP := [nI 1,sB [105,110,105,116,105,97,108],nI 0,nI 0,nI 0]
def l255 : LP := [nI 1,sB [109,97,114,107,101,100],nI 0,nI 0,nI 0]
def l257 : LP := [nI 1,sB [101,100,103,101],nI 0,nI 0,nI 0]
def l259 : LP := [nI 3,sB [125],nI 0,nI 0,nI 0]
def a36 : Ans := ⟨168,[.ptr 0 0,.agg l174],[some [.sl true 5 [.agg l221,.agg l223,.agg l225,.agg l227,.agg l229,.agg l231,.agg l225]]],(.tuple [],[some [.sl true 5 [.agg l221,.agg l223,.agg l225,.agg l227,.agg l229,.agg l231,.agg l225,.agg l237,.agg l239,.agg l241,.agg l243,.agg l245,.agg l247,.agg l249,.agg l251,.agg l253,.agg l255,.agg l225,.agg l257,.agg l251,.agg l243,.agg l251,.agg l225,.agg l259]]])⟩
theorem k36 : KA a36 := kst 30 (l := []) ans_nil 120 (by kernel_rfl)
def l315 : LP := [.agg l221,.agg l223,.agg l225,.agg l227,.agg l229,.agg l231,.agg l225,.agg l237,.agg l239,.agg l241,.agg l243,.agg l245,.agg l247,.agg l249,.agg l251,.agg l253,.agg l255,.agg l225,.agg l257,.agg l251,.agg l243,.agg l251,.agg l225,.agg l259,.agg [nI 1,sB [99,111,109,112,111,110,101,110,116],nI 0,nI 0,nI 0],.agg [nI 1,sB [99],nI 0,nI 0,nI 0],.agg [nI 3,sB [61],nI 0,nI 0,nI 0],.agg l239,.agg l241,.agg l229,.agg l245,.agg l225]
def a37 : Ans := ⟨57,[.ptr 0 0,.agg l204],[some [.sl true 5 []]],(.tuple [],[some [.sl true 5 l315]])⟩
theorem k37 : KA a37 := kst 30 (l := [a36]) (kac k36 ans_nil) 120 (by kernel_rfl)
def a38 : Ans := ⟨299,[.sl false 5 l315,.func (.func 246) [] []],[],(nI (-1),[])⟩
theorem k38 : KA a38 := kst 30 (l := []) ans_nil 120 (by kernel_rfl)
def l471 : LP := nI 1 :: sB [109,111,100,101,108] :: nI 0 :: nI 0 :: nI 0 :: nI 1 :: sB [109] :: nI 0 :: nI 0 :: nI 0 :: nI 3 :: sB [59] :: nI 0 :: nI 0 :: nI 0 :: nI 1 :: sB [101,118,101,110,116] :: nI 0 :: nI 0 :: nI 0 :: nI 1 :: sB [97] :: nI 0 :: nI 0 :: nI 0 :: nI 1 :: sB [99,111,110,116,114,111,108,108,97,98,108,101] :: nI 0 :: nI 0 :: nI 0 :: nI 3 :: sB [59] :: nI 0 :: nI 0 :: nI 0 :: nI 1 :: sB [116,101,109,112,108,97,116,101] :: nI 0 :: nI 0 :: nI 0 :: nI 1 :: sB [116] :: nI 0 :: nI 0 :: nI 0 :: nI 3 :: sB [40] :: nI 0 :: nI 0 :: nI 0 :: nI 1 :: sB [120] :: nI 0 :: nI 0 :: nI 0 :: nI 3 :: sB [41] :: nI 0 :: nI 0 :: nI 0 :: nI 3 :: sB [123] :: nI 0 :: nI 0 :: nI 0 :: nI 1 :: sB [108,111,99,97,116,105,111,110] :: nI 0 :: nI 0 :: nI 0 :: nI 1 :: sB [112] :: nI 0 :: nI 0 :: nI 0 :: nI 1 :: sB [105,110,105,116,105,97,108] :: nI 0 :: nI 0 :: nI 0 :: nI 1 :: sB [109,97,114,107,101,100] :: nI 0 :: nI 0 :: nI 0 :: nI 3 :: sB [59] :: nI 0 :: nI 0 :: nI 0 :: nI 1 :: sB [101,100,103,101] :: nI 0 :: nI 0 :: nI 0 :: nI 1 :: sB [112] :: nI 0 :: nI 0 :: nI 0 :: nI 1 :: sB [120] :: nI 0 :: nI 0 :: nI 0 :: nI 1 :: sB [112] :: nI 0 :: nI 0 :: nI 0 :: nI 3 :: sB [59] :: nI 0 :: nI 0 :: nI 0 :: nI 3 :: sB [125] :: nI 0 :: nI 0 :: nI 0 :: nI 1 :: sB [99,111,109,112,111,110,101,110,116] :: nI 0 :: nI 0 :: nI 0 :: nI 1 :: sB [99] :: nI 0 :: nI 0 :: nI 0 :: nI 3 :: sB [61] :: nI 0 :: nI 0 :: nI 0 :: nI 1 :: sB [116] :: nI 0 :: nI 0 :: nI 0 :: nI 3 :: sB [40] :: nI 0 :: nI 0 :: nI 0 :: nI 1 :: sB [97] :: nI 0 :: nI 0 :: nI 0 :: nI 3 :: sB [41] :: nI 0 :: nI 0 :: (nI 0 :: l225)
def a39 : Ans := ⟨244,[.slh 0 0 32 5,.func (.func 246) [] []],[some l471],(.slh 0 0 32 5,[some l471])⟩
theorem k39 : KA a39 := kst 30 (l := [a38]) (kac k38 ans_nil) 120 (by kernel_rfl)
def a40 : Ans := ⟨175,[.sl false 5 l315],[],(.sl false 5 l315,[])⟩
theorem k40 : KA a40 := kst 30 (l := [a39]) (kac k39 ans_nil) 120 (by kernel_rfl)
def l473 : LP := [nI 1,sB [109,111,100,101,108],nI 0,nI 1,nI 1]
def l475 : LP := [nI 1,sB [109],nI 0,nI 1,nI 7]
def l477 : LP := [nI 3,sB [59],nI 0,nI 1,nI 9]
def l478 : LP := [nI 0,nI 1,nI 11]
def l480 : LP := nI 1 :: sB [101,118,101,110,116] :: l478
def l483 : LP := [nI 1,sB [97],nI 0,nI 1,nI 17]
def l486 : LP := [nI 1,sB [99,111,110,116,114,111,108,108,97,98,108,101],nI 0,nI 1,nI 19]
def l487 : LP := nI 3 :: (sB [59] :: l8)
def l490 : LP := [nI 1,sB [116,101,109,112,108,97,116,101],nI 0,nI 1,nI 34]
def l491 : LP := nI 1 :: (sB [116] :: l17)
def l494 : LP := [nI 3,sB [40],nI 0,nI 1,nI 45]
def l497 : LP := [nI 1,sB [120],nI 0,nI 1,nI 47]
def l500 : LP := [nI 3,sB [41],nI 0,nI 1,nI 49]
def l503 : LP := [nI 3,sB [123],nI 0,nI 1,nI 51]
def l506 : LP := [nI 1,sB [108,111,99,97,116,105,111,110],nI 0,nI 1,nI 53]
def l509 : LP := [nI 1,sB [112],nI 0,nI 1,nI 62]
def l512 : LP := [nI 1,sB [105,110,105,116,105,97,108],nI 0,nI 1,nI 64]
def l514 : LP := nI 1 :: sB [109,97,114,107,101,100] :: l41
def l515 : LP := nI 3 :: (sB [59] :: l53)
def l516 : LP := nI 1 :: (sB [101,100,103,101] :: l56)
def l519 : LP := [nI 1,sB [112],nI 0,nI 1,nI 86]
def l522 : LP := [nI 1,sB [120],nI 0,nI 1,nI 88]
def l525 : LP := [nI 1,sB [112],nI 0,nI 1,nI 90]
def l528 : LP := [nI 3,sB [59],nI 0,nI 1,nI 92]
def l531 : LP := [nI 3,sB [125],nI 0,nI 1,nI 94]
def l533 : LP := nI 1 :: sB [99,111,109,112,111,110,101,110,116] :: l68
def l536 : LP := [nI 1,sB [99],nI 0,nI 1,nI 106]
def l539 : LP := [nI 3,sB [61],nI 0,nI 1,nI 108]
def l542 : LP := [nI 1,sB [116],nI 0,nI 1,nI 110]
def l545 : LP := [nI 3,sB [40],nI 0,nI 1,nI 112]
def l548 : LP := [nI 1,sB [97],nI 0,nI 1,nI 114]
def l551 : LP := [nI 3,sB [41],nI 0,nI 1,nI 116]
def l554 : LP := [nI 3,sB [59],nI 0,nI 1,nI 118]
def l557 : LP := [nI 4,sB [],nI 0,nI 1,nI 119]
def l587 : LP := [.agg l473,.agg l475,.agg l477,.agg l480,.agg l483,.agg l486,.agg l487,.agg l490,.agg l491,.agg l494,.agg l497,.agg l500,.agg l503,.agg l506,.agg l509,.agg l512,.agg l514,.agg l515,.agg l516,.agg l519,.agg l522,.agg l525,.agg l528,.agg l531,.agg l533,.agg l536,.agg l539,.agg l542,.agg l545,.agg l548,.agg l551,.agg l554,.agg l557]
def a41 : Ans := ⟨299,[.sl false 5 l587,.func (.func 246) [] []],[],(nI 32,[])⟩
theorem k41 : KA a41 := kst 30 (l := []) ans_nil 120 (by kernel_rfl)
def l750 : LP := [nI 0,sB [],nI 0,nI 0,nI 0]
def a42 : Ans := ⟨244,[.slh 0 0 33 5,.func (.func 246) [] []],[some (nI 1 :: sB [109,111,100,101,108] :: nI 0 :: nI 1 :: nI 1 :: nI 1 :: sB [109] :: nI 0 :: nI 1 :: nI 7 :: nI 3 :: sB [59] :: nI 0 :: nI 1 :: nI 9 :: nI 1 :: sB [101,118,101,110,116] :: nI 0 :: nI 1 :: nI 11 :: nI 1 :: sB [97] :: nI 0 :: nI 1 :: nI 17 :: nI 1 :: sB [99,111,110,116,114,111,108,108,97,98,108,101] :: nI 0 :: nI 1 :: nI 19 :: nI 3 :: sB [59] :: nI 0 :: nI 1 :: nI 32 :: nI 1 :: sB [116,101,109,112,108,97,116,101] :: nI 0 :: nI 1 :: nI 34 :: nI 1 :: sB [116] :: nI 0 :: nI 1 :: nI 43 :: nI 3 :: sB [40] :: nI 0 :: nI 1 :: nI 45 :: nI 1 :: sB [120] :: nI 0 :: nI 1 :: nI 47 :: nI 3 :: sB [41] :: nI 0 :: nI 1 :: nI 49 :: nI 3 :: sB [123] :: nI 0 :: nI 1 :: nI 51 :: nI 1 :: sB [108,111,99,97,116,105,111,110] :: nI 0 :: nI 1 :: nI 53 :: nI 1 :: sB [112] :: nI 0 :: nI 1 :: nI 62 :: nI 1 :: sB [105,110,105,116,105,97,108] :: nI 0 :: nI 1 :: nI 64 :: nI 1 :: sB [109,97,114,107,101,100] :: nI 0 :: nI 1 :: nI 72 :: nI 3 :: sB [59] :: nI 0 :: nI 1 :: nI 79 :: nI 1 :: sB [101,100,103,101] :: nI 0 :: nI 1 :: nI 81 :: nI 1 :: sB [112] :: nI 0 :: nI 1 :: nI 86 :: nI 1 :: sB [120] :: nI 0 :: nI 1 :: nI 88 :: nI 1 :: sB [112] :: nI 0 :: nI 1 :: nI 90 :: nI 3 :: sB [59] :: nI 0 :: nI 1 :: nI 92 :: nI 3 :: sB [125] :: nI 0 :: nI 1 :: nI 94 :: nI 1 :: sB [99,111,109,112,111,110,101,110,116] :: nI 0 :: nI 1 :: nI 96 :: nI 1 :: sB [99] :: nI 0 :: nI 1 :: nI 106 :: nI 3 :: sB [61] :: nI 0 :: nI 1 :: nI 108 :: nI 1 :: sB [116] :: nI 0 :: nI 1 :: nI 110 :: nI 3 :: sB [40] :: nI 0 :: nI 1 :: nI 112 :: nI 1 :: sB [97] :: nI 0 :: nI 1 :: nI 114 :: nI 3 :: sB [41] :: nI 0 :: nI 1 :: nI 116 :: nI 3 :: sB [59] :: nI 0 :: nI 1 :: (nI 118 :: l557))],(.slh 0 0 32 5,[some (nI 1 :: sB [109,111,100,101,108] :: nI 0 :: nI 1 :: nI 1 :: nI 1 :: sB [109] :: nI 0 :: nI 1 :: nI 7 :: nI 3 :: sB [59] :: nI 0 :: nI 1 :: nI 9 :: nI 1 :: sB [101,118,101,110,116] :: nI 0 :: nI 1 :: nI 11 :: nI 1 :: sB [97] :: nI 0 :: nI 1 :: nI 17 :: nI 1 :: sB [99,111,110,116,114,111,108,108,97,98,108,101] :: nI 0 :: nI 1 :: nI 19 :: nI 3 :: sB [59] :: nI 0 :: nI 1 :: nI 32 :: nI 1 :: sB [116,101,109,112,108,97,116,101] :: nI 0 :: nI 1 :: nI 34 :: nI 1 :: sB [116] :: nI 0 :: nI 1 :: nI 43 :: nI 3 :: sB [40] :: nI 0 :: nI 1 :: nI 45 :: nI 1 :: sB [120] :: nI 0 :: nI 1 :: nI 47 :: nI 3 :: sB [41] :: nI 0 :: nI 1 :: nI 49 :: nI 3 :: sB [123] :: nI 0 :: nI 1 :: nI 51 :: nI 1 :: sB [108,111,99,97,116,105,111,110] :: nI 0 :: nI 1 :: nI 53 :: nI 1 :: sB [112] :: nI 0 :: nI 1 :: nI 62 :: nI 1 :: sB [105,110,105,116,105,97,108] :: nI 0 :: nI 1 :: nI 64 :: nI 1 :: sB [109,97,114,107,101,100] :: nI 0 :: nI 1 :: nI 72 :: nI 3 :: sB [59] :: nI 0 :: nI 1 :: nI 79 :: nI 1 :: sB [101,100,103,101] :: nI 0 :: nI 1 :: nI 81 :: nI 1 :: sB [112] :: nI 0 :: nI 1 :: nI 86 :: nI 1 :: sB [120] :: nI 0 :: nI 1 :: nI 88 :: nI 1 :: sB [112] :: nI 0 :: nI 1 :: nI 90 :: nI 3 :: sB [59] :: nI 0 :: nI 1 :: nI 92 :: nI 3 :: sB [125] :: nI 0 :: nI 1 :: nI 94 :: nI 1 :: sB [99,111,109,112,111,110,101,110,116] :: nI 0 :: nI 1 :: nI 96 :: nI 1 :: sB [99] :: nI 0 :: nI 1 :: nI 106 :: nI 3 :: sB [61] :: nI 0 :: nI 1 :: nI 108 :: nI 1 :: sB [116] :: nI 0 :: nI 1 :: nI 110 :: nI 3 :: sB [40] :: nI 0 :: nI 1 :: nI 112 :: nI 1 :: sB [97] :: nI 0 :: nI 1 :: nI 114 :: nI 3 :: sB [41] :: nI 0 :: nI 1 :: nI 116 :: nI 3 :: sB [59] :: nI 0 :: nI 1 :: nI 118 :: l750)])⟩
theorem k42 : KA a42 := kst 30 (l := [a41]) (kac k41 ans_nil) 120 (by kernel_rfl)
def l939 : LP := [.agg l473,.agg l475,.agg l477,.agg l480,.agg l483,.agg l486,.agg l487,.agg l490,.agg l491,.agg l494,.agg l497,.agg l500,.agg l503,.agg l506,.agg l509,.agg l512,.agg l514,.agg l515,.agg l516,.agg l519,.agg l522,.agg l525,.agg l528,.agg l531,.agg l533,.agg l536,.agg l539,.agg l542,.agg l545,.agg l548,.agg l551,.agg l554]
def a43 : Ans := ⟨175,[.sl false 5 l587],[],(.sl false 5 l939,[])⟩
theorem k43 : KA a43 := kst 30 (l := [a42]) (kac k42 ans_nil) 120 (by kernel_rfl)
def a44 : Ans := ⟨209,[.sl false 5 l939,.sl false 5 l315,.func (.func 210) [] []],[],(.bool true,[])⟩
theorem k44 : KA a44 := kst 30 (l := []) ans_nil 120 (by kernel_rfl)
def a45 : Ans := ⟨114,[.sl false 5 l315],[],(.tuple [sB [109,111,100,101,108,32,109,32,59,32,101,118,101,110,116,32,97,32,99,111,110,116,114,111,108,108,97,98,108,101,32,59,32,116,101,109,112,108,97,116,101,32,116,32,40,32,120,32,41,32,123,32,108,111,99,97,116,105,111,110,32,112,32,105,110,105,116,105,97,108,32,109,97,114,107,101,100,32,59,32,101,100,103,101,32,112,32,120,32,112,32,59,32,125,32,99,111,109,112,111,110,101,110,116,32,99,32,61,32,116,32,40,32,97,32,41,32,59],nI 0],[])⟩
theorem k45 : KA a45 := kst 30 (l := [a40,a43,a44]) (kac k40 (kac k43 (kac k44 ans_nil))) 120 (by kernel_rfl)
def l942 : LP := [sB [109,111,100,101,108,32,109,59,10,101,118,101,110,116,32,97,32,99,111,110,116,114,111,108,108,97,98,108,101,59,10,116,101,109,112,108,97,116,101,32,116,32,40,120,41,32,123,10,32,32,108,111,99,97,116,105,111,110,32,112,32,105,110,105,116,105,97,108,32,109,97,114,107,101,100,59,10,32,32,101,100,103,101,32,112,32,120,32,112,59,10,125,10,99,111,109,112,111,110,101,110,116,32,99,32,61,32,116,32,40,97,41,59,10],nI 0]
def a46 : Ans := ⟨58,[.sl false 5 l315],[],(.tuple l942,[])⟩
theorem k46 : KA a46 := kst 30 (l := [a45,a40]) (kac k45 (kac k40 ans_nil)) 120 (by kernel_rfl)
def a47 : Ans := ⟨17,[.agg l204],[],(.tuple l942,[])⟩
theorem k47 : KA a47 := kst 30 (l := [a34,a37,a46]) (kac k34 (kac k37 (kac k46 ans_nil))) 120 (by kernel_rfl)
def l943 : LP := [.ptr 1 0,nI 0,.sl false 1 [sB [110]]]
def l945 : LP := [nI 1,sB [110],nI 0,nI 1,nI 1]
def l947 : LP := [nI 3,sB [43],nI 0,nI 1,nI 3]
def l949 : LP := [nI 2,sB [49],nI 1,nI 1,nI 5]
def l951 : LP := [nI 3,sB [60],nI 0,nI 1,nI 7]
def l953 : LP := [nI 2,sB [51],nI 3,nI 1,nI 9]
def l954 : LP := nI 3 :: (sB [38,38] :: l478)
def l957 : LP := [nI 3,sB [33],nI 0,nI 1,nI 14]
def l965 : LP := [nI 2,sB [48],nI 0,nI 1,nI 21]
def l968 : LP := [nI 3,sB [41],nI 0,nI 1,nI 22]
def l969 : LP := [nI 0,nI 1,nI 23]
def l971 : LP := nI 4 :: sB [] :: l969
def l972 : LP := [.agg (nI 3 :: (sB [61,61] :: l2)),.agg l965,.agg l968,.agg l971]
def l973 : LP := .agg (nI 1 :: (sB [110] :: l114)) :: l972
def l974 : LP := .agg [nI 3,sB [40],nI 0,nI 1,nI 15] :: l973
def l975 : LP := .agg l957 :: l974
def l976 : LP := .agg l954 :: l975
def l977 : LP := .agg l953 :: l976
def l978 : LP := .agg l951 :: l977
def l979 : LP := .agg l949 :: l978
def l980 : LP := .agg l947 :: l979
def l982 : LP := [.sl false 5 (.agg l945 :: l980),nI 0,nI 0,nI 0]
def l983 : LP := [.sl false 5 l980,nI 0,nI 0,nI 0]
def a48 : Ans := ⟨254,[.ptr 0 0],[some l943,some l982],(.agg (nI 1 :: l151),[some l943,some l983])⟩
theorem k48 : KA a48 := kst 30 (l := []) ans_nil 120 (by kernel_rfl)
def a49 : Ans := ⟨196,[.ptr 0 0,nI 6],[some l943,some l982],(.agg (nI 1 :: l151),[some l943,some l983])⟩
theorem k49 : KA a49 := kst 30 (l := [a48]) (kac k48 ans_nil) 120 (by kernel_rfl)
def a50 : Ans := ⟨196,[.ptr 0 0,nI 5],[some l943,some l982],(.agg (nI 1 :: l151),[some l943,some l983])⟩
theorem k50 : KA a50 := kst 30 (l := [a49]) (kac k49 ans_nil) 120 (by kernel_rfl)
def l984 : LP := [.sl false 5 l979,nI 0,nI 0,nI 0]
def l986 : LP := [nI 0,nI 1,nI 0,.sl false 4 []]
def l987 : LP := [.sl false 5 l978,nI 0,nI 0,nI 0]
def a51 : Ans := ⟨196,[.ptr 0 0,nI 6],[some l943,some l984],(.agg l986,[some l943,some l987])⟩
theorem k51 : KA a51 := kst 30 (l := []) ans_nil 120 (by kernel_rfl)
def a52 : Ans := ⟨196,[.ptr 0 0,nI 5],[some l943,some l984],(.agg l986,[some l943,some l987])⟩
theorem k52 : KA a52 := kst 30 (l := [a51]) (kac k51 ans_nil) 120 (by kernel_rfl)
def l989 : LP := [nI 2,nI 0,nI 0,.sl false 4 [.agg (nI 1 :: l151),.agg l986]]
def a53 : Ans := ⟨196,[.ptr 0 0,nI 4],[some l943,some l982],(.agg l989,[some l943,some l987])⟩
theorem k53 : KA a53 := kst 30 (l := [a50,a52]) (kac k50 (kac k52 ans_nil)) 120 (by kernel_rfl)
def l990 : LP := [.sl false 5 l977,nI 0,nI 0,nI 0]
def l992 : LP := [nI 0,nI 3,nI 0,.sl false 4 []]
def l993 : LP := [.sl false 5 l976,nI 0,nI 0,nI 0]
def a54 : Ans := ⟨196,[.ptr 0 0,nI 6],[some l943,some l990],(.agg l992,[some l943,some l993])⟩
theorem k54 : KA a54 := kst 30 (l := []) ans_nil 120 (by kernel_rfl)
def a55 : Ans := ⟨196,[.ptr 0 0,nI 5],[some l943,some l990],(.agg l992,[some l943,some l993])⟩
theorem k55 : KA a55 := kst 30 (l := [a54]) (kac k54 ans_nil) 120 (by kernel_rfl)
def a56 : Ans := ⟨196,[.ptr 0 0,nI 4],[some l943,some l990],(.agg l992,[some l943,some l993])⟩
theorem k56 : KA a56 := kst 30 (l := [a55]) (kac k55 ans_nil) 120 (by kernel_rfl)
def l995 : LP := [nI 8,nI 0,nI 0,.sl false 4 [.agg l989,.agg l992]]
def a57 : Ans := ⟨196,[.ptr 0 0,nI 3],[some l943,some l982],(.agg l995,[some l943,some l993])⟩
theorem k57 : KA a57 := kst 30 (l := [a53,a56]) (kac k53 (kac k56 ans_nil)) 120 (by kernel_rfl)
def l996 : LP := [.ptr 1 0,nI 2,.sl false 1 [sB [110]]]
def l997 : LP := [.sl false 5 l973,nI 0,nI 0,nI 0]
def l998 : LP := [.sl false 5 l972,nI 0,nI 0,nI 0]
def a58 : Ans := ⟨254,[.ptr 0 0],[some l996,some l997],(.agg (nI 1 :: l151),[some l996,some l998])⟩
theorem k58 : KA a58 := kst 30 (l := []) ans_nil 120 (by kernel_rfl)
def a59 : Ans := ⟨196,[.ptr 0 0,nI 6],[some l996,some l997],(.agg (nI 1 :: l151),[some l996,some l998])⟩
theorem k59 : KA a59 := kst 30 (l := [a58]) (kac k58 ans_nil) 120 (by kernel_rfl)
def a60 : Ans := ⟨196,[.ptr 0 0,nI 5],[some l996,some l997],(.agg (nI 1 :: l151),[some l996,some l998])⟩
theorem k60 : KA a60 := kst 30 (l := [a59]) (kac k59 ans_nil) 120 (by kernel_rfl)
def a61 : Ans := ⟨196,[.ptr 0 0,nI 4],[some l996,some l997],(.agg (nI 1 :: l151),[some l996,some l998])⟩
theorem k61 : KA a61 := kst 30 (l := [a60]) (kac k60 ans_nil) 120 (by kernel_rfl)
def l999 : LP := [.sl false 5 [.agg l965,.agg l968,.agg l971],nI 0,nI 0,nI 0]
def l1000 : LP := [.sl false 5 [.agg l968,.agg l971],nI 0,nI 0,nI 0]
def a62 : Ans := ⟨196,[.ptr 0 0,nI 6],[some l996,some l999],(.agg l152,[some l996,some l1000])⟩
theorem k62 : KA a62 := kst 30 (l := []) ans_nil 120 (by kernel_rfl)
def a63 : Ans := ⟨196,[.ptr 0 0,nI 5],[some l996,some l999],(.agg l152,[some l996,some l1000])⟩
theorem k63 : KA a63 := kst 30 (l := [a62]) (kac k62 ans_nil) 120 (by kernel_rfl)
def a64 : Ans := ⟨196,[.ptr 0 0,nI 4],[some l996,some l999],(.agg l152,[some l996,some l1000])⟩
theorem k64 : KA a64 := kst 30 (l := [a63]) (kac k63 ans_nil) 120 (by kernel_rfl)
def l1002 : LP := [nI 6,nI 0,nI 0,.sl false 4 [.agg (nI 1 :: l151),.agg l152]]
def a65 : Ans := ⟨196,[.ptr 0 0,nI 3],[some l996,some l997],(.agg l1002,[some l996,some l1000])⟩
theorem k65 : KA a65 := kst 30 (l := [a61,a64]) (kac k61 (kac k64 ans_nil)) 120 (by kernel_rfl)
def a66 : Ans := ⟨196,[.ptr 0 0,nI 2],[some l996,some l997],(.agg l1002,[some l996,some l1000])⟩
theorem k66 : KA a66 := kst 30 (l := [a65]) (kac k65 ans_nil) 120 (by kernel_rfl)
def a67 : Ans := ⟨196,[.ptr 0 0,nI 1],[some l996,some l997],(.agg l1002,[some l996,some l1000])⟩
theorem k67 : KA a67 := kst 30 (l := [a66]) (kac k66 ans_nil) 120 (by kernel_rfl)
def a68 : Ans := ⟨102,[.ptr 0 0],[some l996,some l997],(.agg l1002,[some l996,some l1000])⟩
theorem k68 : KA a68 := kst 30 (l := [a67]) (kac k67 ans_nil) 120 (by kernel_rfl)
def l1003 : LP := [.ptr 2 0,nI 2,.sl false 1 [sB [110]]]
def l1004 : LP := [.sl false 5 [.agg l971],nI 0,nI 0,nI 0]
def a69 : Ans := ⟨310,[.ptr 0 0],[some [.ptr 1 0],some l1003,some l997],(.agg l1002,[some [.ptr 1 0],some l1003,some l1004])⟩
theorem k69 : KA a69 := kst 30 (l := [a68]) (kac k68 ans_nil) 120 (by kernel_rfl)
def l1006 : LP := [.ptr 2 0,nI 1,.sl false 1 [sB [110]]]
def l1007 : LP := [.sl false 5 l974,nI 0,nI 0,nI 0]
def a70 : Ans := ⟨307,[.ptr 0 0,.func (.func 310) [] [.ptr 1 0]],[some l1006,some [.ptr 0 0],some l1007],(.agg l1002,[some l1006,some [.ptr 0 0],some l1004])⟩
theorem k70 : KA a70 := kst 30 (l := [a69]) (kac k69 ans_nil) 120 (by kernel_rfl)
def l1008 : LP := [.ptr 1 0,nI 1,.sl false 1 [sB [110]]]
def a71 : Ans := ⟨254,[.ptr 0 0],[some l1008,some l1007],(.agg l1002,[some l1008,some l1004])⟩
theorem k71 : KA a71 := kst 30 (l := [a70]) (kac k70 ans_nil) 120 (by kernel_rfl)
def l1010 : LP := [nI 10,nI 0,nI 0,.sl false 4 [.agg l1002]]
def a72 : Ans := ⟨308,[.ptr 0 0],[some [.ptr 1 0],some l1006,some l1007],(.agg l1010,[some [.ptr 1 0],some l1006,some l1004])⟩
theorem k72 : KA a72 := kst 30 (l := [a71]) (kac k71 ans_nil) 120 (by kernel_rfl)
def l1012 : LP := [.ptr 2 0,nI 0,.sl false 1 [sB [110]]]
def l1013 : LP := [.sl false 5 l975,nI 0,nI 0,nI 0]
def a73 : Ans := ⟨307,[.ptr 0 0,.func (.func 308) [] [.ptr 1 0]],[some l1012,some [.ptr 0 0],some l1013],(.agg l1010,[some l1012,some [.ptr 0 0],some l1004])⟩
theorem k73 : KA a73 := kst 30 (l := [a72]) (kac k72 ans_nil) 120 (by kernel_rfl)
def a74 : Ans := ⟨254,[.ptr 0 0],[some l943,some l1013],(.agg l1010,[some l943,some l1004])⟩
theorem k74 : KA a74 := kst 30 (l := [a73]) (kac k73 ans_nil) 120 (by kernel_rfl)
def a75 : Ans := ⟨196,[.ptr 0 0,nI 6],[some l943,some l1013],(.agg l1010,[some l943,some l1004])⟩
theorem k75 : KA a75 := kst 30 (l := [a74]) (kac k74 ans_nil) 120 (by kernel_rfl)
def a76 : Ans := ⟨196,[.ptr 0 0,nI 5],[some l943,some l1013],(.agg l1010,[some l943,some l1004])⟩
theorem k76 : KA a76 := kst 30 (l := [a75]) (kac k75 ans_nil) 120 (by kernel_rfl)
def a77 : Ans := ⟨196,[.ptr 0 0,nI 4],[some l943,some l1013],(.agg l1010,[some l943,some l1004])⟩
theorem k77 : KA a77 := kst 30 (l := [a76]) (kac k76 ans_nil) 120 (by kernel_rfl)
def a78 : Ans := ⟨196,[.ptr 0 0,nI 3],[some l943,some l1013],(.agg l1010,[some l943,some l1004])⟩
theorem k78 : KA a78 := kst 30 (l := [a77]) (kac k77 ans_nil) 120 (by kernel_rfl)
def l1015 : LP := [nI 11,nI 0,nI 0,.sl false 4 [.agg l995,.agg l1010]]
def a79 : Ans := ⟨196,[.ptr 0 0,nI 2],[some l943,some l982],(.agg l1015,[some l943,some l1004])⟩
theorem k79 : KA a79 := kst 30 (l := [a57,a78]) (kac k57 (kac k78 ans_nil)) 120 (by kernel_rfl)
def a80 : Ans := ⟨196,[.ptr 0 0,nI 1],[some l943,some l982],(.agg l1015,[some l943,some l1004])⟩
theorem k80 : KA a80 := kst 30 (l := [a79]) (kac k79 ans_nil) 120 (by kernel_rfl)
def a81 : Ans := ⟨102,[.ptr 0 0],[some l943,some l982],(.agg l1015,[some l943,some l1004])⟩
theorem k81 : KA a81 := kst 30 (l := [a80]) (kac k80 ans_nil) 120 (by kernel_rfl)
def a82 : Ans := ⟨21,[.sl false 1 [sB [110]],sB [110,32,43,32,49,32,60,32,51,32,38,38,32,33,40,110,32,61,61,32,48,41]],[],(.tuple [.agg l1015,nI 0,nI 0,nI 0],[])⟩
theorem k82 : KA a82 := kst 30 (l := [a81]) (kac k81 ans_nil) 120 (by kernel_rfl)
def a83 : Ans := ⟨109,[.agg l1015,nI 1,nI 1,.ptr 0 0],[some [nI 0]],(nI 0,[some [nI 10]])⟩
theorem k83 : KA a83 := kst 30 (l := []) ans_nil 120 (by kernel_rfl)
def a84 : Ans := ⟨110,[.agg l995],[],(nI 2,[])⟩
theorem k84 : KA a84 := kst 30 (l := []) ans_nil 120 (by kernel_rfl)
def a85 : Ans := ⟨110,[.agg l1015],[],(nI 2,[])⟩
theorem k85 : KA a85 := kst 30 (l := [a84]) (kac k84 ans_nil) 120 (by kernel_rfl)
def a86 : Ans := ⟨27,[.agg l1015,nI 1],[],(.tuple [nI 2,nI 0],[])⟩
theorem k86 : KA a86 := kst 30 (l := [a83,a85]) (kac k83 (kac k85 ans_nil)) 120 (by kernel_rfl)
def l1023 : LP := [nI 1,sB [110],nI 0,nI 0,nI 0]
def l1025 : LP := [nI 3,sB [43],nI 0,nI 0,nI 0]
def l1027 : LP := [nI 2,sB [49],nI 1,nI 0,nI 0]
def l1028 : LP := [.sl true 5 [.agg l1023,.agg l1025,.agg l1027]]
def a87 : Ans := ⟨208,[nI 1,nI 5,.ptr 0 0,.cst (.sl false 1 [sB [110]]),.cst (.agg l989)],[some [.ptr 1 0],some [.sl true 5 [.agg l1023,.agg l1025]]],(.tuple [],[some [.ptr 1 0],some l1028])⟩
theorem k87 : KA a87 := kst 30 (l := []) ans_nil 120 (by kernel_rfl)
def a88 : Ans := ⟨113,[.ptr 0 0,.sl false 1 [sB [110]],.agg l989,nI 4],[some [.sl true 5 []]],(.tuple [],[some l1028])⟩
theorem k88 : KA a88 := kst 30 (l := [a87]) (kac k87 ans_nil) 120 (by kernel_rfl)
def l1032 : LP := [nI 4,.ptr 0 0,.cst (.sl false 1 [sB [110]]),.cst (.agg l995)]
def a89 : Ans := ⟨208,(nI 0 :: l1032),[some [.ptr 1 0],some [.sl true 5 []]],(.tuple [],[some [.ptr 1 0],some l1028])⟩
theorem k89 : KA a89 := kst 30 (l := [a88]) (kac k88 ans_nil) 120 (by kernel_rfl)
def l1035 : LP := [nI 3,sB [60],nI 0,nI 0,nI 0]
def l1038 : LP := [nI 2,sB [51],nI 3,nI 0,nI 0]
def l1040 : LP := [.agg l1023,.agg l1025,.agg l1027,.agg l1035,.agg l1038]
def a90 : Ans := ⟨208,(nI 1 :: l1032),[some [.ptr 1 0],some [.sl true 5 [.agg l1023,.agg l1025,.agg l1027,.agg l1035]]],(.tuple [],[some [.ptr 1 0],some [.sl true 5 l1040]])⟩
theorem k90 : KA a90 := kst 30 (l := []) ans_nil 120 (by kernel_rfl)
def a91 : Ans := ⟨113,[.ptr 0 0,.sl false 1 [sB [110]],.agg l995,nI 2],[some [.sl true 5 []]],(.tuple [],[some [.sl true 5 l1040]])⟩
theorem k91 : KA a91 := kst 30 (l := [a89,a90]) (kac k89 (kac k90 ans_nil)) 120 (by kernel_rfl)
def l1043 : LP := [.ptr 0 0,.cst (.sl false 1 [sB [110]]),.cst (.agg l1015)]
def a92 : Ans := ⟨208,(nI 0 :: nI 2 :: l1043),[some [.ptr 1 0],some [.sl true 5 []]],(.tuple [],[some [.ptr 1 0],some [.sl true 5 l1040]])⟩
theorem k92 : KA a92 := kst 30 (l := [a91]) (kac k91 ans_nil) 120 (by kernel_rfl)
def l1050 : LP := [nI 3,sB [38,38],nI 0,nI 0,nI 0]
def l1052 : LP := [nI 3,sB [33],nI 0,nI 0,nI 0]
def l1054 : LP := [nI 3,sB [61,61],nI 0,nI 0,nI 0]
def l1063 : LP := [nI 2,sB [48],nI 0,nI 0,nI 0]
def a93 : Ans := ⟨208,[nI 1,nI 4,.ptr 0 0,.cst (.sl false 1 [sB [110]]),.cst (.agg l1002)],[some [.ptr 1 0],some [.sl true 5 [.agg l1023,.agg l1025,.agg l1027,.agg l1035,.agg l1038,.agg l1050,.agg l1052,.agg l241,.agg l1023,.agg l1054]]],(.tuple [],[some [.ptr 1 0],some [.sl true 5 [.agg l1023,.agg l1025,.agg l1027,.agg l1035,.agg l1038,.agg l1050,.agg l1052,.agg l241,.agg l1023,.agg l1054,.agg l1063]]])⟩
theorem k93 : KA a93 := kst 30 (l := []) ans_nil 120 (by kernel_rfl)
def l1077 : LP := [.agg l1023,.agg l1025,.agg l1027,.agg l1035,.agg l1038,.agg l1050,.agg l1052]
def l1086 : LP := [.agg l1023,.agg l1025,.agg l1027,.agg l1035,.agg l1038,.agg l1050,.agg l1052,.agg l241,.agg l1023,.agg l1054,.agg l1063,.agg l245]
def a94 : Ans := ⟨113,[.ptr 0 0,.sl false 1 [sB [110]],.agg l1002,nI 6],[some [.sl true 5 l1077]],(.tuple [],[some [.sl true 5 l1086]])⟩
theorem k94 : KA a94 := kst 30 (l := [a93]) (kac k93 ans_nil) 120 (by kernel_rfl)
def a95 : Ans := ⟨208,[nI 0,nI 6,.ptr 0 0,.cst (.sl false 1 [sB [110]]),.cst (.agg l1010)],[some [.ptr 1 0],some [.sl true 5 l1077]],(.tuple [],[some [.ptr 1 0],some [.sl true 5 l1086]])⟩
theorem k95 : KA a95 := kst 30 (l := [a94]) (kac k94 ans_nil) 120 (by kernel_rfl)
def l1094 : LP := [.agg l1023,.agg l1025,.agg l1027,.agg l1035,.agg l1038,.agg l1050]
def a96 : Ans := ⟨113,[.ptr 0 0,.sl false 1 [sB [110]],.agg l1010,nI 3],[some [.sl true 5 l1094]],(.tuple [],[some [.sl true 5 l1086]])⟩
theorem k96 : KA a96 := kst 30 (l := [a95]) (kac k95 ans_nil) 120 (by kernel_rfl)
def a97 : Ans := ⟨208,(nI 1 :: (nI 3 :: l1043)),[some [.ptr 1 0],some [.sl true 5 l1094]],(.tuple [],[some [.ptr 1 0],some [.sl true 5 l1086]])⟩
theorem k97 : KA a97 := kst 30 (l := [a96]) (kac k96 ans_nil) 120 (by kernel_rfl)
def a98 : Ans := ⟨113,[.ptr 0 0,.sl false 1 [sB [110]],.agg l1015,nI 0],[some [.sl true 5 []]],(.tuple [],[some [.sl true 5 l1086]])⟩
theorem k98 : KA a98 := kst 30 (l := [a92,a97]) (kac k92 (kac k97 ans_nil)) 120 (by kernel_rfl)
def l1152 : LP := nI 1 :: sB [110] :: nI 0 :: nI 0 :: nI 0 :: nI 3 :: sB [43] :: nI 0 :: nI 0 :: nI 0 :: nI 2 :: sB [49] :: nI 1 :: nI 0 :: nI 0 :: nI 3 :: sB [60] :: nI 0 :: nI 0 :: nI 0 :: nI 2 :: sB [51] :: nI 3 :: nI 0 :: nI 0 :: nI 3 :: sB [38,38] :: nI 0 :: nI 0 :: nI 0 :: nI 3 :: sB [33] :: nI 0 :: nI 0 :: nI 0 :: nI 3 :: sB [40] :: nI 0 :: nI 0 :: nI 0 :: nI 1 :: sB [110] :: nI 0 :: nI 0 :: nI 0 :: nI 3 :: sB [61,61] :: nI 0 :: nI 0 :: nI 0 :: nI 2 :: sB [48] :: nI 0 :: nI 0 :: (nI 0 :: l245)
def a99 : Ans := ⟨244,[.slh 0 0 12 5,.func (.func 246) [] []],[some l1152],(.slh 0 0 12 5,[some l1152])⟩
theorem k99 : KA a99 := kst 30 (l := []) ans_nil 120 (by kernel_rfl)
def a100 : Ans := ⟨175,[.sl false 5 l1086],[],(.sl false 5 l1086,[])⟩
theorem k100 : KA a100 := kst 30 (l := [a99]) (kac k99 ans_nil) 120 (by kernel_rfl)
def l1153 : LP := nI 3 :: (sB [40] :: l114)
def l1154 : LP := nI 1 :: (sB [110] :: l2)
def l1157 : LP := [nI 3,sB [61,61],nI 0,nI 1,nI 20]
def l1158 : LP := nI 2 :: (sB [48] :: l969)
def l1161 : LP := [nI 3,sB [41],nI 0,nI 1,nI 25]
def l1164 : LP := [nI 4,sB [],nI 0,nI 1,nI 26]
def l1174 : LP := [.agg l945,.agg l947,.agg l949,.agg l951,.agg l953,.agg l954,.agg l957,.agg l1153,.agg l1154,.agg l1157,.agg l1158,.agg l1161,.agg l1164]
def a101 : Ans := ⟨299,[.sl false 5 l1174,.func (.func 246) [] []],[],(nI 12,[])⟩
theorem k101 : KA a101 := kst 30 (l := []) ans_nil 120 (by kernel_rfl)
def a102 : Ans := ⟨244,[.slh 0 0 13 5,.func (.func 246) [] []],[some (nI 1 :: sB [110] :: nI 0 :: nI 1 :: nI 1 :: nI 3 :: sB [43] :: nI 0 :: nI 1 :: nI 3 :: nI 2 :: sB [49] :: nI 1 :: nI 1 :: nI 5 :: nI 3 :: sB [60] :: nI 0 :: nI 1 :: nI 7 :: nI 2 :: sB [51] :: nI 3 :: nI 1 :: nI 9 :: nI 3 :: sB [38,38] :: nI 0 :: nI 1 :: nI 11 :: nI 3 :: sB [33] :: nI 0 :: nI 1 :: nI 14 :: nI 3 :: sB [40] :: nI 0 :: nI 1 :: nI 16 :: nI 1 :: sB [110] :: nI 0 :: nI 1 :: nI 18 :: nI 3 :: sB [61,61] :: nI 0 :: nI 1 :: nI 20 :: nI 2 :: sB [48] :: nI 0 :: nI 1 :: nI 23 :: nI 3 :: sB [41] :: nI 0 :: nI 1 :: (nI 25 :: l1164))],(.slh 0 0 12 5,[some (nI 1 :: sB [110] :: nI 0 :: nI 1 :: nI 1 :: nI 3 :: sB [43] :: nI 0 :: nI 1 :: nI 3 :: nI 2 :: sB [49] :: nI 1 :: nI 1 :: nI 5 :: nI 3 :: sB [60] :: nI 0 :: nI 1 :: nI 7 :: nI 2 :: sB [51] :: nI 3 :: nI 1 :: nI 9 :: nI 3 :: sB [38,38] :: nI 0 :: nI 1 :: nI 11 :: nI 3 :: sB [33] :: nI 0 :: nI 1 :: nI 14 :: nI 3 :: sB [40] :: nI 0 :: nI 1 :: nI 16 :: nI 1 :: sB [110] :: nI 0 :: nI 1 :: nI 18 :: nI 3 :: sB [61,61] :: nI 0 :: nI 1 :: nI 20 :: nI 2 :: sB [48] :: nI 0 :: nI 1 :: nI 23 :: nI 3 :: sB [41] :: nI 0 :: nI 1 :: (nI 25 :: l750))])⟩
theorem k102 : KA a102 := kst 30 (l := [a101]) (kac k101 ans_nil) 120 (by kernel_rfl)
def l1303 : LP := [.agg l945,.agg l947,.agg l949,.agg l951,.agg l953,.agg l954,.agg l957,.agg l1153,.agg l1154,.agg l1157,.agg l1158,.agg l1161]
def a103 : Ans := ⟨175,[.sl false 5 l1174],[],(.sl false 5 l1303,[])⟩
theorem k103 : KA a103 := kst 30 (l := [a102]) (kac k102 ans_nil) 120 (by kernel_rfl)
def a104 : Ans := ⟨209,[.sl false 5 l1303,.sl false 5 l1086,.func (.func 210) [] []],[],(.bool true,[])⟩
theorem k104 : KA a104 := kst 30 (l := []) ans_nil 120 (by kernel_rfl)
def l1305 : LP := [sB [110,32,43,32,49,32,60,32,51,32,38,38,32,33,32,40,32,110,32,61,61,32,48,32,41],nI 0]
def a105 : Ans := ⟨114,[.sl false 5 l1086],[],(.tuple l1305,[])⟩
theorem k105 : KA a105 := kst 30 (l := [a100,a103,a104]) (kac k100 (kac k103 (kac k104 ans_nil))) 120 (by kernel_rfl)
def a106 : Ans := ⟨28,[.sl false 1 [sB [110]],.agg l1015],[],(.tuple l1305,[])⟩
theorem k106 : KA a106 := kst 30 (l := [a86,a98,a105]) (kac k86 (kac k98 (kac k105 ans_nil))) 120 (by kernel_rfl)
def a107 : Ans := ⟨12,[],[],(.bool true,[])⟩
theorem k107 : KA a107 := kst 30 (l := [a35,a47,a82,a106]) (kac k35 (kac k47 (kac k82 (kac k106 ans_nil)))) 120 (by kernel_rfl)
end Go.Proofs.YtcdceiloganlnaaGreatDoor.W
