/- A part of the proof. -/
import Derived.Test.YtcdceiloganlnaaGreatDoorPl4
import Derived.Test.YtcdceiloganlnaaGreatDoorPl7
import Derived.Test.YtcdceiloganlnaaGreatDoorPl5
set_option linter.unusedVariables false
set_option linter.unusedSimpArgs false
set_option linter.unnecessarySimpa false
set_option linter.unusedSectionVars false
noncomputable section
open Go.IntKind (i64)
namespace Go.Proofs.YtcdceiloganlnaaGreatDoor.W
open Go.RowKit
set_option maxRecDepth 1000000
section
def aIV:KT:=SS.rK Tryz.f9 9 0 []
def bBI:KT:=SS.jK 9 87 0 (cS Tryz.f9 63) aIV
def bBJ:KT:=aj 0 bBI
def O3 (x1:Int) (x5:Int) (x19:Int) (x6:bSG) (x20:Int):R:=SS.LL (SS.ae 9 87) 0 [1,5,6,19,20] 0 (cS Tryz.f9 303) bBJ ⟨[(1,.int .u8 x1),(5,bSD x5),(6,.str x6),(19,bSD x19),(20,bSD x20)],[]⟩
def YN (x5:Int) (x9:Int) (x6:bSG):R:=bH (SS.xX 9 87 0) (cS Tryz.f9 255) aIV ⟨[(5,bSD x5),(6,.str x6),(9,bSD x9)],[]⟩
theorem aIW (x1:Int) (x5:Int) (x19:Int) (x6:bSG) (x20:Int):O3 x1 x5 x19 x6 x20=aA (decide (x20<x19)) (G2 35 [bSD x20] fun s1=>chk (decide ((⟨#[116,101,109,112,108,97,116,101,32,97]⟩:bSG).size+s1.size<=aQ)) (chk (decide (((⟨#[116,101,109,112,108,97,116,101,32,97]⟩:bSG) ++ s1).size+(⟨#[40,41,32,123,125,10]⟩:bSG).size<=aQ)) (chk (decide ((⟨#[99,111,109,112,111,110,101,110,116,32,97]⟩:bSG).size+s1.size<=aQ)) (chk (decide (((⟨#[99,111,109,112,111,110,101,110,116,32,97]⟩:bSG) ++ s1).size+(⟨#[32,61,32,116,40,41,59,10]⟩:bSG).size<=aQ)) (chk (decide ((⟨#[114,101,113,117,105,114,101,109,101,110,116,32,97]⟩:bSG).size+s1.size<=aQ)) (chk (decide (((⟨#[114,101,113,117,105,114,101,109,101,110,116,32,97]⟩:bSG) ++ s1).size+(⟨#[32,61,32,116,40,41,59,10]⟩:bSG).size<=aQ)) (chk (decide ((⟨#[101,120,99,108,117,100,101,32,97]⟩:bSG).size+s1.size<=aQ)) (chk (decide (((⟨#[101,120,99,108,117,100,101,32,97]⟩:bSG) ++ s1).size+(⟨#[58,32,99,32,108,59,10]⟩:bSG).size<=aQ)) (chk (decide ((⟨#[108,105,109,105,116,32,97]⟩:bSG).size+s1.size<=aQ)) (chk (decide (((⟨#[108,105,109,105,116,32,97]⟩:bSG) ++ s1).size+(⟨#[58,32,49,32,42,32,99,32,60,61,32,48,59,10]⟩:bSG).size<=aQ)) (dQ [.str (((⟨#[116,101,109,112,108,97,116,101,32,97]⟩:bSG) ++ s1) ++ (⟨#[40,41,32,123,125,10]⟩:bSG)),.str (((⟨#[99,111,109,112,111,110,101,110,116,32,97]⟩:bSG) ++ s1) ++ (⟨#[32,61,32,116,40,41,59,10]⟩:bSG)),.str (((⟨#[114,101,113,117,105,114,101,109,101,110,116,32,97]⟩:bSG) ++ s1) ++ (⟨#[32,61,32,116,40,41,59,10]⟩:bSG)),.str (((⟨#[101,120,99,108,117,100,101,32,97]⟩:bSG) ++ s1) ++ (⟨#[58,32,99,32,108,59,10]⟩:bSG)),.str (((⟨#[108,105,109,105,116,32,97]⟩:bSG) ++ s1) ++ (⟨#[58,32,49,32,42,32,99,32,60,61,32,48,59,10]⟩:bSG))] (Int.tmod x1 5) fun e3=>vS e3 fun s4=>chk (decide (x6.size+s4.size<=aQ)) (O3 x1 x5 x19 (x6 ++ s4) (i64.wrap (x20+1)))))))))))))) (aA ((Int.tmod x1 5)==0) (YN x5 16 x6) (YN x5 32 x6)):=ll
theorem bBH (x5:Int) (x9:Int) (x6:bSG):YN x5 x9 x6=G9 36 [.str x6] fun u1=>aA (decide (x9<x5)) (aA (u1.2.2.2.1.1==3) (aA (u1.2.1.1==(i64.wrap (x9+2))) (some (.bool (u1.2.2.1.1==1),[])) (some (.bool false,[]))) (some (.bool false,[]))) (aA (u1.2.2.2.1.1==0) (aA (u1.2.1.1==0) (aA (u1.2.2.1.1==0) (G3 31 [.str x6] fun b12=>some (.bool b12,[])) (some (.bool false,[]))) (some (.bool false,[]))) (some (.bool false,[]))):=by kernel_rfl
theorem bBK (a0:Int) (a1:Int):SS.CC 9 [.int .u8 a0,.int .u8 a1] []=G3 12 [] fun b1=>aA (!b1) (some (.bool false,[])) (O3 a1 (i64.wrap (Int.tmod a0 41)) (i64.wrap (Int.tmod a0 41)) ⟨#[109,111,100,101,108,32,109,59,10]⟩ 0):=cc
theorem b65 (a0:bSG):SS.CC 31 [.str a0] []=G9 36 [.str a0] fun u1=>G9 122 [.str a0] fun u12=>G10 40 [.str a0] fun u23=>aA (u1.2.2.2.1.1 != u12.2.2.2.1.1) (some (.bool false,[])) (aA (u1.2.1.1 != u12.2.1.1) (some (.bool false,[])) (aA (u1.2.2.1.1 != u12.2.2.1.1) (some (.bool false,[])) (G3 37 [A0 u1.1,A0 u12.1] fun b28=>aA (!b28) (some (.bool false,[])) (aA (u12.2.2.2.1.1 != 0) (aA (u23.1.1.toList==(⟨#[]⟩:bSG).toList) (aA (u23.2.1.1==u12.2.1.1) (aA (u23.2.2.1.1==u12.2.2.1.1) (some (.bool (u23.2.2.2.1.1==u12.2.2.2.1.1),[])) (some (.bool false,[]))) (some (.bool false,[]))) (some (.bool false,[]))) (aA (u23.2.2.2.1.1==0) (aA (u23.2.1.1==0) (aA (u23.2.2.1.1==0) (G2 19 [A0 u12.1] fun s30=>some (.bool (u23.1.1.toList==s30.toList),[])) (some (.bool false,[]))) (some (.bool false,[]))) (some (.bool false,[]))))))):=cc
def a3T:KT:=SS.rK Tryz.f36 36 0 []
def b6K:KT:=SS.jK 36 65 0 (cS Tryz.f36 127) a3T
def b6L:KT:=aj 0 b6K
def Hq (q0:Sh.V jS) (q1:Sh.V aH) (q2:Sh.V jI):R:=SS.LL (SS.ae 36 65) 0 [2,6] 3 (cS Tryz.f36 287) b6L ⟨[(2,bSF),(6,.ptr 2 0)],[bZ q0,aB q1,kE q2]⟩
def a3S (q0:Sh.V jS) (q1:Sh.V aH) (q2:Sh.V jI):R:=bH (SS.xX 36 65 0) (cS Tryz.f36 127) a3T ⟨[(2,bSF),(6,.ptr 2 0)],[bZ q0,aB q1,kE q2]⟩
def a3R (q0:Sh.V jS) (q1:Sh.V aH) (q2:Sh.V jI):R:=bH (SS.xX 36 65 0) (cS Tryz.f36 255) a3T ⟨[(2,bSF),(6,.ptr 2 0)],[bZ q0,aB q1,kE q2]⟩
theorem Y1 (q0:Sh.V jS) (q1:Sh.V aH) (q2:Sh.V jI):Hq q0 q1 q2=Qa 130 [bSF] [kE q2,aB q1] fun b1 u2 u4=>aA b1 (nH 131 [bSF] [aB u4] fun u10 u15=>aA (u10.1 != 4) (J9 132 [bSF,.ptr 1 0] [fB u2,bZ q0,aB u15] fun _ u21 u23 u30=>Hq u23 u30 u21) (a3S q0 u15 u2)) (a3S q0 u4 u2):=ll
theorem aHG (q0:Sh.V jS) (q1:Sh.V aH) (q2:Sh.V jI):a3S q0 q1 q2=Qa 130 [bSF] [kE q2,aB q1] fun b1 u2 u4=>aA b1 (G1 18 [A0 q0] fun n10=>cO 133 [bSF,bSD n10] [aB u4] fun _ u12=>a3R q0 u12 u2) (a3R q0 u4 u2):=by kernel_rfl
theorem aHF (q0:Sh.V jS) (q1:Sh.V aH) (q2:Sh.V jI):a3R q0 q1 q2=QZ 104 [bSF] [aB q1] fun u1 u4=>aA (u1.2.2.1.1 != 0) (some (.tuple [A0 (⟨#[]⟩,[],[],[],[],[],[],()),bSD u1.1.1,bSD u1.2.1.1,bSD u1.2.2.1.1],[])) (some (.tuple [A0 q0,bSD 0,bSD 0,bSD 0],[])):=by kernel_rfl
theorem b6M (a0:bSG):SS.CC 36 [.str a0] []=H14 100 [.str a0] [] fun u1=>cO 128 [bSF,.str ⟨#[109,111,100,101,108]⟩] [aB u1] fun _ u7=>sJ 129 [bSF] [aB u7] fun s13 u14=>cO 128 [bSF,.str ⟨#[59]⟩] [aB u14] fun _ u20=>Hq (s13,[],[],[],[],[],[],()) u20 (0,[],()):=cc
theorem b6N (a0:Sh.V S0) (a1:Sh.V S0):SS.CC 37 [A0 a0,A0 a1] []=aA (a0.1.toList==a1.1.toList) (G3 143 [.sl false 5 a0.2.1,.sl false 5 a1.2.1] fun b1=>aA b1 (H27 144 [.sl false 9 a0.2.2.1,.sl false 9 a1.2.2.1,.func (.func 137) [] [bSF]] [some [.func (.func 134) [] []]] fun b3=>aA b3 (G3 145 [.sl false 3 a0.2.2.2.1,.sl false 3 a1.2.2.2.1,.func (.func 142) [] []] fun b6=>aA b6 (G3 145 [.sl false 3 a0.2.2.2.2.1,.sl false 3 a1.2.2.2.2.1,.func (.func 142) [] []] fun b8=>aA b8 (G3 146 [.sl false 2 a0.2.2.2.2.2.1,.sl false 2 a1.2.2.2.2.2.1,.func (.func 147) [] []] fun b10=>aA b10 (G3 149 [.sl false 3 a0.2.2.2.2.2.2.1,.sl false 3 a1.2.2.2.2.2.2.1,.func (.func 150) [] []] fun b12=>some (.bool b12,[])) (some (.bool false,[]))) (some (.bool false,[]))) (some (.bool false,[]))) (some (.bool false,[]))) (some (.bool false,[]))) (some (.bool false,[])):=cc
theorem b6O (a0:bSG):SS.CC 40 [.str a0] []=G9 36 [.str a0] fun u1=>aA (u1.2.2.2.1.1 != 0) (some (.tuple [.str ⟨#[]⟩,bSD u1.2.1.1,bSD u1.2.2.1.1,bSD u1.2.2.2.1.1],[])) (G0 17 [A0 u1.1] fun u12=>aA (u12.2.1.1 != 0) (some (.tuple [.str ⟨#[]⟩,bSD 1,bSD 1,bSD u12.2.1.1],[])) (some (.tuple [.str u12.1.1,bSD 0,bSD 0,bSD 0],[]))):=cc
def b92:KT:=SS.rK Tryz.f59 59 0 []
def b94:KT:=SS.jK 59 22 0 (cS Tryz.f59 15) b92
def b95:KT:=aj 0 b94
def Y9 (x8:bSH) (x5:bSH) (x10:Int):R:=SS.LL (SS.ae 59 22) 0 [1,5,8,9,10] 0 (cS Tryz.f59 75) b95 ⟨[(1,.func (.func 283) [] []),(5,.sl true 1 x5),(8,.sl false 3 x8),(9,bSD (x8.length:Int)),(10,bSD x10)],[]⟩
theorem aIH (x8:bSH) (x5:bSH) (x10:Int):Y9 x8 x5 x10=aA (decide (x10<(x8.length:Int))) (bD S8 x8 x10 fun u2=>G2 283 [A8 u2] fun s5=>chk (decide (x5.length+1<=aQ)) (Y9 x8 (x5 ++ ([.str s5]:bSH)) (i64.wrap (x10+1)))) (some (bSE x5,[])):=ll
theorem b96 (a0:bSH):SS.CC 59 [.sl false 3 a0,.func (.func 283) [] []] []=Y9 a0 [] 0:=cc
def b9C:KT:=SS.rK Tryz.f61 61 0 []
def b9D:KT:=SS.jK 61 22 0 (cS Tryz.f61 15) b9C
def b9E:KT:=aj 0 b9D
def YB (x8:bSH) (x5:bSH) (x10:Int):R:=SS.LL (SS.ae 61 22) 0 [1,5,8,9,10] 0 (cS Tryz.f61 75) b9E ⟨[(1,.func (.func 277) [] []),(5,.sl true 1 x5),(8,.sl false 9 x8),(9,bSD (x8.length:Int)),(10,bSD x10)],[]⟩
theorem aIJ (x8:bSH) (x5:bSH) (x10:Int):YB x8 x5 x10=aA (decide (x10<(x8.length:Int))) (bD S5 x8 x10 fun u2=>G2 277 [A5 u2] fun s11=>chk (decide (x5.length+1<=aQ)) (YB x8 (x5 ++ ([.str s11]:bSH)) (i64.wrap (x10+1)))) (some (bSE x5,[])):=ll
theorem b9F (a0:bSH):SS.CC 61 [.sl false 9 a0,.func (.func 277) [] []] []=YB a0 [] 0:=cc
def b9L:KT:=SS.rK Tryz.f63 63 0 []
def b9M:KT:=SS.jK 63 22 0 (cS Tryz.f63 15) b9L
def b9N:KT:=aj 0 b9M
def YE (x8:bSH) (x5:bSH) (x10:Int):R:=SS.LL (SS.ae 63 22) 0 [1,5,8,9,10] 0 (cS Tryz.f63 75) b9N ⟨[(1,.func (.func 285) [] []),(5,.sl true 1 x5),(8,.sl false 2 x8),(9,bSD (x8.length:Int)),(10,bSD x10)],[]⟩
theorem aIL (x8:bSH) (x5:bSH) (x10:Int):YE x8 x5 x10=aA (decide (x10<(x8.length:Int))) (bD je x8 x10 fun u2=>G2 285 [zB u2] fun s4=>chk (decide (x5.length+1<=aQ)) (YE x8 (x5 ++ ([.str s4]:bSH)) (i64.wrap (x10+1)))) (some (bSE x5,[])):=ll
theorem b9O (a0:bSH):SS.CC 63 [.sl false 2 a0,.func (.func 285) [] []] []=YE a0 [] 0:=cc
def b9U:KT:=SS.rK Tryz.f65 65 0 []
def b9V:KT:=SS.jK 65 22 0 (cS Tryz.f65 15) b9U
def b9W:KT:=aj 0 b9V
def YG (x8:bSH) (x5:bSH) (x10:Int):R:=SS.LL (SS.ae 65 22) 0 [1,5,8,9,10] 0 (cS Tryz.f65 75) b9W ⟨[(1,.func (.func 288) [] []),(5,.sl true 1 x5),(8,.sl false 3 x8),(9,bSD (x8.length:Int)),(10,bSD x10)],[]⟩
theorem aIN (x8:bSH) (x5:bSH) (x10:Int):YG x8 x5 x10=aA (decide (x10<(x8.length:Int))) (bD iW x8 x10 fun u2=>G2 288 [uT u2] fun s5=>chk (decide (x5.length+1<=aQ)) (YG x8 (x5 ++ ([.str s5]:bSH)) (i64.wrap (x10+1)))) (some (bSE x5,[])):=ll
theorem b9X (a0:bSH):SS.CC 65 [.sl false 3 a0,.func (.func 288) [] []] []=YG a0 [] 0:=cc
def a2I:KT:=SS.rK Tryz.f122 122 0 []
def aXH:KT:=SS.jK 122 79 0 (cS Tryz.f122 127) a2I
def aXI:KT:=aj 0 aXH
def JW (q1:Sh.V aH) (q2:Sh.V dA):R:=SS.LL (SS.ae 122 79) 0 [2,6] 3 (cS Tryz.f122 287) aXI ⟨[(2,bSF),(6,.ptr 2 0)],[bZ (⟨#[]⟩,[],[],[],[],[],[],()),aB q1,bP q2]⟩
def a2H (q1:Sh.V aH) (q2:Sh.V dA):R:=bH (SS.xX 122 79 0) (cS Tryz.f122 127) a2I ⟨[(2,bSF),(6,.ptr 2 0)],[bZ (⟨#[]⟩,[],[],[],[],[],[],()),aB q1,bP q2]⟩
def a2G (q1:Sh.V aH) (q2:Sh.V dA):R:=bH (SS.xX 122 79 0) (cS Tryz.f122 255) a2I ⟨[(2,bSF),(6,.ptr 2 0)],[bZ (⟨#[]⟩,[],[],[],[],[],[],()),aB q1,bP q2]⟩
theorem aF2 (q1:Sh.V aH) (q2:Sh.V dA):JW q1 q2=Qc 214 [bSF] [bP q2,aB q1] fun b1 u2 u11=>aA (!b1) (nH 131 [bSF] [aB u11] fun yc u22=>aA (yc.1 != 4) (ML 215 [bSF] [bP u2,aB u22] fun _ u28 u37=>JW u37 u28) (a2H u22 u2)) (a2H u11 u2):=ll
theorem aXG (q1:Sh.V aH) (q2:Sh.V dA):a2H q1 q2=Qc 214 [bSF] [bP q2,aB q1] fun b1 u2 u11=>aA (!b1) (G1 14 [A0 (u2.1,u2.2.1,u2.2.2.1,u2.2.2.2.1,u2.2.2.2.2.1,u2.2.2.2.2.2.1,u2.2.2.2.2.2.2.1,())] fun n17=>cO 133 [bSF,bSD n17] [aB u11] fun _ GR=>a2G GR u2) (a2G u11 u2):=by kernel_rfl
theorem aXF (q1:Sh.V aH) (q2:Sh.V dA):a2G q1 q2=QZ 104 [bSF] [aB q1] fun u1 u4=>aA (u1.2.2.1.1 != 0) (some (.tuple [A0 (⟨#[]⟩,[],[],[],[],[],[],()),bSD u1.1.1,bSD u1.2.1.1,bSD u1.2.2.1.1],[])) (some (.tuple [A0 (q2.1,q2.2.1,q2.2.2.1,q2.2.2.2.1,q2.2.2.2.2.1,q2.2.2.2.2.2.1,q2.2.2.2.2.2.2.1,()),bSD 0,bSD 0,bSD 0],[])):=by kernel_rfl
theorem aXJ (a0:bSG):SS.CC 122 [.str a0] []=H14 100 [.str a0] [] fun u1=>cO 128 [bSF,.str ⟨#[109,111,100,101,108]⟩] [aB u1] fun _ u7=>sJ 129 [bSF] [aB u7] fun s13 u14=>cO 128 [bSF,.str ⟨#[59]⟩] [aB u14] fun _ u20=>JW u20 (s13,[],[],[],[],[],[],[],0,()):=cc
theorem aF3 (h0:Sh.V jI) (h1:Sh.V aH):SS.CC 130 [bSF] [kE h0,aB h1]=QZ 104 [bSF] [aB h1] fun u1 u4=>some (.bool (u1.2.2.1.1==0),[kE h0,aB u4]):=cc
theorem aF4 (h0:Sh.V jv) (h1:Sh.V jS) (h2:Sh.V aH):SS.CC 132 [bSF,.ptr 1 0] [fB h0,bZ h1,aB h2]=nH 131 [bSF] [aB h2] fun u1 u6=>aA (u1.2.1.data.toList==(⟨#[99,111,109,112,111,110,101,110,116]⟩:bSG).data.toList) (aA (u1.1 != 1) (cO 133 [bSF,bSD 14] [aB u6] fun _ u208=>some (.tuple [],[fB h0,bZ h1,aB u208])) (aA (decide (32<=(h1.2.2.2.1.length:Int))) (cO 133 [bSF,bSD 3] [aB u6] fun _ bNX=>some (.tuple [],[fB h0,bZ h1,aB bNX])) (nH 220 [bSF] [aB u6] fun bRU aAT=>JB 225 [bSF,.ptr 1 0] [some [.ptr 2 0],some [.ptr 3 0],mD h0,bZ h1,aB aAT] fun _ aAU bO0 aAV=>some (.tuple [],[fB aAU,bZ bO0,aB aAV])))) (aA (u1.2.1.data.toList==(⟨#[101,118,101,110,116]⟩:bSG).data.toList) (aA (u1.1 != 1) (cO 133 [bSF,bSD 14] [aB u6] fun _ bNQ=>some (.tuple [],[fB h0,bZ h1,aB bNQ])) (nH 220 [bSF] [aB u6] fun aAO bNT=>JB 221 [bSF,.ptr 1 0] [some [.ptr 2 0],some [.ptr 3 0],mD h0,bZ h1,aB bNT] fun _ u193 aAP bNV=>some (.tuple [],[fB u193,bZ aAP,aB bNV]))) (aA (u1.2.1.data.toList==(⟨#[101,120,99,108,117,100,101]⟩:bSG).data.toList) (aA (u1.1 != 1) (cO 133 [bSF,bSD 14] [aB u6] fun _ u138=>some (.tuple [],[fB h0,bZ h1,aB u138])) (aA (decide (32<=(h1.2.2.2.2.2.1.length:Int))) (cO 133 [bSF,bSD 3] [aB u6] fun _ Il=>some (.tuple [],[fB h0,bZ h1,aB Il])) (nH 220 [bSF] [aB u6] fun Zy bNK=>JB 228 [bSF,.ptr 1 0] [some [.ptr 2 0],some [.ptr 3 0],mD h0,bZ h1,aB bNK] fun _ bNL bNM bNO=>some (.tuple [],[fB bNL,bZ bNM,aB bNO])))) (aA (u1.2.1.data.toList==(⟨#[108,105,109,105,116]⟩:bSG).data.toList) (aA (u1.1 != 1) (cO 133 [bSF,bSD 14] [aB u6] fun _ V3=>some (.tuple [],[fB h0,bZ h1,aB V3])) (aA (decide (32<=(h1.2.2.2.2.2.2.1.length:Int))) (cO 133 [bSF,bSD 3] [aB u6] fun _ bNG=>some (.tuple [],[fB h0,bZ h1,aB bNG])) (nH 220 [bSF] [aB u6] fun bRT GN=>JB 230 [bSF,.ptr 1 0] [some [.ptr 2 0],some [.ptr 3 0],mD h0,bZ h1,aB GN] fun _ LU yZ V5=>some (.tuple [],[fB LU,bZ yZ,aB V5])))) (aA (u1.2.1.data.toList==(⟨#[114,101,113,117,105,114,101,109,101,110,116]⟩:bSG).data.toList) (aA (u1.1 != 1) (cO 133 [bSF,bSD 14] [aB u6] fun _ u62=>some (.tuple [],[fB h0,bZ h1,aB u62])) (aA (decide (32<=(h1.2.2.2.2.1.length:Int))) (cO 133 [bSF,bSD 3] [aB u6] fun _ u68=>some (.tuple [],[fB h0,bZ h1,aB u68])) (nH 220 [bSF] [aB u6] fun u74 u79=>JB 227 [bSF,.ptr 1 0] [some [.ptr 2 0],some [.ptr 3 0],mD h0,bZ h1,aB u79] fun _ u85 dH V7=>some (.tuple [],[fB u85,bZ dH,aB V7])))) (aA (u1.2.1.data.toList==(⟨#[116,101,109,112,108,97,116,101]⟩:bSG).data.toList) (aA (u1.1 != 1) (cO 133 [bSF,bSD 14] [aB u6] fun _ u24=>some (.tuple [],[fB h0,bZ h1,aB u24])) (aA (decide (16<=(h1.2.2.1.length:Int))) (cO 133 [bSF,bSD 3] [aB u6] fun _ u30=>some (.tuple [],[fB h0,bZ h1,aB u30])) (nH 220 [bSF] [aB u6] fun u36 xx=>JB 223 [bSF,.ptr 1 0] [some [.ptr 2 0],some [.ptr 3 0],mD h0,bZ h1,aB xx] fun _ zu u49 u56=>some (.tuple [],[fB zu,bZ u49,aB u56])))) (aA (u1.1 != 1) (cO 133 [bSF,bSD 14] [aB u6] fun _ u12=>some (.tuple [],[fB h0,bZ h1,aB u12])) (cO 133 [bSF,bSD 14] [aB u6] fun _ pJ=>some (.tuple [],[fB h0,bZ h1,aB pJ])))))))):=cc
theorem aXO (a0:Sh.V S5) (a1:Sh.V S5):SS.CC 137 [A5 a0,A5 a1,bSF] [some [.func (.func 134) [] []]]=sK fun ag=>ag 1 (aA (a0.1.toList==a1.1.toList) (G3 138 [bSE a0.2.1,bSE a1.2.1] fun b1=>aA b1 (G3 138 [bSE a0.2.2.1,bSE a1.2.2.1] fun b3=>aA b3 (G3 139 [bSE a0.2.2.2.1,bSE a1.2.2.2.1] fun b5=>aA b5 (aA (a0.2.2.2.2.1==a1.2.2.2.2.1) (aA (a0.2.2.2.2.2.1==a1.2.2.2.2.2.1) (G3 139 [bSE a0.2.2.2.2.2.2.1,bSE a1.2.2.2.2.2.2.1] fun b7=>aA b7 (G3 140 [.sl false 4 a0.2.2.2.2.2.2.2.1,.sl false 4 a1.2.2.2.2.2.2.2.1] fun b9=>aA b9 (G3 141 [.sl false 8 a0.2.2.2.2.2.2.2.2.1,.sl false 8 a1.2.2.2.2.2.2.2.2.1,.func (.func 134) [] []] fun b11=>some (.bool b11,[some [.func (.func 134) [] []]])) (some (.bool false,[some [.func (.func 134) [] []]]))) (some (.bool false,[some [.func (.func 134) [] []]]))) (some (.bool false,[some [.func (.func 134) [] []]]))) (some (.bool false,[some [.func (.func 134) [] []]]))) (some (.bool false,[some [.func (.func 134) [] []]]))) (some (.bool false,[some [.func (.func 134) [] []]]))) (some (.bool false,[some [.func (.func 134) [] []]]))) (some (.bool false,[some [.func (.func 134) [] []]]))):=Et cc
def aXP:KT:=SS.rK Tryz.f138 138 0 []
def aXQ:KT:=SS.jK 138 26 0 (cS Tryz.f138 15) aXP
def aXR:KT:=aj 0 aXQ
def a2J (x0:bSH) (x1:bSH) (gz:Int):R:=SS.LL (SS.ae 138 26) 0 [0,1,12,13] 0 (cS Tryz.f138 75) aXR ⟨[(0,bSE x0),(1,bSE x1),(12,bSD (x0.length:Int)),(13,bSD gz)],[]⟩
theorem aXS (x0:bSH) (x1:bSH) (gz:Int):a2J x0 x1 gz=aA (decide (gz<(x0.length:Int))) (dQ x0 gz fun e1=>vS e1 fun s2=>dQ x1 gz fun e3=>vS e3 fun s4=>aA (!(s2.toList==s4.toList)) (some (.bool false,[])) (a2J x0 x1 (i64.wrap (gz+1)))) (some (.bool true,[])):=ll
theorem aXT (a0:bSH) (a1:bSH):SS.CC 138 [bSE a0,bSE a1] []=aA ((a0.length:Int) !=(a1.length:Int)) (some (.bool false,[])) (a2J a0 a1 0):=cc
def aXX:KT:=SS.rK Tryz.f140 140 0 []
def aXY:KT:=SS.jK 140 26 0 (cS Tryz.f140 15) aXX
def aXZ:KT:=aj 0 aXY
def a2L (x0:bSH) (x1:bSH) (gz:Int):R:=SS.LL (SS.ae 140 26) 0 [0,1,12,13] 0 (cS Tryz.f140 75) aXZ ⟨[(0,.sl false 4 x0),(1,.sl false 4 x1),(12,bSD (x0.length:Int)),(13,bSD gz)],[]⟩
theorem aX' (x0:bSH) (x1:bSH) (gz:Int):a2L x0 x1 gz=aA (decide (gz<(x0.length:Int))) (bD S7 x0 gz fun u2=>bD S7 x1 gz fun u7=>aA (!((u2.1.toList==u7.1.toList)&&((u2.2.1==u7.2.1)&&((u2.2.2.1==u7.2.2.1)&&((u2.2.2.2.1==u7.2.2.2.1)&&true))))) (some (.bool false,[])) (a2L x0 x1 (i64.wrap (gz+1)))) (some (.bool true,[])):=ll
theorem aY0 (a0:bSH) (a1:bSH):SS.CC 140 [.sl false 4 a0,.sl false 4 a1] []=aA ((a0.length:Int) !=(a1.length:Int)) (some (.bool false,[])) (a2L a0 a1 0):=cc
def aY1:KT:=SS.rK Tryz.f141 141 0 []
def aY2:KT:=SS.jK 141 32 0 (cS Tryz.f141 15) aY1
def aY3:KT:=aj 0 aY2
def a2M (x1:bSH) (x15:bSH) (x17:Int):R:=SS.LL (SS.ae 141 32) 0 [1,2,15,16,17] 0 (cS Tryz.f141 75) aY3 ⟨[(1,.sl false 8 x1),(2,.func (.func 134) [] []),(15,.sl false 8 x15),(16,bSD (x15.length:Int)),(17,bSD x17)],[]⟩
theorem aY4 (x1:bSH) (x15:bSH) (x17:Int):a2M x1 x15 x17=aA (decide (x17<(x15.length:Int))) (bD S9 x15 x17 fun u2=>bD S9 x1 x17 fun u11=>G3 134 [A9 u2,A9 u11] fun b19=>aA (!b19) (some (.bool false,[])) (a2M x1 x15 (i64.wrap (x17+1)))) (some (.bool true,[])):=ll
theorem aY5 (a0:bSH) (a1:bSH):SS.CC 141 [.sl false 8 a0,.sl false 8 a1,.func (.func 134) [] []] []=aA ((a0.length:Int) !=(a1.length:Int)) (some (.bool false,[])) (a2M a1 a0 0):=cc
theorem aY6 (a0:Sh.V S8) (a1:Sh.V S8):SS.CC 142 [A8 a0,A8 a1] []=aA (a0.1.toList==a1.1.toList) (aA (a0.2.1.toList==a1.2.1.toList) (G3 138 [bSE a0.2.2.1,bSE a1.2.2.1] fun b1=>some (.bool b1,[])) (some (.bool false,[]))) (some (.bool false,[])):=cc
def aY7:KT:=SS.rK Tryz.f143 143 0 []
def aY8:KT:=SS.jK 143 26 0 (cS Tryz.f143 15) aY7
def aY9:KT:=aj 0 aY8
def a2N (x0:bSH) (x1:bSH) (gz:Int):R:=SS.LL (SS.ae 143 26) 0 [0,1,12,13] 0 (cS Tryz.f143 75) aY9 ⟨[(0,.sl false 5 x0),(1,.sl false 5 x1),(12,bSD (x0.length:Int)),(13,bSD gz)],[]⟩
theorem aYA (x0:bSH) (x1:bSH) (gz:Int):a2N x0 x1 gz=aA (decide (gz<(x0.length:Int))) (bD S4 x0 gz fun u2=>bD S4 x1 gz fun u8=>aA (!((u2.1.toList==u8.1.toList)&&((u2.2.1==u8.2.1)&&((u2.2.2.1==u8.2.2.1)&&((u2.2.2.2.1==u8.2.2.2.1)&&((u2.2.2.2.2.1==u8.2.2.2.2.1)&&true)))))) (some (.bool false,[])) (a2N x0 x1 (i64.wrap (gz+1)))) (some (.bool true,[])):=ll
theorem aYB (a0:bSH) (a1:bSH):SS.CC 143 [.sl false 5 a0,.sl false 5 a1] []=aA ((a0.length:Int) !=(a1.length:Int)) (some (.bool false,[])) (a2N a0 a1 0):=cc
def aYC:KT:=SS.rK Tryz.f144 144 1 []
def aYD:KT:=SS.jK 144 32 1 (cS Tryz.f144 15) aYC
def aYE:KT:=aj 0 aYD
def XW (x1:bSH) (x15:bSH) (x17:Int):R:=SS.LL (SS.ae 144 32) 1 [1,2,15,16,17] 1 (cS Tryz.f144 75) aYE ⟨[(1,.sl false 9 x1),(2,.func (.func 137) [] [bSF]),(15,.sl false 9 x15),(16,bSD (x15.length:Int)),(17,bSD x17)],[some [.func (.func 134) [] []]]⟩
theorem aF6 (x1:bSH) (x15:bSH) (x17:Int):XW x1 x15 x17=aA (decide (x17<(x15.length:Int))) (bD S5 x15 x17 fun u2=>bD S5 x1 x17 fun u12=>H27 137 [A5 u2,A5 u12,bSF] [some [.func (.func 134) [] []]] fun b21=>aA (!b21) (some (.bool false,[some [.func (.func 134) [] []]])) (XW x1 x15 (i64.wrap (x17+1)))) (some (.bool true,[some [.func (.func 134) [] []]])):=ll
theorem aYF (a0:bSH) (a1:bSH):SS.CC 144 [.sl false 9 a0,.sl false 9 a1,.func (.func 137) [] [bSF]] [some [.func (.func 134) [] []]]=aA ((a0.length:Int) !=(a1.length:Int)) (some (.bool false,[some [.func (.func 134) [] []]])) (XW a1 a0 0):=cc
def aYG:KT:=SS.rK Tryz.f145 145 0 []
def aYH:KT:=SS.jK 145 32 0 (cS Tryz.f145 15) aYG
def aYI:KT:=aj 0 aYH
def XX (x1:bSH) (x15:bSH) (x17:Int):R:=SS.LL (SS.ae 145 32) 0 [1,2,15,16,17] 0 (cS Tryz.f145 75) aYI ⟨[(1,.sl false 3 x1),(2,.func (.func 142) [] []),(15,.sl false 3 x15),(16,bSD (x15.length:Int)),(17,bSD x17)],[]⟩
theorem aF7 (x1:bSH) (x15:bSH) (x17:Int):XX x1 x15 x17=aA (decide (x17<(x15.length:Int))) (bD S8 x15 x17 fun u2=>bD S8 x1 x17 fun u6=>G3 142 [A8 u2,A8 u6] fun b9=>aA (!b9) (some (.bool false,[])) (XX x1 x15 (i64.wrap (x17+1)))) (some (.bool true,[])):=ll
theorem aYJ (a0:bSH) (a1:bSH):SS.CC 145 [.sl false 3 a0,.sl false 3 a1,.func (.func 142) [] []] []=aA ((a0.length:Int) !=(a1.length:Int)) (some (.bool false,[])) (XX a1 a0 0):=cc
def aYK:KT:=SS.rK Tryz.f146 146 0 []
def aYL:KT:=SS.jK 146 32 0 (cS Tryz.f146 15) aYK
def aYM:KT:=aj 0 aYL
def XY (x1:bSH) (x15:bSH) (x17:Int):R:=SS.LL (SS.ae 146 32) 0 [1,2,15,16,17] 0 (cS Tryz.f146 75) aYM ⟨[(1,.sl false 2 x1),(2,.func (.func 147) [] []),(15,.sl false 2 x15),(16,bSD (x15.length:Int)),(17,bSD x17)],[]⟩
theorem aF8 (x1:bSH) (x15:bSH) (x17:Int):XY x1 x15 x17=aA (decide (x17<(x15.length:Int))) (bD je x15 x17 fun u2=>bD je x1 x17 fun u5=>G3 147 [zB u2,zB u5] fun b7=>aA (!b7) (some (.bool false,[])) (XY x1 x15 (i64.wrap (x17+1)))) (some (.bool true,[])):=ll
theorem aYN (a0:bSH) (a1:bSH):SS.CC 146 [.sl false 2 a0,.sl false 2 a1,.func (.func 147) [] []] []=aA ((a0.length:Int) !=(a1.length:Int)) (some (.bool false,[])) (XY a1 a0 0):=cc
theorem aYO (a0:Sh.V je) (a1:Sh.V je):SS.CC 147 [zB a0,zB a1] []=aA (a0.1.toList==a1.1.toList) (G3 148 [.sl false 2 a0.2.1,.sl false 2 a1.2.1] fun b1=>some (.bool b1,[])) (some (.bool false,[])):=cc
def aYP:KT:=SS.rK Tryz.f148 148 0 []
def aYQ:KT:=SS.jK 148 26 0 (cS Tryz.f148 15) aYP
def aYR:KT:=aj 0 aYQ
def XZ (x0:bSH) (x1:bSH) (gz:Int):R:=SS.LL (SS.ae 148 26) 0 [0,1,12,13] 0 (cS Tryz.f148 75) aYR ⟨[(0,.sl false 2 x0),(1,.sl false 2 x1),(12,bSD (x0.length:Int)),(13,bSD gz)],[]⟩
theorem aF9 (x0:bSH) (x1:bSH) (gz:Int):XZ x0 x1 gz=aA (decide (gz<(x0.length:Int))) (bD zG x0 gz fun u2=>bD zG x1 gz fun u5=>aA (!((u2.1.toList==u5.1.toList)&&((u2.2.1.toList==u5.2.1.toList)&&true))) (some (.bool false,[])) (XZ x0 x1 (i64.wrap (gz+1)))) (some (.bool true,[])):=ll
theorem aYS (a0:bSH) (a1:bSH):SS.CC 148 [.sl false 2 a0,.sl false 2 a1] []=aA ((a0.length:Int) !=(a1.length:Int)) (some (.bool false,[])) (XZ a0 a1 0):=cc
def aYT:KT:=SS.rK Tryz.f149 149 0 []
def aYU:KT:=SS.jK 149 32 0 (cS Tryz.f149 15) aYT
def aYV:KT:=aj 0 aYU
def Xa (x1:bSH) (x15:bSH) (x17:Int):R:=SS.LL (SS.ae 149 32) 0 [1,2,15,16,17] 0 (cS Tryz.f149 75) aYV ⟨[(1,.sl false 3 x1),(2,.func (.func 150) [] []),(15,.sl false 3 x15),(16,bSD (x15.length:Int)),(17,bSD x17)],[]⟩
theorem aFA (x1:bSH) (x15:bSH) (x17:Int):Xa x1 x15 x17=aA (decide (x17<(x15.length:Int))) (bD iW x15 x17 fun u2=>bD iW x1 x17 fun u6=>G3 150 [uT u2,uT u6] fun b9=>aA (!b9) (some (.bool false,[])) (Xa x1 x15 (i64.wrap (x17+1)))) (some (.bool true,[])):=ll
theorem aYW (a0:bSH) (a1:bSH):SS.CC 149 [.sl false 3 a0,.sl false 3 a1,.func (.func 150) [] []] []=aA ((a0.length:Int) !=(a1.length:Int)) (some (.bool false,[])) (Xa a1 a0 0):=cc
theorem aZ0 (a0:Sh.V iW) (a1:Sh.V iW):SS.CC 150 [uT a0,uT a1] []=aA (a0.1.toList==a1.1.toList) (aA (a0.2.2.1==a1.2.2.1) (G3 151 [.sl false 2 a0.2.1,.sl false 2 a1.2.1] fun b1=>some (.bool b1,[])) (some (.bool false,[]))) (some (.bool false,[])):=cc
def aZ1:KT:=SS.rK Tryz.f151 151 0 []
def aZ2:KT:=SS.jK 151 26 0 (cS Tryz.f151 15) aZ1
def aZ3:KT:=aj 0 aZ2
def Xb (x0:bSH) (x1:bSH) (gz:Int):R:=SS.LL (SS.ae 151 26) 0 [0,1,12,13] 0 (cS Tryz.f151 75) aZ3 ⟨[(0,.sl false 2 x0),(1,.sl false 2 x1),(12,bSD (x0.length:Int)),(13,bSD gz)],[]⟩
theorem aFC (x0:bSH) (x1:bSH) (gz:Int):Xb x0 x1 gz=aA (decide (gz<(x0.length:Int))) (bD AC x0 gz fun u2=>bD AC x1 gz fun u5=>aA (!((u2.1.toList==u5.1.toList)&&((u2.2.1==u5.2.1)&&true))) (some (.bool false,[])) (Xb x0 x1 (i64.wrap (gz+1)))) (some (.bool true,[])):=ll
theorem aZ4 (a0:bSH) (a1:bSH):SS.CC 151 [.sl false 2 a0,.sl false 2 a1] []=aA ((a0.length:Int) !=(a1.length:Int)) (some (.bool false,[])) (Xb a0 a1 0):=cc
theorem b0U (h0:Sh.V dA) (h1:Sh.V aH):SS.CC 214 [bSF] [bP h0,aB h1]=QZ 104 [bSF] [aB h1] fun u1 u4=>some (.bool (u1.2.2.1.1 != 0),[bP h0,aB u4]):=cc
theorem b0V (h0:Sh.V dA) (h1:Sh.V aH):SS.CC 215 [bSF] [bP h0,aB h1]=sK fun ag=>kK 197 [bSF,.str ⟨#[101,118,101,110,116]⟩] [aB h1] fun b1 u2=>aA b1 (ML 262 [bSF] [bP h0,aB u2] fun _ u8 yc=>some (.tuple [],[bP u8,aB yc])) (kK 257 [bSF,.str ⟨#[116,101,109,112,108,97,116,101]⟩] [aB u2] fun b23 u24=>aA b23 (MM 261 [bSD (h0.2.2.1.length:Int),bSD 16,bSF] [some [.ptr 1 0],BK h0,aB u24] fun b30 u31 u40=>aA (!b30) (ML 263 [bSF] [bP u31,aB u40] fun _ u46 u55=>some (.tuple [],[bP u46,aB u55])) (some (.tuple [],[bP u31,aB u40]))) (kK 257 [bSF,.str ⟨#[99,111,109,112,111,110,101,110,116]⟩] [aB u24] fun b61 u62=>aA b61 (MM 261 [bSD (h0.2.2.2.1.length:Int),bSD 32,bSF] [some [.ptr 1 0],BK h0,aB u62] fun b68 u69 Eb=>aA (!b68) ((fun z0 z1 z2 z3 z4=>bn (bn (bn z0 (bn z0 z1)) (bn (bn z0 z1) z2)) (bn (bn (bn z0 (bn z0 z1)) (bn z0 (bn (bn z0 z1) (bn z0 z3)))) (bn (bn (bn z0 z1) z2) (bn (bn (bn z0 z1) (bn z0 z3)) z4)))) (kL 264 [bSF] [uV u69,aB Eb] fun wY dH yf=>chk (decide (u69.2.2.2.1.length+1<=aQ)) (some (.tuple [],[bP (dH.1,dH.2.1,dH.2.2.1,(u69.2.2.2.1 ++ ([A8 wY]:bSH)),dH.2.2.2.2.1,dH.2.2.2.2.2.1,dH.2.2.2.2.2.2.1,dH.2.2.2.2.2.2.2.1,dH.2.2.2.2.2.2.2.2.1,()),aB yf]))) (Ep 264 [bSF] [bP u69,aB Eb] fun wY dH yf=>chk (decide (dH.2.2.2.1.length+1<=aQ)) (some (.tuple [],[bP (dH.1,dH.2.1,dH.2.2.1,(dH.2.2.2.1 ++ ([A8 wY]:bSH)),dH.2.2.2.2.1,dH.2.2.2.2.2.1,dH.2.2.2.2.2.2.1,dH.2.2.2.2.2.2.2.1,dH.2.2.2.2.2.2.2.2.1,()),aB yf]))) (Ep 264 [bSF] [bP u69,aB Eb] fun wY dH yf=>ag 0 (chk (decide (dH.2.2.2.1.length+1<=aQ)) (some (.tuple [],[bP (dH.1,dH.2.1,dH.2.2.1,(dH.2.2.2.1 ++ ([A8 wY]:bSH)),dH.2.2.2.2.1,dH.2.2.2.2.2.1,dH.2.2.2.2.2.2.1,dH.2.2.2.2.2.2.2.1,dH.2.2.2.2.2.2.2.2.1,()),aB yf])))) (Ep 264 [bSF] [bP u69,aB Eb] fun wY dH yf=>ag 1 (chk (decide (dH.2.2.2.1.length+1<=aQ)) (some (.tuple [],[bP (dH.1,dH.2.1,dH.2.2.1,(dH.2.2.2.1 ++ ([A8 wY]:bSH)),dH.2.2.2.2.1,dH.2.2.2.2.2.1,dH.2.2.2.2.2.2.1,dH.2.2.2.2.2.2.2.1,dH.2.2.2.2.2.2.2.2.1,()),aB yf])))) (Ep 264 [bSF] [bP u69,aB Eb] fun wY dH yf=>bn (ag 0 (chk (decide (dH.2.2.2.1.length+1<=aQ)) (some (.tuple [],[bP (dH.1,dH.2.1,dH.2.2.1,(dH.2.2.2.1 ++ ([A8 wY]:bSH)),dH.2.2.2.2.1,dH.2.2.2.2.2.1,dH.2.2.2.2.2.2.1,dH.2.2.2.2.2.2.2.1,dH.2.2.2.2.2.2.2.2.1,()),aB yf])))) (ag 1 (chk (decide (dH.2.2.2.1.length+1<=aQ)) (some (.tuple [],[bP (dH.1,dH.2.1,dH.2.2.1,(dH.2.2.2.1 ++ ([A8 wY]:bSH)),dH.2.2.2.2.1,dH.2.2.2.2.2.1,dH.2.2.2.2.2.2.1,dH.2.2.2.2.2.2.2.1,dH.2.2.2.2.2.2.2.2.1,()),aB yf])))))) (some (.tuple [],[bP u69,aB Eb]))) (kK 257 [bSF,.str ⟨#[114,101,113,117,105,114,101,109,101,110,116]⟩] [aB u62] fun aT1 aQZ=>aA aT1 (MM 261 [bSD (h0.2.2.2.2.1.length:Int),bSD 32,bSF] [some [.ptr 1 0],BK h0,aB aQZ] fun aT2 Ik u119=>aA (!aT2) ((fun z0 z1 z2 z3 z4=>bn (bn (bn z0 (bn z0 z1)) (bn (bn z0 z1) z2)) (bn (bn (bn z0 (bn z0 z1)) (bn z0 (bn (bn z0 z1) (bn z0 z3)))) (bn (bn (bn z0 z1) z2) (bn (bn (bn z0 z1) (bn z0 z3)) z4)))) (H60 264 [bSF] [uX Ik,aB u119] fun yZ dn Ea=>chk (decide (Ik.2.2.2.2.1.length+1<=aQ)) (some (.tuple [],[bP (dn.1,dn.2.1,dn.2.2.1,dn.2.2.2.1,(Ik.2.2.2.2.1 ++ ([A8 yZ]:bSH)),dn.2.2.2.2.2.1,dn.2.2.2.2.2.2.1,dn.2.2.2.2.2.2.2.1,dn.2.2.2.2.2.2.2.2.1,()),aB Ea]))) (Ep 264 [bSF] [bP Ik,aB u119] fun yZ dn Ea=>chk (decide (dn.2.2.2.2.1.length+1<=aQ)) (some (.tuple [],[bP (dn.1,dn.2.1,dn.2.2.1,dn.2.2.2.1,(dn.2.2.2.2.1 ++ ([A8 yZ]:bSH)),dn.2.2.2.2.2.1,dn.2.2.2.2.2.2.1,dn.2.2.2.2.2.2.2.1,dn.2.2.2.2.2.2.2.2.1,()),aB Ea]))) (Ep 264 [bSF] [bP Ik,aB u119] fun yZ dn Ea=>ag 0 (chk (decide (dn.2.2.2.2.1.length+1<=aQ)) (some (.tuple [],[bP (dn.1,dn.2.1,dn.2.2.1,dn.2.2.2.1,(dn.2.2.2.2.1 ++ ([A8 yZ]:bSH)),dn.2.2.2.2.2.1,dn.2.2.2.2.2.2.1,dn.2.2.2.2.2.2.2.1,dn.2.2.2.2.2.2.2.2.1,()),aB Ea])))) (Ep 264 [bSF] [bP Ik,aB u119] fun yZ dn Ea=>ag 1 (chk (decide (dn.2.2.2.2.1.length+1<=aQ)) (some (.tuple [],[bP (dn.1,dn.2.1,dn.2.2.1,dn.2.2.2.1,(dn.2.2.2.2.1 ++ ([A8 yZ]:bSH)),dn.2.2.2.2.2.1,dn.2.2.2.2.2.2.1,dn.2.2.2.2.2.2.2.1,dn.2.2.2.2.2.2.2.2.1,()),aB Ea])))) (Ep 264 [bSF] [bP Ik,aB u119] fun yZ dn Ea=>bn (ag 0 (chk (decide (dn.2.2.2.2.1.length+1<=aQ)) (some (.tuple [],[bP (dn.1,dn.2.1,dn.2.2.1,dn.2.2.2.1,(dn.2.2.2.2.1 ++ ([A8 yZ]:bSH)),dn.2.2.2.2.2.1,dn.2.2.2.2.2.2.1,dn.2.2.2.2.2.2.2.1,dn.2.2.2.2.2.2.2.2.1,()),aB Ea])))) (ag 1 (chk (decide (dn.2.2.2.2.1.length+1<=aQ)) (some (.tuple [],[bP (dn.1,dn.2.1,dn.2.2.1,dn.2.2.2.1,(dn.2.2.2.2.1 ++ ([A8 yZ]:bSH)),dn.2.2.2.2.2.1,dn.2.2.2.2.2.2.1,dn.2.2.2.2.2.2.2.1,dn.2.2.2.2.2.2.2.2.1,()),aB Ea])))))) (some (.tuple [],[bP Ik,aB u119]))) (kK 257 [bSF,.str ⟨#[101,120,99,108,117,100,101]⟩] [aB aQZ] fun aT3 Il=>aA aT3 (MM 261 [bSD (h0.2.2.2.2.2.1.length:Int),bSD 32,bSF] [some [.ptr 1 0],BK h0,aB Il] fun aT4 aQ' aR0=>aA (!aT4) (ML 265 [bSF] [bP aQ',aB aR0] fun _ bNN bNP=>some (.tuple [],[bP bNN,aB bNP])) (some (.tuple [],[bP aQ',aB aR0]))) (kK 257 [bSF,.str ⟨#[108,105,109,105,116]⟩] [aB Il] fun aT5 aAO=>aA aT5 (MM 261 [bSD (h0.2.2.2.2.2.2.1.length:Int),bSD 32,bSF] [some [.ptr 1 0],BK h0,aB aAO] fun aT6 Zz u198=>aA (!aT6) (ML 266 [bSF] [bP Zz,aB u198] fun _ aAQ aAR=>some (.tuple [],[bP aAQ,aB aAR])) (some (.tuple [],[bP Zz,aB u198]))) (cO 133 [bSF,bSD 14] [aB aAO] fun _ aAS=>some (.tuple [],[bP h0,aB aAS]))))))):=Et cc
theorem b0X (h2:Sh.V BL) (h3:Sh.V jS) (h4:Sh.V aH):SS.CC 223 [bSF,.ptr 1 0] [some [.ptr 2 0],some [.ptr 3 0],mD h2,bZ h3,aB h4]=J9 224 [bSF,.ptr 1 0] [fB h2,bZ h3,aB h4] fun _ u1 u3 u10=>some (.tuple [],[some [.ptr 2 0],some [.ptr 3 0],mD u1,bZ u3,aB u10]):=cc
def aG9:KT:=SS.rK Tryz.f224 224 3 []
def b0Z:KT:=SS.jK 224 87 3 (cS Tryz.f224 127) aG9
def b1A:KT:=aj 0 b0Z
def Nk (q0:Sh.V jv) (q1:Sh.V jS) (q2:Sh.V aH) (q4:Sh.V jJ) (zZ:Bool):R:=SS.LL (SS.ae 224 87) 3 [1,2,4,5] 6 (cS Tryz.f224 287) b1A ⟨[(1,.ptr 1 0),(2,.ptr 3 0),(4,.ptr 4 0),(5,.ptr 5 0)],[fB q0,bZ q1,aB q2,some [bSF],qR q4,vZ (zZ,())]⟩
def a2S (q0:Sh.V jv) (q1:Sh.V jS) (q2:Sh.V aH) (q4:Sh.V jJ):R:=bH (SS.xX 224 87 3) (cS Tryz.f224 127) aG9 ⟨[(1,.ptr 1 0),(2,.ptr 3 0),(4,.ptr 4 0)],[fB q0,bZ q1,aB q2,some [bSF],qR q4]⟩
theorem b1B (q0:Sh.V jv) (q1:Sh.V jS) (q2:Sh.V aH) (q4:Sh.V jJ) (zZ:Bool):Nk q0 q1 q2 q4 zZ=Qa 130 [bSF] [kE q0,aB q2] fun b1 u2 u4=>aA b1 (kK 257 [bSF,.str ⟨#[125]⟩] [aB u4] fun b10 u11=>aA (!b10) (kK 197 [bSF,.str ⟨#[108,111,99,97,116,105,111,110]⟩] [aB u11] fun b17 pJ=>aA b17 (H80 280 [bSF,.ptr 1 0,.ptr 2 0] [oQ u2,qR q4,vZ (zZ,()),aB pJ] fun _ u24 u26 u35 u36=>Nk u24 q1 u36 u26 u35.1) (kK 197 [bSF,.str ⟨#[118,97,114]⟩] [aB pJ] fun b42 u43=>aA b42 (H81 281 [bSF,.ptr 1 0] [fB u2,qR q4,aB u43] fun _ u49 u51 u60=>Nk u49 q1 u60 u51 zZ) (kK 197 [bSF,.str ⟨#[101,100,103,101]⟩] [aB u43] fun b66 u67=>aA b66 (H81 282 [bSF,.ptr 1 0] [fB u2,qR q4,aB u67] fun _ u73 u75 wY=>Nk u73 q1 wY u75 zZ) (cO 133 [bSF,bSD 14] [aB u67] fun _ V6=>Nk u2 q1 V6 q4 zZ)))) (a2S u2 q1 u11 q4)) (a2S u2 q1 u4 q4):=ll
theorem b0Y (q0:Sh.V jv) (q1:Sh.V jS) (q2:Sh.V aH) (q4:Sh.V jJ):a2S q0 q1 q2 q4=cO 128 [bSF,.str ⟨#[125]⟩] [aB q2] fun _ u1=>G4 180 [bSD (q4.2.2.1.length:Int)] fun l7=>chk (decide (q1.2.2.1.length+1<=aQ)) (some (.tuple [],[fB q0,bZ (q1.1,q1.2.1,(q1.2.2.1 ++ ([A5 (q4.1,q4.2.1,q4.2.2.1,l7,(q4.2.1.length:Int),q4.2.2.2.2.2.1,q4.2.2.2.2.2.2.1,q4.2.2.2.2.2.2.2.1,q4.2.2.2.2.2.2.2.2.1,())]:bSH)),q1.2.2.2.1,q1.2.2.2.2.1,q1.2.2.2.2.2.1,q1.2.2.2.2.2.2.1,()),aB u1])):=by kernel_rfl
theorem b1C (h0:Sh.V jv) (h1:Sh.V jS) (h2:Sh.V aH):SS.CC 224 [bSF,.ptr 1 0] [fB h0,bZ h1,aB h2]=sK fun ag=>G4 61 [.sl false 9 h1.2.2.1,.func (.func 277) [] []] fun l1=>ag 1 (MN 272 [bSF,bSE l1] [kE h0,aB h2] fun s3 u4 u6=>H83 278 [bSF,.func (.func 279) [] [.ptr 1 0,.ptr 2 0]] [oQ u4,qR (s3,[],[],[],0,0,[],[],[],()),some [bSF],aB u6] fun _ u12 u14 u23=>cO 128 [bSF,.str ⟨#[123]⟩] [aB u23] fun _ u29=>Nk u12 h1 u29 u14 false):=Et cc
theorem b1D (h2:Sh.V BL) (h3:Sh.V jS) (h4:Sh.V aH):SS.CC 225 [bSF,.ptr 1 0] [some [.ptr 2 0],some [.ptr 3 0],mD h2,bZ h3,aB h4]=J9 226 [bSF,.ptr 1 0,.ptr 1 3] [fB h2,bZ h3,aB h4] fun _ u1 u3 u10=>some (.tuple [],[some [.ptr 2 0],some [.ptr 3 0],mD u1,bZ u3,aB u10]):=cc
theorem b1F (h0:Sh.V jv) (h1:Sh.V jS) (h2:Sh.V aH):SS.CC 226 [bSF,.ptr 1 0,.ptr 1 4] [fB h0,bZ h1,aB h2]=sK fun ag=>En 45 [.sl false 3 h1.2.2.2.1] fun l1=>chk (decide (l1.length+h1.2.2.2.2.1.length<=aQ)) (G4 59 [.sl false 3 (l1 ++ h1.2.2.2.2.1),.func (.func 283) [] []] fun l3=>ag 1 (MN 272 [bSF,bSE l3] [kE h0,aB h2] fun s5 u6 u8=>cO 128 [bSF,.str ⟨#[61]⟩] [aB u8] fun _ u14=>sJ 129 [bSF] [aB u14] fun s20 u21=>H84 278 [bSF,.func (.func 284) [] [.ptr 1 0,.ptr 2 0]] [oQ u6,qQ (s5,s20,[],()),some [bSF],aB u21] fun _ u27 u29 u32=>cO 128 [bSF,.str ⟨#[59]⟩] [aB u32] fun _ u38=>chk (decide (h1.2.2.2.2.1.length+1<=aQ)) (some (.tuple [],[fB u27,bZ (h1.1,h1.2.1,h1.2.2.1,h1.2.2.2.1,(h1.2.2.2.2.1 ++ ([A8 u29]:bSH)),h1.2.2.2.2.2.1,h1.2.2.2.2.2.2.1,()),aB u38])))):=Et cc
theorem b1E (h0:Sh.V jv) (h1:Sh.V jS) (h2:Sh.V aH):SS.CC 226 [bSF,.ptr 1 0,.ptr 1 3] [fB h0,bZ h1,aB h2]=sK fun ag=>En 45 [.sl false 3 h1.2.2.2.1] fun l1=>chk (decide (l1.length+h1.2.2.2.2.1.length<=aQ)) (G4 59 [.sl false 3 (l1 ++ h1.2.2.2.2.1),.func (.func 283) [] []] fun l3=>ag 1 (MN 272 [bSF,bSE l3] [kE h0,aB h2] fun s5 u6 u8=>cO 128 [bSF,.str ⟨#[61]⟩] [aB u8] fun _ u14=>sJ 129 [bSF] [aB u14] fun s20 u21=>H84 278 [bSF,.func (.func 284) [] [.ptr 1 0,.ptr 2 0]] [oQ u6,qQ (s5,s20,[],()),some [bSF],aB u21] fun _ u27 u29 u32=>cO 128 [bSF,.str ⟨#[59]⟩] [aB u32] fun _ u38=>chk (decide (h1.2.2.2.1.length+1<=aQ)) (some (.tuple [],[fB u27,bZ (h1.1,h1.2.1,h1.2.2.1,(h1.2.2.2.1 ++ ([A8 u29]:bSH)),h1.2.2.2.2.1,h1.2.2.2.2.2.1,h1.2.2.2.2.2.2.1,()),aB u38])))):=Et cc
theorem b1G (h2:Sh.V BL) (h3:Sh.V jS) (h4:Sh.V aH):SS.CC 227 [bSF,.ptr 1 0] [some [.ptr 2 0],some [.ptr 3 0],mD h2,bZ h3,aB h4]=J9 226 [bSF,.ptr 1 0,.ptr 1 4] [fB h2,bZ h3,aB h4] fun _ u1 u3 u10=>some (.tuple [],[some [.ptr 2 0],some [.ptr 3 0],mD u1,bZ u3,aB u10]):=cc
theorem b1H (h2:Sh.V BL) (h3:Sh.V jS) (h4:Sh.V aH):SS.CC 228 [bSF,.ptr 1 0] [some [.ptr 2 0],some [.ptr 3 0],mD h2,bZ h3,aB h4]=J9 229 [bSF,.ptr 1 0] [fB h2,bZ h3,aB h4] fun _ u1 u3 u10=>some (.tuple [],[some [.ptr 2 0],some [.ptr 3 0],mD u1,bZ u3,aB u10]):=cc
theorem b1I (h0:Sh.V jv) (h1:Sh.V jS) (h2:Sh.V aH):SS.CC 229 [bSF,.ptr 1 0] [fB h0,bZ h1,aB h2]=sK fun ag=>G4 63 [.sl false 2 h1.2.2.2.2.2.1,.func (.func 285) [] []] fun l1=>ag 1 (MN 272 [bSF,bSE l1] [kE h0,aB h2] fun s3 u4 u6=>cO 128 [bSF,.str ⟨#[58]⟩] [aB u6] fun _ u12=>H86 286 [bSF,.func (.func 287) [] [.ptr 1 0,.ptr 2 0]] [aB u12,some [.ptr 3 0],kM (s3,[],()),DY u4] fun _ pJ u22 u24=>cO 128 [bSF,.str ⟨#[59]⟩] [aB pJ] fun _ u28=>chk (decide (h1.2.2.2.2.2.1.length+1<=aQ)) (some (.tuple [],[fB u24,bZ (h1.1,h1.2.1,h1.2.2.1,h1.2.2.2.1,h1.2.2.2.2.1,(h1.2.2.2.2.2.1 ++ ([zB u22]:bSH)),h1.2.2.2.2.2.2.1,()),aB u28]))):=Et cc
theorem b1J (h2:Sh.V BL) (h3:Sh.V jS) (h4:Sh.V aH):SS.CC 230 [bSF,.ptr 1 0] [some [.ptr 2 0],some [.ptr 3 0],mD h2,bZ h3,aB h4]=J9 231 [bSF,.ptr 1 0] [fB h2,bZ h3,aB h4] fun _ u1 u3 u10=>some (.tuple [],[some [.ptr 2 0],some [.ptr 3 0],mD u1,bZ u3,aB u10]):=cc
def aGA:KT:=SS.rK Tryz.f231 231 3 []
def b1L:KT:=SS.jK 231 73 3 (cS Tryz.f231 15) aGA
def b1M:KT:=aj 0 b1L
def a2U (q0:Sh.V jv) (q1:Sh.V jS) (q2:Sh.V aH) (eH:bSG) (x5:Bool) (rQ:bSH):R:=SS.LL (SS.ae 231 73) 3 [0,1,4,5] 4 (cS Tryz.f231 75) b1M ⟨[(0,bSF),(1,.ptr 1 0),(4,.ptr 3 0),(5,.bool x5)],[fB q0,bZ q1,aB q2,Vf (eH,rQ,0,())]⟩
def a2T (q0:Sh.V jv) (q1:Sh.V jS) (q2:Sh.V aH) (eH:bSG) (rQ:bSH):R:=bH (SS.xX 231 73 3) (cS Tryz.f231 15) aGA ⟨[(0,bSF),(1,.ptr 1 0),(4,.ptr 3 0)],[fB q0,bZ q1,aB q2,Vf (eH,rQ,0,())]⟩
theorem aGB (q0:Sh.V jv) (q1:Sh.V jS) (q2:Sh.V aH) (eH:bSG) (x5:Bool) (rQ:bSH):a2U q0 q1 q2 eH x5 rQ=aA x5 (Qa 130 [bSF] [kE q0,aB q2] fun b1 u2 u4=>aA b1 (H85 289 [bSF] [kE u2,aB u4] fun n10 u11 u13=>cO 128 [bSF,.str ⟨#[42]⟩] [aB u13] fun _ GR=>sJ 129 [bSF] [aB GR] fun s25 u26=>chk (decide (rQ.length+1<=aQ)) (kK 197 [bSF,.str ⟨#[43]⟩] [aB u26] fun b32 u33=>a2U u11 q1 u33 eH b32 (rQ ++ ([QP (s25,n10,())]:bSH)))) (a2T u2 q1 u4 eH rQ)) (a2T q0 q1 q2 eH rQ):=ll
theorem b1K (q0:Sh.V jv) (q1:Sh.V jS) (q2:Sh.V aH) (eH:bSG) (rQ:bSH):a2T q0 q1 q2 eH rQ=cO 128 [bSF,.str ⟨#[60,61]⟩] [aB q2] fun _ u1=>H85 289 [bSF] [kE q0,aB u1] fun n7 u8 u10=>cO 128 [bSF,.str ⟨#[59]⟩] [aB u10] fun _ u16=>chk (decide (q1.2.2.2.2.2.2.1.length+1<=aQ)) (some (.tuple [],[fB u8,bZ (q1.1,q1.2.1,q1.2.2.1,q1.2.2.2.1,q1.2.2.2.2.1,q1.2.2.2.2.2.1,(q1.2.2.2.2.2.2.1 ++ ([uT (eH,rQ,n7,())]:bSH)),()),aB u16])):=by kernel_rfl
theorem b1N (h0:Sh.V jv) (h1:Sh.V jS) (h2:Sh.V aH):SS.CC 231 [bSF,.ptr 1 0] [fB h0,bZ h1,aB h2]=G4 65 [.sl false 3 h1.2.2.2.2.2.2.1,.func (.func 288) [] []] fun l1=>MN 272 [bSF,bSE l1] [kE h0,aB h2] fun s3 u4 u6=>cO 128 [bSF,.str ⟨#[58]⟩] [aB u6] fun _ u12=>a2U u4 h1 u12 s3 true []:=cc
def b37:KT:=SS.rK Tryz.f261 261 3 []
def a2Y (x0:Int) (x1:Int) (q1:Sh.V AL) (q2:Sh.V aH):R:=bH (SS.xX 261 22 3) (cS Tryz.f261 7) b37 ⟨[(0,bSD x0),(1,bSD x1),(2,bSF)],[some [.ptr 1 0],BK q1,aB q2]⟩
theorem b35 (x0:Int) (x1:Int) (q1:Sh.V AL) (q2:Sh.V aH):a2Y x0 x1 q1 q2=nH 220 [bSF] [aB q2] fun u1 u6=>some (.bool (x0==x1),[some [.ptr 1 0],BK q1,aB u6]):=by kernel_rfl
theorem b38 (a0:Int) (a1:Int) (h1:Sh.V AL) (h2:Sh.V aH):SS.CC 261 [bSD a0,bSD a1,bSF] [some [.ptr 1 0],BK h1,aB h2]=aA (a0==a1) (cO 133 [bSF,bSD 3] [aB h2] fun _ u1=>a2Y a0 a1 h1 u1) (a2Y a0 a1 h1 h2):=cc
def SV:KT:=SS.rK Tryz.f263 263 2 []
def b3B:KT:=SS.jK 263 259 2 (cS Tryz.f263 15) SV
def b3D:KT:=aj 0 b3B
def b3E:KT:=SS.jK 263 259 2 (cS Tryz.f263 4095) SV
def aGQ:KT:=aj 2 b3E
def b3F:KT:=SS.lK 263 259 2 [1,5,6,56] 4 (cS Tryz.f263 9215) aGQ
def b3G:KT:=aj 3 b3F
def a3C:KT:=aj 4 b3G
def b3H:KT:=SS.jK 263 259 2 (cS Tryz.f263 1909759) a3C
def b3I:KT:=SS.jK 263 259 2 (cS Tryz.f263 16383) SV
def b3C:KT:=aj 5 b3I
def Nl (q0:Sh.V dA) (q1:Sh.V aH) (x2:bSH) (x15:Int):R:=SS.LL (SS.ae 263 259) 2 [1,2,13,14,15,56] 3 (cS Tryz.f263 75) b3D ⟨[(1,.ptr 2 0),(2,.sl true 1 x2),(13,.sl false 9 q0.2.2.1),(14,bSD (q0.2.2.1.length:Int)),(15,bSD x15)],[bP q0,aB q1,some [bSF]]⟩
def a2Z (q0:Sh.V dA) (q1:Sh.V aH) (q3:Sh.V jJ):R:=bH (SS.xX 263 259 2) (cS Tryz.f263 127) SV ⟨[(1,.ptr 2 0),(5,.ptr 3 0)],[bP q0,aB q1,some [bSF],qR q3]⟩
def SX (q0:Sh.V dA) (q1:Sh.V aH) (q3:Sh.V jJ) (x6:Bool):R:=SS.LL (SS.ae 263 259) 2 [1,5,6,56] 4 (cS Tryz.f263 9215) aGQ ⟨[(1,.ptr 2 0),(5,.ptr 3 0),(6,.bool x6),(56,bSF)],[bP q0,aB q1,some [bSF],qR q3]⟩
def Xp (q0:Sh.V dA) (q1:Sh.V aH) (q3:Sh.V jJ):R:=bH (SS.xX 263 259 2) (cS Tryz.f263 13968383) b3H ⟨[(1,.ptr 2 0),(5,.ptr 3 0),(56,bSF)],[bP q0,aB q1,some [bSF],qR q3]⟩
def aGP (q0:Sh.V dA) (q1:Sh.V aH) (q3:Sh.V jJ) (x6:Bool):R:=bH (SS.xX 263 259 2) (cS Tryz.f263 1909759) a3C ⟨[(1,.ptr 2 0),(5,.ptr 3 0),(6,.bool x6),(56,bSF)],[bP q0,aB q1,some [bSF],qR q3]⟩
def a3A (q0:Sh.V dA) (q1:Sh.V aH) (q3:Sh.V jJ) (x6:Bool):R:=bH (SS.xX 263 259 2) (cS Tryz.f263 3613695) a3C ⟨[(1,.ptr 2 0),(5,.ptr 3 0),(6,.bool x6),(56,bSF)],[bP q0,aB q1,some [bSF],qR q3]⟩
def a3B (q0:Sh.V dA) (q1:Sh.V aH) (q3:Sh.V jJ):R:=bH (SS.xX 263 259 2) (cS Tryz.f263 4095) SV ⟨[(1,.ptr 2 0),(5,.ptr 3 0),(56,bSF)],[bP q0,aB q1,some [bSF],qR q3]⟩
def a3D (q0:Sh.V dA) (q1:Sh.V aH) (eH:bSG) (rQ:bSH) (KQ:bSH) (Oi:bSH) (UF:Int) (UG:bSH) (UH:bSH) (UI:bSH) (Pq:Int):R:=SS.LL (SS.ae 263 259) 2 [1,5,56,234,235] 4 (cS Tryz.f263 77823) b3C ⟨[(1,.ptr 2 0),(5,.ptr 3 0),(56,bSF),(234,bSD (KQ.length:Int)),(235,bSD Pq)],[bP q0,aB q1,some [bSF],qR (eH,rQ,KQ,Oi,(rQ.length:Int),UF,UG,UH,UI,())]⟩
theorem aGR (q0:Sh.V dA) (q1:Sh.V aH) (x2:bSH) (x15:Int):Nl q0 q1 x2 x15=aA (decide (x15<(q0.2.2.1.length:Int))) (bD S5 q0.2.2.1 x15 fun u2=>chk (decide (x2.length+1<=aQ)) (Nl q0 q1 (x2 ++ ([.str u2.1]:bSH)) (i64.wrap (x15+1)))) (JC 314 [bSF,bSE x2] [bP q0,aB q1] fun s11 u12 u21=>cO 128 [bSF,.str ⟨#[40]⟩] [aB u21] fun _ u27=>kK 257 [bSF,.str ⟨#[41]⟩] [aB u27] fun b33 u34=>aA (!b33) (H70 286 [bSF,.func (.func 315) [] [.ptr 1 0,.ptr 2 0]] [aB u34,qR (s11,[],[],[],0,0,[],[],[],()),some [.ptr 3 0],DX u12] fun _ u40 u44 u53=>a2Z u53 u40 u44) (a2Z u12 u34 (s11,[],[],[],0,0,[],[],[],()))):=ll
theorem b39 (q0:Sh.V dA) (q1:Sh.V aH) (q3:Sh.V jJ):a2Z q0 q1 q3=cO 128 [bSF,.str ⟨#[41]⟩] [aB q1] fun _ u1=>cO 128 [bSF,.str ⟨#[123]⟩] [aB u1] fun _ u7=>SX (q0.1,q0.2.1,q0.2.2.1,q0.2.2.2.1,q0.2.2.2.2.1,q0.2.2.2.2.2.1,q0.2.2.2.2.2.2.1,[],q0.2.2.2.2.2.2.2.2.1,()) u7 q3 false:=by kernel_rfl
theorem b3J (q0:Sh.V dA) (q1:Sh.V aH) (q3:Sh.V jJ) (x6:Bool):SX q0 q1 q3 x6=sK fun ag=>Qc 214 [bSF] [bP q0,aB q1] fun b1 u2 u11=>aA (!b1) (kK 197 [bSF,.str ⟨#[125]⟩] [aB u11] fun b17 pJ=>aA (!b17) (kK 197 [bSF,.str ⟨#[108,111,99,97,116,105,111,110]⟩] [aB pJ] fun RD u25=>aA RD ((fun z0 z1=>bn z0 (bn (bn z0 z1) (bn z0 z1))) (JC 314 [bSF,bSE q3.2.1] [bP u2,aB u25] fun LC u32 xx=>chk (decide (q3.2.1.length+1<=aQ)) (kK 257 [bSF,.str ⟨#[105,110,105,116,105,97,108]⟩] [aB xx] fun b47 u48=>aA b47 (aA x6 (cO 133 [bSF,bSD 8] [aB u48] fun _ xy=>Xp u32 xy (q3.1,(q3.2.1 ++ ([.str LC]:bSH)),q3.2.2.1,q3.2.2.2.1,q3.2.2.2.2.1,q3.2.2.2.2.2.1,q3.2.2.2.2.2.2.1,q3.2.2.2.2.2.2.2.1,q3.2.2.2.2.2.2.2.2.1,())) (Xp u32 u48 (q3.1,(q3.2.1 ++ ([.str LC]:bSH)),q3.2.2.1,q3.2.2.2.1,q3.2.2.2.2.1,q3.2.2.2.2.2.1,q3.2.2.2.2.2.2.1,q3.2.2.2.2.2.2.2.1,q3.2.2.2.2.2.2.2.2.1,()))) (aGP u32 u48 (q3.1,(q3.2.1 ++ ([.str LC]:bSH)),q3.2.2.1,q3.2.2.2.1,q3.2.2.2.2.1,q3.2.2.2.2.2.1,q3.2.2.2.2.2.2.1,q3.2.2.2.2.2.2.2.1,q3.2.2.2.2.2.2.2.2.1,()) x6))) (ag 1 (JC 314 [bSF,bSE q3.2.1] [bP u2,aB u25] fun LC u32 xx=>chk (decide (q3.2.1.length+1<=aQ)) (kK 257 [bSF,.str ⟨#[105,110,105,116,105,97,108]⟩] [aB xx] fun b47 u48=>aA b47 (aA x6 (cO 133 [bSF,bSD 8] [aB u48] fun _ xy=>Xp u32 xy (q3.1,(q3.2.1 ++ ([.str LC]:bSH)),q3.2.2.1,q3.2.2.2.1,q3.2.2.2.2.1,q3.2.2.2.2.2.1,q3.2.2.2.2.2.2.1,q3.2.2.2.2.2.2.2.1,q3.2.2.2.2.2.2.2.2.1,())) (Xp u32 u48 (q3.1,(q3.2.1 ++ ([.str LC]:bSH)),q3.2.2.1,q3.2.2.2.1,q3.2.2.2.2.1,q3.2.2.2.2.2.1,q3.2.2.2.2.2.2.1,q3.2.2.2.2.2.2.2.1,q3.2.2.2.2.2.2.2.2.1,()))) (aGP u32 u48 (q3.1,(q3.2.1 ++ ([.str LC]:bSH)),q3.2.2.1,q3.2.2.2.1,q3.2.2.2.2.1,q3.2.2.2.2.2.1,q3.2.2.2.2.2.2.1,q3.2.2.2.2.2.2.2.1,q3.2.2.2.2.2.2.2.2.1,()) x6))))) (kK 197 [bSF,.str ⟨#[118,97,114]⟩] [aB u25] fun b60 u61=>aA b60 (kK 257 [bSF,.str ⟨#[116,114,117,101]⟩] [aB u61] fun b67 u68=>aA b67 (cO 133 [bSF,bSD 7] [aB u68] fun _ u74=>a3A u2 u74 q3 x6) (kK 257 [bSF,.str ⟨#[102,97,108,115,101]⟩] [aB u68] fun b80 Ph=>aA b80 (cO 133 [bSF,bSD 7] [aB Ph] fun _ dH=>a3A u2 dH q3 x6) (a3A u2 Ph q3 x6))) (kK 197 [bSF,.str ⟨#[101,100,103,101]⟩] [aB u61] fun b93 V7=>aA b93 ((fun z0 z1=>bn z0 (bn (bn z0 z1) (bn z0 z1))) (H71 317 [bSF,A5 q3] [bP u2,aB V7] fun V3 LQ GN=>chk (decide (q3.2.2.2.2.2.2.2.2.1.length+1<=aQ)) (SX LQ GN (q3.1,q3.2.1,q3.2.2.1,q3.2.2.2.1,q3.2.2.2.2.1,q3.2.2.2.2.2.1,q3.2.2.2.2.2.2.1,q3.2.2.2.2.2.2.2.1,(q3.2.2.2.2.2.2.2.2.1 ++ ([A9 V3]:bSH)),()) x6)) (ag 1 (H71 317 [bSF,A5 q3] [bP u2,aB V7] fun V3 LQ GN=>chk (decide (q3.2.2.2.2.2.2.2.2.1.length+1<=aQ)) (SX LQ GN (q3.1,q3.2.1,q3.2.2.1,q3.2.2.2.1,q3.2.2.2.2.1,q3.2.2.2.2.2.1,q3.2.2.2.2.2.2.1,q3.2.2.2.2.2.2.2.1,(q3.2.2.2.2.2.2.2.2.1 ++ ([A9 V3]:bSH)),()) x6)))) (cO 133 [bSF,bSD 14] [aB V7] fun _ LU=>SX u2 LU q3 x6)))) (a3B u2 pJ q3)) (a3B u2 u11 q3):=Et ll
theorem b3A (q0:Sh.V dA) (q1:Sh.V aH) (q3:Sh.V jJ):a3B q0 q1 q3=a3D q0 q1 q3.1 q3.2.1 q3.2.2.1 q3.2.2.2.1 q3.2.2.2.2.2.1 q3.2.2.2.2.2.2.1 q3.2.2.2.2.2.2.2.1 q3.2.2.2.2.2.2.2.2.1 0:=by kernel_rfl
theorem b3K (q0:Sh.V dA) (q1:Sh.V aH) (eH:bSG) (rQ:bSH) (KQ:bSH) (Oi:bSH) (UF:Int) (UG:bSH) (UH:bSH) (UI:bSH) (Pq:Int):a3D q0 q1 eH rQ KQ Oi UF UG UH UI Pq=aA (decide (Pq<(KQ.length:Int))) (chk (decide (Oi.length+1<=aQ)) (a3D q0 q1 eH rQ KQ (Oi ++ ([bSD Pq]:bSH)) UF UG UH UI (i64.wrap (Pq+1)))) (chk (decide (q0.2.2.1.length+1<=aQ)) (some (.tuple [],[bP (q0.1,q0.2.1,(q0.2.2.1 ++ ([A5 (eH,rQ,KQ,Oi,(rQ.length:Int),UF,UG,UH,UI,())]:bSH)),q0.2.2.2.1,q0.2.2.2.2.1,q0.2.2.2.2.2.1,q0.2.2.2.2.2.2.1,q0.2.2.2.2.2.2.2.1,q0.2.2.2.2.2.2.2.2.1,()),aB q1]))):=ll
theorem b3L (h0:Sh.V dA) (h1:Sh.V aH):SS.CC 263 [bSF] [bP h0,aB h1]=Nl h0 h1 [] 0:=cc
def aGW:KT:=SS.rK Tryz.f264 264 2 []
def b3V:KT:=SS.jK 264 73 2 (cS Tryz.f264 15) aGW
def b3W:KT:=aj 0 b3V
def Nr (q0:Sh.V qw) (q1:Sh.V aH) (x18:bSH) (x19:Int) (x3:bSH) (x20:Int):R:=SS.LL (SS.ae 264 73) 2 [1,2,3,18,19,20] 4 (cS Tryz.f264 75) b3W ⟨[(1,.ptr 2 0),(2,.ptr 3 0),(3,.sl true 1 x3),(18,.sl true 3 x18),(19,bSD x19),(20,bSD x20)],[uV q0,aB q1,some [bSF],qQ (⟨#[]⟩,⟨#[]⟩,[],())]⟩
def a3G (q0:Sh.V qw) (q1:Sh.V aH) (q4:Sh.V jf):R:=bH (SS.xX 264 73 2) (cS Tryz.f264 511) aGW ⟨[(1,.ptr 2 0),(2,.ptr 3 0),(6,.ptr 4 0)],[uV q0,aB q1,some [bSF],qQ (⟨#[]⟩,⟨#[]⟩,[],()),qQ q4]⟩
theorem aGX (q0:Sh.V qw) (q1:Sh.V aH) (x18:bSH) (x19:Int) (x3:bSH) (x20:Int):Nr q0 q1 x18 x19 x3 x20=aA (decide (x20<x19)) (bD S8 x18 x20 fun u2=>chk (decide (x3.length+1<=aQ)) (Nr q0 q1 x18 x19 (x3 ++ ([.str u2.1]:bSH)) (i64.wrap (x20+1)))) (H73 314 [bSF,bSE x3] [uV q0,aB q1] fun s5 u6 u15=>cO 128 [bSF,.str ⟨#[61]⟩] [aB u15] fun _ u21=>sJ 129 [bSF] [aB u21] fun Ic u28=>cO 128 [bSF,.str ⟨#[40]⟩] [aB u28] fun _ u34=>kK 257 [bSF,.str ⟨#[41]⟩] [aB u34] fun JE xx=>aA (!JE) (H74 286 [bSF,.func (.func 318) [] [.ptr 1 0,.ptr 2 0]] [aB xx,qQ (s5,Ic,[],()),some [.ptr 3 0],O62 u6] fun _ zu u51 xy=>a3G xy zu u51) (a3G u6 xx (s5,Ic,[],()))):=ll
theorem b3U (q0:Sh.V qw) (q1:Sh.V aH) (q4:Sh.V jf):a3G q0 q1 q4=cO 128 [bSF,.str ⟨#[41]⟩] [aB q1] fun _ u1=>cO 128 [bSF,.str ⟨#[59]⟩] [aB u1] fun _ u7=>some (A8 q4,[uV q0,aB u7]):=by kernel_rfl
theorem b3X (h0:Sh.V qw) (h1:Sh.V aH):SS.CC 264 [bSF] [uV h0,aB h1]=En 45 [.sl false 3 h0.2.2.2.1] fun l1=>chk (decide (l1.length+h0.2.2.2.2.1.length<=aQ)) (Nr h0 h1 (l1 ++ h0.2.2.2.2.1) ((l1 ++ h0.2.2.2.2.1).length:Int) [] 0):=cc
def aGS:KT:=SS.rK Tryz.f264 264 2 []
def b3N:KT:=SS.jK 264 73 2 (cS Tryz.f264 15) aGS
def b3O:KT:=aj 0 b3N
def Np (q0:Sh.V dA) (q1:Sh.V aH) (x18:bSH) (x19:Int) (x3:bSH) (x20:Int):R:=SS.LL (SS.ae 264 73) 2 [1,2,3,18,19,20] 4 (cS Tryz.f264 75) b3O ⟨[(1,.ptr 2 0),(2,.ptr 3 0),(3,.sl true 1 x3),(18,.sl true 3 x18),(19,bSD x19),(20,bSD x20)],[bP q0,aB q1,some [bSF],qQ (⟨#[]⟩,⟨#[]⟩,[],())]⟩
def a3E (q0:Sh.V dA) (q1:Sh.V aH) (q4:Sh.V jf):R:=bH (SS.xX 264 73 2) (cS Tryz.f264 511) aGS ⟨[(1,.ptr 2 0),(2,.ptr 3 0),(6,.ptr 4 0)],[bP q0,aB q1,some [bSF],qQ (⟨#[]⟩,⟨#[]⟩,[],()),qQ q4]⟩
theorem aGT (q0:Sh.V dA) (q1:Sh.V aH) (x18:bSH) (x19:Int) (x3:bSH) (x20:Int):Np q0 q1 x18 x19 x3 x20=aA (decide (x20<x19)) (bD S8 x18 x20 fun u2=>chk (decide (x3.length+1<=aQ)) (Np q0 q1 x18 x19 (x3 ++ ([.str u2.1]:bSH)) (i64.wrap (x20+1)))) (JC 314 [bSF,bSE x3] [bP q0,aB q1] fun s5 u6 u15=>cO 128 [bSF,.str ⟨#[61]⟩] [aB u15] fun _ u21=>sJ 129 [bSF] [aB u21] fun Ic u28=>cO 128 [bSF,.str ⟨#[40]⟩] [aB u28] fun _ u34=>kK 257 [bSF,.str ⟨#[41]⟩] [aB u34] fun JE xx=>aA (!JE) (H75 286 [bSF,.func (.func 318) [] [.ptr 1 0,.ptr 2 0]] [aB xx,qQ (s5,Ic,[],()),some [.ptr 3 0],DX u6] fun _ zu u51 xy=>a3E xy zu u51) (a3E u6 xx (s5,Ic,[],()))):=ll
theorem b3M (q0:Sh.V dA) (q1:Sh.V aH) (q4:Sh.V jf):a3E q0 q1 q4=cO 128 [bSF,.str ⟨#[41]⟩] [aB q1] fun _ u1=>cO 128 [bSF,.str ⟨#[59]⟩] [aB u1] fun _ u7=>some (A8 q4,[bP q0,aB u7]):=by kernel_rfl
theorem b3P (h0:Sh.V dA) (h1:Sh.V aH):SS.CC 264 [bSF] [bP h0,aB h1]=En 45 [.sl false 3 h0.2.2.2.1] fun l1=>chk (decide (l1.length+h0.2.2.2.2.1.length<=aQ)) (Np h0 h1 (l1 ++ h0.2.2.2.2.1) ((l1 ++ h0.2.2.2.2.1).length:Int) [] 0):=cc
def aGU:KT:=SS.rK Tryz.f264 264 2 []
def b3R:KT:=SS.jK 264 73 2 (cS Tryz.f264 15) aGU
def b3S:KT:=aj 0 b3R
def Nq (q0:Sh.V qx) (q1:Sh.V aH) (x18:bSH) (x19:Int) (x3:bSH) (x20:Int):R:=SS.LL (SS.ae 264 73) 2 [1,2,3,18,19,20] 4 (cS Tryz.f264 75) b3S ⟨[(1,.ptr 2 0),(2,.ptr 3 0),(3,.sl true 1 x3),(18,.sl true 3 x18),(19,bSD x19),(20,bSD x20)],[uX q0,aB q1,some [bSF],qQ (⟨#[]⟩,⟨#[]⟩,[],())]⟩
def a3F (q0:Sh.V qx) (q1:Sh.V aH) (q4:Sh.V jf):R:=bH (SS.xX 264 73 2) (cS Tryz.f264 511) aGU ⟨[(1,.ptr 2 0),(2,.ptr 3 0),(6,.ptr 4 0)],[uX q0,aB q1,some [bSF],qQ (⟨#[]⟩,⟨#[]⟩,[],()),qQ q4]⟩
theorem aGV (q0:Sh.V qx) (q1:Sh.V aH) (x18:bSH) (x19:Int) (x3:bSH) (x20:Int):Nq q0 q1 x18 x19 x3 x20=aA (decide (x20<x19)) (bD S8 x18 x20 fun u2=>chk (decide (x3.length+1<=aQ)) (Nq q0 q1 x18 x19 (x3 ++ ([.str u2.1]:bSH)) (i64.wrap (x20+1)))) (H76 314 [bSF,bSE x3] [uX q0,aB q1] fun s5 u6 u15=>cO 128 [bSF,.str ⟨#[61]⟩] [aB u15] fun _ u21=>sJ 129 [bSF] [aB u21] fun Ic u28=>cO 128 [bSF,.str ⟨#[40]⟩] [aB u28] fun _ u34=>kK 257 [bSF,.str ⟨#[41]⟩] [aB u34] fun JE xx=>aA (!JE) (H77 286 [bSF,.func (.func 318) [] [.ptr 1 0,.ptr 2 0]] [aB xx,qQ (s5,Ic,[],()),some [.ptr 3 0],O63 u6] fun _ zu u51 xy=>a3F xy zu u51) (a3F u6 xx (s5,Ic,[],()))):=ll
theorem b3Q (q0:Sh.V qx) (q1:Sh.V aH) (q4:Sh.V jf):a3F q0 q1 q4=cO 128 [bSF,.str ⟨#[41]⟩] [aB q1] fun _ u1=>cO 128 [bSF,.str ⟨#[59]⟩] [aB u1] fun _ u7=>some (A8 q4,[uX q0,aB u7]):=by kernel_rfl
theorem b3T (h0:Sh.V qx) (h1:Sh.V aH):SS.CC 264 [bSF] [uX h0,aB h1]=En 45 [.sl false 3 h0.2.2.2.1] fun l1=>chk (decide (l1.length+h0.2.2.2.2.1.length<=aQ)) (Nq h0 h1 (l1 ++ h0.2.2.2.2.1) ((l1 ++ h0.2.2.2.2.1).length:Int) [] 0):=cc
def b3Y:KT:=SS.rK Tryz.f265 265 2 []
def b3Z:KT:=SS.jK 265 54 2 (cS Tryz.f265 15) b3Y
def b41:KT:=aj 0 b3Z
def Ns (q0:Sh.V dA) (q1:Sh.V aH) (x2:bSH) (x12:Int):R:=SS.LL (SS.ae 265 54) 2 [1,2,10,11,12] 3 (cS Tryz.f265 75) b41 ⟨[(1,.ptr 2 0),(2,.sl true 1 x2),(10,.sl false 2 q0.2.2.2.2.2.1),(11,bSD (q0.2.2.2.2.2.1.length:Int)),(12,bSD x12)],[bP q0,aB q1,some [bSF]]⟩
theorem aGY (q0:Sh.V dA) (q1:Sh.V aH) (x2:bSH) (x12:Int):Ns q0 q1 x2 x12=aA (decide (x12<(q0.2.2.2.2.2.1.length:Int))) (bD je q0.2.2.2.2.2.1 x12 fun u2=>chk (decide (x2.length+1<=aQ)) (Ns q0 q1 (x2 ++ ([.str u2.1]:bSH)) (i64.wrap (x12+1)))) (JC 314 [bSF,bSE x2] [bP q0,aB q1] fun s4 u5 u14=>cO 128 [bSF,.str ⟨#[58]⟩] [aB u14] fun _ u20=>H78 286 [bSF,.func (.func 319) [] [.ptr 1 0,.ptr 2 0]] [aB u20,some [.ptr 3 0],kM (s4,[],()),DX u5] fun _ u26 u30 u32=>cO 128 [bSF,.str ⟨#[59]⟩] [aB u26] fun _ u43=>chk (decide (u32.2.2.2.2.2.1.length+1<=aQ)) (some (.tuple [],[bP (u32.1,u32.2.1,u32.2.2.1,u32.2.2.2.1,u32.2.2.2.2.1,(u32.2.2.2.2.2.1 ++ ([zB u30]:bSH)),u32.2.2.2.2.2.2.1,u32.2.2.2.2.2.2.2.1,u32.2.2.2.2.2.2.2.2.1,()),aB u43]))):=ll
theorem b43 (h0:Sh.V dA) (h1:Sh.V aH):SS.CC 265 [bSF] [bP h0,aB h1]=Ns h0 h1 [] 0:=cc
def a3I:KT:=SS.rK Tryz.f266 266 2 []
def b49:KT:=SS.jK 266 89 2 (cS Tryz.f266 7) a3I
def b4A:KT:=aj 0 b49
def b4B:KT:=SS.jK 266 89 2 (cS Tryz.f266 63) a3I
def b4C:KT:=aj 2 b4B
def Nu (q0:Sh.V dA) (q1:Sh.V aH) (x2:bSH) (x14:Int):R:=SS.LL (SS.ae 266 89) 2 [0,2,12,13,14] 2 (cS Tryz.f266 37) b4A ⟨[(0,bSF),(2,.sl true 1 x2),(12,.sl false 3 q0.2.2.2.2.2.2.1),(13,bSD (q0.2.2.2.2.2.2.1.length:Int)),(14,bSD x14)],[bP q0,aB q1]⟩
def a3J (q0:Sh.V dA) (q1:Sh.V aH) (nR:bSG) (x6:Bool) (Ai:bSH):R:=SS.LL (SS.ae 266 89) 2 [0,5,6] 3 (cS Tryz.f266 303) b4C ⟨[(0,bSF),(5,.ptr 2 0),(6,.bool x6)],[bP q0,aB q1,Vf (nR,Ai,0,())]⟩
def a3H (q0:Sh.V dA) (q1:Sh.V aH) (nR:bSG) (Ai:bSH):R:=bH (SS.xX 266 89 2) (cS Tryz.f266 63) a3I ⟨[(0,bSF),(5,.ptr 2 0)],[bP q0,aB q1,Vf (nR,Ai,0,())]⟩
theorem aG' (q0:Sh.V dA) (q1:Sh.V aH) (x2:bSH) (x14:Int):Nu q0 q1 x2 x14=aA (decide (x14<(q0.2.2.2.2.2.2.1.length:Int))) (bD iW q0.2.2.2.2.2.2.1 x14 fun u2=>chk (decide (x2.length+1<=aQ)) (Nu q0 q1 (x2 ++ ([.str u2.1]:bSH)) (i64.wrap (x14+1)))) (JC 314 [bSF,bSE x2] [bP q0,aB q1] fun s5 u6 u15=>cO 128 [bSF,.str ⟨#[58]⟩] [aB u15] fun _ u21=>a3J u6 u21 s5 true []):=ll
theorem aGZ (q0:Sh.V dA) (q1:Sh.V aH) (nR:bSG) (x6:Bool) (Ai:bSH):a3J q0 q1 nR x6 Ai=aA x6 (Qc 214 [bSF] [bP q0,aB q1] fun b1 u2 u11=>aA (!b1) (H72 316 [bSF] [bP u2,aB u11] fun n17 pJ u27=>cO 128 [bSF,.str ⟨#[42]⟩] [aB u27] fun _ u33=>sJ 129 [bSF] [aB u33] fun s39 u40=>chk (decide (Ai.length+1<=aQ)) (kK 197 [bSF,.str ⟨#[43]⟩] [aB u40] fun b46 zu=>a3J pJ zu nR b46 (Ai ++ ([QP (s39,n17,())]:bSH)))) (a3H u2 u11 nR Ai)) (a3H q0 q1 nR Ai):=ll
theorem b45 (q0:Sh.V dA) (q1:Sh.V aH) (nR:bSG) (Ai:bSH):a3H q0 q1 nR Ai=cO 128 [bSF,.str ⟨#[60,61]⟩] [aB q1] fun _ u1=>H72 316 [bSF] [bP q0,aB u1] fun n7 u8 yc=>cO 128 [bSF,.str ⟨#[59]⟩] [aB yc] fun _ u23=>chk (decide (u8.2.2.2.2.2.2.1.length+1<=aQ)) (some (.tuple [],[bP (u8.1,u8.2.1,u8.2.2.1,u8.2.2.2.1,u8.2.2.2.2.1,u8.2.2.2.2.2.1,(u8.2.2.2.2.2.2.1 ++ ([uT (nR,Ai,n7,())]:bSH)),u8.2.2.2.2.2.2.2.1,u8.2.2.2.2.2.2.2.2.1,()),aB u23])):=by kernel_rfl
theorem b4D (h0:Sh.V dA) (h1:Sh.V aH):SS.CC 266 [bSF] [bP h0,aB h1]=Nu h0 h1 [] 0:=cc
def b4J:KT:=SS.rK Tryz.f272 272 2 []
def Xq (q0:Sh.V jI) (q1:Sh.V aH):R:=bH (SS.xX 272 30 2) (cS Tryz.f272 7) b4J ⟨[(0,bSF)],[kE q0,aB q1]⟩
theorem b4I (q0:Sh.V jI) (q1:Sh.V aH):Xq q0 q1=sJ 129 [bSF] [aB q1] fun s1 u2=>some (.str s1,[kE q0,aB u2]):=by kernel_rfl
theorem b4K (a1:bSH) (h0:Sh.V jI) (h1:Sh.V aH):SS.CC 272 [bSF,bSE a1] [kE h0,aB h1]=nH 131 [bSF] [aB h1] fun u1 u6=>aA (u1.1==1) (G3 25 [bSE a1,.str u1.2.1] fun b12=>aA b12 (cO 133 [bSF,bSD 8] [aB u6] fun _ u14=>Xq h0 u14) (Xq h0 u6)) (Xq h0 u6):=cc
theorem b4O (a0:Sh.V S5):SS.CC 277 [A5 a0] []=some (.str a0.1,[]):=cc
theorem b4P (h0:Sh.V lU) (h1:Sh.V jf) (h3:Sh.V aH):SS.CC 278 [bSF,.func (.func 284) [] [.ptr 1 0,.ptr 2 0]] [oQ h0,qQ h1,some [bSF],aB h3]=cO 128 [bSF,.str ⟨#[40]⟩] [aB h3] fun _ u1=>kK 257 [bSF,.str ⟨#[41]⟩] [aB u1] fun b7 u8=>aA (!b7) (aRN 286 [bSF,.func (.func 284) [] [.ptr 1 0,.ptr 2 0]] [aB u8,qQ h1,some [.ptr 3 0],DY h0] fun _ u14 pJ u21=>cO 128 [bSF,.str ⟨#[41]⟩] [aB u14] fun _ u25=>some (.tuple [],[oQ u21,qQ pJ,some [bSF],aB u25])) (cO 128 [bSF,.str ⟨#[41]⟩] [aB u8] fun _ u31=>some (.tuple [],[oQ h0,qQ h1,some [bSF],aB u31])):=cc
theorem b4Q (h0:Sh.V lU) (h1:Sh.V jJ) (h3:Sh.V aH):SS.CC 278 [bSF,.func (.func 279) [] [.ptr 1 0,.ptr 2 0]] [oQ h0,qR h1,some [bSF],aB h3]=cO 128 [bSF,.str ⟨#[40]⟩] [aB h3] fun _ u1=>kK 257 [bSF,.str ⟨#[41]⟩] [aB u1] fun b7 u8=>aA (!b7) (H97 286 [bSF,.func (.func 279) [] [.ptr 1 0,.ptr 2 0]] [aB u8,qR h1,some [.ptr 3 0],DY h0] fun _ u14 pJ u27=>cO 128 [bSF,.str ⟨#[41]⟩] [aB u14] fun _ u31=>some (.tuple [],[oQ u27,qR pJ,some [bSF],aB u31])) (cO 128 [bSF,.str ⟨#[41]⟩] [aB u8] fun _ u37=>some (.tuple [],[oQ h0,qR h1,some [bSF],aB u37])):=cc
theorem b4R (a0:Sh.V S8):SS.CC 283 [A8 a0] []=some (.str a0.1,[]):=cc
theorem b4S (a0:Sh.V je):SS.CC 285 [zB a0] []=some (.str a0.1,[]):=cc
def b4X:KT:=SS.rK Tryz.f286 286 4 []
def b4Y:KT:=aj 0 b4X
def a3L (q0:Sh.V aH) (q2:Sh.V ku) (q3:Sh.V tu):R:=SS.LL (SS.ae 286 19) 4 [0,1] 4 (cS Tryz.f286 19) b4Y ⟨[(0,bSF),(1,.func (.func 287) [] [.ptr 1 0,.ptr 2 0])],[aB q0,some [.ptr 3 0],kM q2,DY q3]⟩
theorem b4Z (q0:Sh.V aH) (q2:Sh.V ku) (q3:Sh.V tu):a3L q0 q2 q3=aA (q0.2.2.2.1==0) (kK 197 [bSF,.str ⟨#[44]⟩] [aB q0] fun b1 u2=>aA b1 (a0J 287 [bSF,.ptr 1 0] [some [.ptr 2 0],kM q2,oQ q3,aB u2] fun _ u8 u10 u12=>a3L u12 u8 u10) (some (.tuple [],[aB u2,some [.ptr 3 0],kM q2,DY q3]))) (some (.tuple [],[aB q0,some [.ptr 3 0],kM q2,DY q3])):=ll
theorem b4' (h0:Sh.V aH) (h2:Sh.V ku) (h3:Sh.V tu):SS.CC 286 [bSF,.func (.func 287) [] [.ptr 1 0,.ptr 2 0]] [aB h0,some [.ptr 3 0],kM h2,DY h3]=a0J 287 [bSF,.ptr 1 0] [some [.ptr 2 0],kM h2,oQ h3,aB h0] fun _ u1 u3 u5=>a3L u5 u1 u3:=cc
def b4T:KT:=SS.rK Tryz.f286 286 4 []
def b4U:KT:=aj 0 b4T
def a3K (q0:Sh.V aH) (q2:Sh.V ku) (q3:Sh.V uf):R:=SS.LL (SS.ae 286 19) 4 [0,1] 4 (cS Tryz.f286 19) b4U ⟨[(0,bSF),(1,.func (.func 319) [] [.ptr 1 0,.ptr 2 0])],[aB q0,some [.ptr 3 0],kM q2,DX q3]⟩
theorem b4V (q0:Sh.V aH) (q2:Sh.V ku) (q3:Sh.V uf):a3K q0 q2 q3=aA (q0.2.2.2.1==0) (kK 197 [bSF,.str ⟨#[44]⟩] [aB q0] fun b1 u2=>aA b1 (H96 319 [bSF,.ptr 1 0] [some [.ptr 2 0],kM q2,Gl q3,aB u2] fun _ u8 u10 GR=>a3K GR u8 u10) (some (.tuple [],[aB u2,some [.ptr 3 0],kM q2,DX q3]))) (some (.tuple [],[aB q0,some [.ptr 3 0],kM q2,DX q3])):=ll
theorem b4W (h0:Sh.V aH) (h2:Sh.V ku) (h3:Sh.V uf):SS.CC 286 [bSF,.func (.func 319) [] [.ptr 1 0,.ptr 2 0]] [aB h0,some [.ptr 3 0],kM h2,DX h3]=H96 319 [bSF,.ptr 1 0] [some [.ptr 2 0],kM h2,Gl h3,aB h0] fun _ u1 u3 u12=>a3K u12 u1 u3:=cc
theorem b50 (h1:Sh.V ku) (h2:Sh.V lU) (h3:Sh.V aH):SS.CC 287 [bSF,.ptr 1 0] [some [.ptr 2 0],kM h1,oQ h2,aB h3]=sJ 129 [bSF] [aB h3] fun s1 u2=>sJ 129 [bSF] [aB u2] fun s8 u9=>chk (decide (h1.2.1.length+1<=aQ)) (some (.tuple [],[some [.ptr 2 0],kM (h1.1,(h1.2.1 ++ ([zC (s1,s8,())]:bSH)),()),oQ h2,aB u9])):=cc
theorem b51 (a0:Sh.V iW):SS.CC 288 [uT a0] []=some (.str a0.1,[]):=cc
theorem b52 (h0:Sh.V jI) (h1:Sh.V aH):SS.CC 289 [bSF] [kE h0,aB h1]=H67 276 [bSF,bSD (-65536),bSD 65536] [aB h1] fun n1 u2=>some (bSD n1,[kE h0,aB u2]):=cc
def b5T:KT:=SS.rK Tryz.f314 314 2 []
def Xw (q0:Sh.V qw) (q1:Sh.V aH):R:=bH (SS.xX 314 30 2) (cS Tryz.f314 7) b5T ⟨[(0,bSF)],[uV q0,aB q1]⟩
theorem b5S (q0:Sh.V qw) (q1:Sh.V aH):Xw q0 q1=sJ 129 [bSF] [aB q1] fun s1 u2=>some (.str s1,[uV q0,aB u2]):=by kernel_rfl
theorem b5U (a1:bSH) (h0:Sh.V qw) (h1:Sh.V aH):SS.CC 314 [bSF,bSE a1] [uV h0,aB h1]=nH 131 [bSF] [aB h1] fun u1 u6=>aA (u1.1==1) (G3 25 [bSE a1,.str u1.2.1] fun b12=>aA b12 (cO 133 [bSF,bSD 8] [aB u6] fun _ u14=>Xw h0 u14) (Xw h0 u6)) (Xw h0 u6):=cc
def b5Z:KT:=SS.rK Tryz.f314 314 2 []
def Xy (q0:Sh.V dA) (q1:Sh.V aH):R:=bH (SS.xX 314 30 2) (cS Tryz.f314 7) b5Z ⟨[(0,bSF)],[bP q0,aB q1]⟩
theorem b5Y (q0:Sh.V dA) (q1:Sh.V aH):Xy q0 q1=sJ 129 [bSF] [aB q1] fun s1 u2=>some (.str s1,[bP q0,aB u2]):=by kernel_rfl
theorem b5' (a1:bSH) (h0:Sh.V dA) (h1:Sh.V aH):SS.CC 314 [bSF,bSE a1] [bP h0,aB h1]=nH 131 [bSF] [aB h1] fun u1 u6=>aA (u1.1==1) (G3 25 [bSE a1,.str u1.2.1] fun b12=>aA b12 (cO 133 [bSF,bSD 8] [aB u6] fun _ u14=>Xy h0 u14) (Xy h0 u6)) (Xy h0 u6):=cc
def b5W:KT:=SS.rK Tryz.f314 314 2 []
def Xx (q0:Sh.V qx) (q1:Sh.V aH):R:=bH (SS.xX 314 30 2) (cS Tryz.f314 7) b5W ⟨[(0,bSF)],[uX q0,aB q1]⟩
theorem b5V (q0:Sh.V qx) (q1:Sh.V aH):Xx q0 q1=sJ 129 [bSF] [aB q1] fun s1 u2=>some (.str s1,[uX q0,aB u2]):=by kernel_rfl
theorem b5X (a1:bSH) (h0:Sh.V qx) (h1:Sh.V aH):SS.CC 314 [bSF,bSE a1] [uX h0,aB h1]=nH 131 [bSF] [aB h1] fun u1 u6=>aA (u1.1==1) (G3 25 [bSE a1,.str u1.2.1] fun b12=>aA b12 (cO 133 [bSF,bSD 8] [aB u6] fun _ u14=>Xx h0 u14) (Xx h0 u6)) (Xx h0 u6):=cc
theorem b62 (h0:Sh.V dA) (h1:Sh.V aH):SS.CC 316 [bSF] [bP h0,aB h1]=H67 276 [bSF,bSD (-65536),bSD 65536] [aB h1] fun n1 u2=>some (bSD n1,[bP h0,aB u2]):=cc
theorem b63 (h1:Sh.V ku) (h2:Sh.V BM) (h3:Sh.V aH):SS.CC 319 [bSF,.ptr 1 0] [some [.ptr 2 0],kM h1,Gl h2,aB h3]=sK fun ag=>sJ 129 [bSF] [aB h3] fun s1 u2=>(fun z0 z1=>bn z0 (bn z0 z1)) (sJ 129 [bSF] [aB u2] fun s8 u9=>chk (decide (h1.2.1.length+1<=aQ)) (some (.tuple [],[some [.ptr 2 0],kM (h1.1,(h1.2.1 ++ ([zC (s1,s8,())]:bSH)),()),Gl h2,aB u9]))) (ag 1 (sJ 129 [bSF] [aB u2] fun s8 u9=>chk (decide (h1.2.1.length+1<=aQ)) (some (.tuple [],[some [.ptr 2 0],kM (h1.1,(h1.2.1 ++ ([zC (s1,s8,())]:bSH)),()),Gl h2,aB u9])))):=Et cc
end
abbrev wT (s:Nm) (a b:Int):Tok:=⟨1,s,0,a,b⟩
abbrev yT (s:Nm) (a b:Int):Tok:=⟨3,s,0,a,b⟩
abbrev nT (s:Nm) (v a b:Int):Tok:=⟨2,s,v,a,b⟩
section
variable {T:List Tok} {t:Tok} {s x:Nm} {a b v:Int}
theorem zQ:(1:Int)≠4:=by decide
theorem kk2:(2:Int)≠4:=by decide
theorem kk3:(3:Int)≠4:=by decide
theorem P7:(mk0 (t::T)).pk=t:=rfl
theorem a6P (h:di (t::T)) (hk:t.kind≠4):di T:=by
 rcases h with h | h
 .exact absurd h.1 hk
 .exact h.2
theorem iG (h:di (wT s a b::T)):di T:=a6P h zQ
theorem gQ (h:di (yT s a b::T)):di T:=a6P h kk3
theorem Oo (h:di (nT s v a b::T)):di T:=a6P h kk2
theorem CV (h:di (t::T)):SS.CC 131 [bSF] [aB (mk0 (t::T)).v]=some (kD (tk t),[aB (mk0 (t::T)).v]):=peek (wK h)
theorem Oh (h:di (t::T)) (hk:t.kind≠4):SS.CC 220 [bSF] [aB (mk0 (t::T)).v]=some (kD (tk t),[aB (mk0 T).v]):=by have e:=next (wK h);rw[Oc hk] at e;exact e
theorem iq (h:di (yT x a b::T)):SS.CC 128 [bSF,.str ⟨x.toArray⟩] [aB (mk0 (yT x a b::T)).v]=some (.tuple [],[aB (mk0 T).v]):=by
 have e:=aE6 (wK h) ⟨x.toArray⟩;have e2:(mk0 (yT x a b::T)).exp (⟨x.toArray⟩:bSG).data.toList=mk0 T:=by unfold RA.exp RA.is;rw[P7,Oc (t:=yT x a b) kk3];simp
 rw[e2] at e;exact e
theorem aE7 (h:di (wT x a b::T)):SS.CC 128 [bSF,.str ⟨x.toArray⟩] [aB (mk0 (wT x a b::T)).v]=some (.tuple [],[aB (mk0 T).v]):=by
 have e:=aE6 (wK h) ⟨x.toArray⟩;have e2:(mk0 (wT x a b::T)).exp (⟨x.toArray⟩:bSG).data.toList=mk0 T:=by unfold RA.exp RA.is;rw[P7,Oc (t:=wT x a b) zQ];simp
 rw[e2] at e;exact e
theorem ut (h:di (wT s a b::T)):SS.CC 129 [bSF] [aB (mk0 (wT s a b::T)).v]=some (.str (bs s),[aB (mk0 T).v]):=by
 have e:=bH2 (wK h);have e2:(mk0 (wT s a b::T)).name=mk0 T:=by unfold RA.name;rw[aJ (show (mk0 (wT s a b::T)).pk.kind=1 from rfl),Oc (t:=wT s a b) zQ]
 rw[e2] at e;exact e
theorem pz (h:di (t::T)) (r:Bool) (hr:((t.kind==1||t.kind==3)&&t.text==x)=r):SS.CC 257 [bSF,.str ⟨x.toArray⟩] [aB (mk0 (t::T)).v]=some (.bool r,[aB (mk0 (t::T)).v]):=by
 have e:=isc (wK h) ⟨x.toArray⟩;have e2:(mk0 (t::T)).is (⟨x.toArray⟩:bSG).data.toList=r:=by unfold RA.is;rw[P7,<- hr]
 rw[e2] at e;exact e
theorem GI (h:di (t::T)) (hr:((t.kind==1||t.kind==3)&&t.text==x)=false):SS.CC 197 [bSF,.str ⟨x.toArray⟩] [aB (mk0 (t::T)).v]=some (.bool false,[aB (mk0 (t::T)).v]):=by
 have e:=aA2 (wK h) ⟨x.toArray⟩;have e2:(mk0 (t::T)).is (⟨x.toArray⟩:bSG).data.toList=false:=by unfold RA.is;rw[P7,<- hr]
 rw[bMV e2,e2] at e;exact e
theorem bN3 (h:di (t::T)) (hk:t.kind≠4) (hr:((t.kind==1||t.kind==3)&&t.text==x)=true):SS.CC 197 [bSF,.str ⟨x.toArray⟩] [aB (mk0 (t::T)).v]=some (.bool true,[aB (mk0 T).v]):=by
 have e:=aA2 (wK h) ⟨x.toArray⟩;have e2:(mk0 (t::T)).is (⟨x.toArray⟩:bSG).data.toList=true:=by unfold RA.is;rw[P7,<- hr]
 rw[bMU e2,e2,Oc hk] at e;exact e
theorem inq {lo hi:Int} (h:di (nT s v a b::T)) (h0:lo<=v) (h1:v<=hi) (h2 : -65536<=v/\v<=65536):SS.CC 276 [bSF,bSD lo,bSD hi] [aB (mk0 (nT s v a b::T)).v]=some (bSD v,[aB (mk0 T).v]):=by
 have e:=bD7 (wK h) lo hi;have hm:(mk0 (nT s v a b::T)).mi=false:=rfl;have hw:i64.wrap (1*(mk0 (nT s v a b::T)).pk.value)=v:=by rw[P7,Int.one_mul]; exact wrap64 (by show _<=v; omega) (by show v<=_; omega)
 have e2:(mk0 (nT s v a b::T)).int lo hi=mk0 T:=by unfold RA.int RA.num;rw[hm,qN,aJ (show (mk0 (nT s v a b::T)).pk.kind=2 from rfl),hw,aK (by omega),Oc (t:=nT s v a b) kk2]
 have e3:(mk0 (nT s v a b::T)).YY lo hi=v:=by unfold RA.YY RA.UE;rw[hm,qN,aJ (show (mk0 (nT s v a b::T)).pk.kind=2 from rfl),hw,aK (by omega)]
 rw[e2,e3] at e;exact e
theorem X3:SS.CC 104 [bSF] [aB (mk0 T).v]=some (.tuple [bSD 0,bSD 0,bSD 0],[aB (mk0 T).v]):=aDW (mk0 T)
theorem Oq (q:Sh.V jI):SS.CC 130 [bSF] [kE q,aB (mk0 T).v]=some (.bool true,[kE q,aB (mk0 T).v]):=by rw[aF3,MJ X3]; rfl
theorem Rl (q:Sh.V dA):SS.CC 214 [bSF] [bP q,aB (mk0 T).v]=some (.bool false,[bP q,aB (mk0 T).v]):=by rw[b0U,MJ X3]; rfl
theorem Qo (q:Sh.V jI) {l:List Nm} (hl:l.length<=1000) (hs:s∉l) (h:di (wT s a b::T)):SS.CC 272 [bSF,bSE (aS l)] [kE q,aB (mk0 (wT s a b::T)).v]=some (.str (bs s),[kE q,aB (mk0 T).v]):=by rw[b4K,lw (CV h)];show aA true (G3 25 [bSE (aS l),.str (bs s)] _) _=_;rw[aG,bF (Jl l hl s),aT hs,aC,b4I,uU (ut h)]
theorem Vq (q:Sh.V dA) {l:List Nm} (hl:l.length<=1000) (hs:s∉l) (h:di (wT s a b::T)):SS.CC 314 [bSF,bSE (aS l)] [bP q,aB (mk0 (wT s a b::T)).v]=some (.str (bs s),[bP q,aB (mk0 T).v]):=by rw[b5',lw (CV h)];show aA true (G3 25 [bSE (aS l),.str (bs s)] _) _=_;rw[aG,bF (Jl l hl s),aT hs,aC,b5Y,uU (ut h)]
theorem aSH (q:Sh.V qw) {l:List Nm} (hl:l.length<=1000) (hs:s∉l) (h:di (wT s a b::T)):SS.CC 314 [bSF,bSE (aS l)] [uV q,aB (mk0 (wT s a b::T)).v]=some (.str (bs s),[uV q,aB (mk0 T).v]):=by rw[b5U,lw (CV h)];show aA true (G3 25 [bSE (aS l),.str (bs s)] _) _=_;rw[aG,bF (Jl l hl s),aT hs,aC,b5S,uU (ut h)]
theorem aSI (q:Sh.V qx) {l:List Nm} (hl:l.length<=1000) (hs:s∉l) (h:di (wT s a b::T)):SS.CC 314 [bSF,bSE (aS l)] [uX q,aB (mk0 (wT s a b::T)).v]=some (.str (bs s),[uX q,aB (mk0 T).v]):=by rw[b5X,lw (CV h)];show aA true (G3 25 [bSE (aS l),.str (bs s)] _) _=_;rw[aG,bF (Jl l hl s),aT hs,aC,b5V,uU (ut h)]
end
theorem aDD (l:List Ins) (hn:l.length<=1000):SS.CC 59 [.sl false 3 (l.map cu),.func (.func 283) [] []] []=some (bSE (aS (l.map (·.n))),[]):=by
 rw[b96];refine jy (n:=l.length) (L:=fun k=>Y9 (l.map cu) (aS ((l.take k).map (·.n))) (k:Int)) (fun k hk => ?_) ?_
 .rw[aIH,aO (by rw[ak]; omega),aG,zU hk,oO (b4R _),aX (jZ (rP _ l k hn)),rO (·.n) l hk,bV (by omega)]
 .rw[aIH,aT (by rw[ak]; omega),aC,nZ (bW _)]
theorem aUJ (l:List Tm) (hn:l.length<=1000):SS.CC 61 [.sl false 9 (l.map wP),.func (.func 277) [] []] []=some (bSE (aS (l.map (·.n))),[]):=by
 rw[b9F];refine jy (n:=l.length) (L:=fun k=>YB (l.map wP) (aS ((l.take k).map (·.n))) (k:Int)) (fun k hk => ?_) ?_
 .rw[aIJ,aO (by rw[ak]; omega),aG,FP hk,oO (b4O _),aX (jZ (rP _ l k hn)),rO (·.n) l hk,bV (by omega)]
 .rw[aIJ,aT (by rw[ak]; omega),aC,nZ (bW _)]
theorem aUK (l:List vX) (hn:l.length<=1000):SS.CC 63 [.sl false 2 (l.map uw),.func (.func 285) [] []] []=some (bSE (aS (l.map (·.n))),[]):=by
 rw[b9O];refine jy (n:=l.length) (L:=fun k=>YE (l.map uw) (aS ((l.take k).map (·.n))) (k:Int)) (fun k hk => ?_) ?_
 .rw[aIL,aO (by rw[ak]; omega),aG,EE hk,oO (b4S _),aX (jZ (rP _ l k hn)),rO (·.n) l hk,bV (by omega)]
 .rw[aIL,aT (by rw[ak]; omega),aC,nZ (bW _)]
theorem aUI (l:List Cst) (hn:l.length<=1000):SS.CC 65 [.sl false 3 (l.map nC),.func (.func 288) [] []] []=some (bSE (aS (l.map (·.n))),[]):=by
 rw[b9X];refine jy (n:=l.length) (L:=fun k=>YG (l.map nC) (aS ((l.take k).map (·.n))) (k:Int)) (fun k hk => ?_) ?_
 .rw[aIN,aO (by rw[ak]; omega),aG,FO hk,oO (b51 _),aX (jZ (rP _ l k hn)),rO (·.n) l hk,bV (by omega)]
 .rw[aIN,aT (by rw[ak]; omega),aC,nZ (bW _)]
abbrev D6 (s:Nm):Tm:=⟨s,[],[],[],0,0,[],[],[]⟩
abbrev qW (s:Nm):Ins:=⟨s,[116],[]⟩
abbrev Bd (s:Nm):vX:=⟨s,[([99],[108])]⟩
abbrev ct0 (s:Nm):Cst:=⟨s,[([99],1)],0⟩
abbrev qP:Sh.V jI:=(0,[],())
section
variable {T:List Tok} {s:Nm} {a0 b0 a1 b1 a2 b2 a3 b3 a4 b4 a5 b5 a6 b6 a7 b7 a8 b8:Int}
abbrev Uy (s:Nm) (a0 b0 a1 b1 a2 b2 a3 b3 a4 b4:Int) (T:List Tok):List Tok:=wT s a0 b0::yT [40] a1 b1::yT [41] a2 b2::yT [123] a3 b3::yT [125] a4 b4::T
abbrev BA (s:Nm) (a0 b0 a1 b1 a2 b2 a3 b3 a4 b4 a5 b5:Int) (T:List Tok):List Tok:=wT s a0 b0::yT [61] a1 b1::wT [116] a2 b2::yT [40] a3 b3::yT [41] a4 b4::yT [59] a5 b5::T
abbrev Uz (s:Nm) (a0 b0 a1 b1 a2 b2 a3 b3 a4 b4:Int) (T:List Tok):List Tok:=wT s a0 b0::yT [58] a1 b1::wT [99] a2 b2::wT [108] a3 b3::yT [59] a4 b4::T
abbrev Ux (s:Nm) (a0 b0 a1 b1 a2 b2 a3 b3 a4 b4 a5 b5 a6 b6 a7 b7:Int) (T:List Tok):List Tok:=wT s a0 b0::yT [58] a1 b1::nT [49] 1 a2 b2::yT [42] a3 b3::wT [99] a4 b4::yT [60,61] a5 b5::nT [48] 0 a6 b6::yT [59] a7 b7::T
theorem bP1 (q:Sh.V lU) (y:Sh.V jJ) (h:di (yT [40] a0 b0::yT [41] a1 b1::T)):SS.CC 278 [bSF,.func (.func 279) [] [.ptr 1 0,.ptr 2 0]] [oQ q,qR y,some [bSF],aB (mk0 (yT [40] a0 b0::yT [41] a1 b1::T)).v]=some (.tuple [],[oQ q,qR y,some [bSF],aB (mk0 T).v]):=by
 rw[b4Q,fQ (iq h)];try dsimp only
 rw[jd (pz (gQ h) true rfl),nG,aC,fQ (iq (gQ h))]
theorem aR6 (q:Sh.V lU) (y:Sh.V jf) (h:di (yT [40] a0 b0::yT [41] a1 b1::T)):SS.CC 278 [bSF,.func (.func 284) [] [.ptr 1 0,.ptr 2 0]] [oQ q,qQ y,some [bSF],aB (mk0 (yT [40] a0 b0::yT [41] a1 b1::T)).v]=some (.tuple [],[oQ q,qQ y,some [bSF],aB (mk0 T).v]):=by
 rw[b4P,fQ (iq h)];try dsimp only
 rw[jd (pz (gQ h) true rfl),nG,aC,fQ (iq (gQ h))]
theorem EI {α β:Type} (f:α->β) (l:List α) (x:α):l.map f ++ [f x]=(l ++ [x]).map f:=by simp
theorem CQ {α:Type} (f:α->Nm) (l:List α) (h:l.length<=999):(l.map f).length<=1000:=by rw[bM]; omega
theorem rdT (m:Mo) (hm:m.ts.length<=999) (hs:s∉m.ts.map (·.n)) (h:di (Uy s a0 b0 a1 b1 a2 b2 a3 b3 a4 b4 T)) :
 SS.CC 224 [bSF,.ptr 1 0] [fB qP,bZ (aW m),aB (mk0 (Uy s a0 b0 a1 b1 a2 b2 a3 b3 a4 b4 T)).v]=some (.tuple [],[fB qP,bZ (aW { m with ts:=m.ts ++ [D6 s] }),aB (mk0 T).v]):=by
 have h1:=iG h;have h3:=gQ (gQ h1);have h4:=gQ h3;rw[b1C];dsimp only[sK];rw[xC (aUJ m.ts (by omega)),Qh (Qo _ (CQ _ _ hm) hs h)];try dsimp only
 rw[aS1 (bP1 _ _ h1)];try dsimp only
 rw[fQ (iq h3),b1B,Gi (Oq _)];try dsimp only
 rw[aG,jd (pz h4 true rfl),nG,aC,b0Y,fQ (iq h4)];try dsimp only
 have hn:SS.CC 180 [bSD ((([]:bSH).length:Nat):Int)] []=some (bSE [],[]):=aND 0 (by omega);rw[xC hn,aX (jZ (by rw[bM]; omega))];show some _=some _;rw[show (A5 (bs s,[],[],[],((([]:bSH).length:Nat):Int),0,[],[],[],()):PV)=wP (D6 s) from rfl,EI]
theorem rdI (m:Mo) (hm:m.cs.length+m.rs.length<=999) (hs:s∉(m.cs ++ m.rs).map (·.n)) (h:di (BA s a0 b0 a1 b1 a2 b2 a3 b3 a4 b4 a5 b5 T)) :
 SS.CC 226 [bSF,.ptr 1 0,.ptr 1 3] [fB qP,bZ (aW m),aB (mk0 (BA s a0 b0 a1 b1 a2 b2 a3 b3 a4 b4 a5 b5 T)).v]=some (.tuple [],[fB qP,bZ (aW { m with cs:=m.cs ++ [qW s] }),aB (mk0 T).v]):=by
 have h1:=iG h;have h2:=gQ h1;have h3:=iG h2;have h5:=gQ (gQ h3);rw[b1E];dsimp only[sK];rw[Gh (H6 m.cs (by omega)),aX (Bo (by rw[bM]; omega) (by rw[bM]; omega)),<- ry,xC (aDD (m.cs ++ m.rs) (by rw[aP]; omega)),Qh (Qo _ (CQ _ _ (by rw[aP]; omega)) hs h)];try dsimp only
 rw[fQ (iq h1)];try dsimp only
 rw[uU (ut h2)];try dsimp only
 rw[aBT (aR6 _ _ h3)];try dsimp only
 rw[fQ (iq h5),aX (jZ (by rw[bM]; omega))];show some _=some _;rw[show (A8 (bs s,bs [116],[],()):PV)=cu (qW s) from rfl,EI]
theorem rdR (m:Mo) (hm:m.cs.length+m.rs.length<=999) (hs:s∉(m.cs ++ m.rs).map (·.n)) (h:di (BA s a0 b0 a1 b1 a2 b2 a3 b3 a4 b4 a5 b5 T)) :
 SS.CC 226 [bSF,.ptr 1 0,.ptr 1 4] [fB qP,bZ (aW m),aB (mk0 (BA s a0 b0 a1 b1 a2 b2 a3 b3 a4 b4 a5 b5 T)).v]=some (.tuple [],[fB qP,bZ (aW { m with rs:=m.rs ++ [qW s] }),aB (mk0 T).v]):=by
 have h1:=iG h;have h2:=gQ h1;have h3:=iG h2;have h5:=gQ (gQ h3);rw[b1F];dsimp only[sK];rw[Gh (H6 m.cs (by omega)),aX (Bo (by rw[bM]; omega) (by rw[bM]; omega)),<- ry,xC (aDD (m.cs ++ m.rs) (by rw[aP]; omega)),Qh (Qo _ (CQ _ _ (by rw[aP]; omega)) hs h)];try dsimp only
 rw[fQ (iq h1)];try dsimp only
 rw[uU (ut h2)];try dsimp only
 rw[aBT (aR6 _ _ h3)];try dsimp only
 rw[fQ (iq h5),aX (jZ (by rw[bM]; omega))];show some _=some _;rw[show (A8 (bs s,bs [116],[],()):PV)=cu (qW s) from rfl,EI]
theorem li0 (q:Sh.V tu) (y:Sh.V ku) (h:di (wT [99] a0 b0::wT [108] a1 b1::yT [59] a2 b2::T)):SS.CC 286 [bSF,.func (.func 287) [] [.ptr 1 0,.ptr 2 0]] [aB (mk0 (wT [99] a0 b0::wT [108] a1 b1::yT [59] a2 b2::T)).v,some [.ptr 3 0],kM (y.1,[],()),DY q]=some (.tuple [],[aB (mk0 (yT [59] a2 b2::T)).v,some [.ptr 3 0],kM (y.1,[zC (bs [99],bs [108],())],()),DY q]):=by
 have h1:=iG h;have h2:=iG h1;have e:SS.CC 287 [bSF,.ptr 1 0] [some [.ptr 2 0],kM (y.1,[],()),oQ q,aB (mk0 (wT [99] a0 b0::wT [108] a1 b1::yT [59] a2 b2::T)).v]=some (.tuple [],[some [.ptr 2 0],kM (y.1,[zC (bs [99],bs [108],())],()),oQ q,aB (mk0 (yT [59] a2 b2::T)).v]):=by
  rw[b50,uU (ut h)];try dsimp only
  rw[uU (ut h1),aX (jZ (by simp))];rfl
 rw[b4',aRO e,b4Z];show aA true _ _=_;rw[aG,jd (GI h2 rfl),aC]
theorem rdX (m:Mo) (hm:m.xs.length<=999) (hs:s∉m.xs.map (·.n)) (h:di (Uz s a0 b0 a1 b1 a2 b2 a3 b3 a4 b4 T)) :
 SS.CC 229 [bSF,.ptr 1 0] [fB qP,bZ (aW m),aB (mk0 (Uz s a0 b0 a1 b1 a2 b2 a3 b3 a4 b4 T)).v]=some (.tuple [],[fB qP,bZ (aW { m with xs:=m.xs ++ [Bd s] }),aB (mk0 T).v]):=by
 have h1:=iG h;have h2:=gQ h1;have h4:=iG (iG h2);rw[b1I];dsimp only[sK];rw[xC (aUK m.xs (by omega)),Qh (Qo _ (CQ _ _ hm) hs h)];try dsimp only
 rw[fQ (iq h1)];try dsimp only
 rw[aS2 (li0 _ (bs s,[],()) h2)];try dsimp only
 rw[fQ (iq h4),aX (jZ (by rw[bM]; omega))];show some _=some _;rw[show (zB (bs s,[zC (bs [99],bs [108],())],()):PV)=uw (Bd s) from rfl,EI]
theorem inp (q:Sh.V jI) {v:Int} {x:Nm} (h:di (nT x v a0 b0::T)) (h2 : -65536<=v/\v<=65536):SS.CC 289 [bSF] [kE q,aB (mk0 (nT x v a0 b0::T)).v]=some (bSD v,[kE q,aB (mk0 T).v]):=by rw[b52,aBR (inq h h2.1 h2.2 h2)]
theorem rdL (m:Mo) (hm:m.ks.length<=999) (hs:s∉m.ks.map (·.n)) (h:di (Ux s a0 b0 a1 b1 a2 b2 a3 b3 a4 b4 a5 b5 a6 b6 a7 b7 T)) :
 SS.CC 231 [bSF,.ptr 1 0] [fB qP,bZ (aW m),aB (mk0 (Ux s a0 b0 a1 b1 a2 b2 a3 b3 a4 b4 a5 b5 a6 b6 a7 b7 T)).v]=some (.tuple [],[fB qP,bZ (aW { m with ks:=m.ks ++ [ct0 s] }),aB (mk0 T).v]):=by
 have h1:=iG h;have h2:=gQ h1;have h3:=Oo h2;have h4:=gQ h3;have h5:=iG h4;have h6:=gQ h5;have h7:=Oo h6;rw[b1N,xC (aUI m.ks (by omega)),Qh (Qo _ (CQ _ _ hm) hs h)];try dsimp only
 rw[fQ (iq h1),aGB,aG,Gi (Oq _)];try dsimp only
 rw[aG,aBU (inp _ h2 (by decide))];try dsimp only
 rw[fQ (iq h3)];try dsimp only
 rw[uU (ut h4),aX (jZ (by simp)),jd (GI h5 rfl),aGB,aC,b1K,fQ (iq h5)];try dsimp only
 rw[aBU (inp _ h6 (by decide))];try dsimp only
 rw[fQ (iq h7),aX (jZ (by rw[bM]; omega))];show some _=some _;rw[show (uT (bs s,([]:bSH) ++ [QP (bs [99],1,())],0,()):PV)=nC (ct0 s) from rfl,EI]
end
abbrev kwC:Nm := [99,111,109,112,111,110,101,110,116]
abbrev kwR:Nm := [114,101,113,117,105,114,101,109,101,110,116]
abbrev kwX:Nm := [101,120,99,108,117,100,101]
abbrev kwL:Nm := [108,105,109,105,116]
abbrev kwM:Nm := [116,101,109,112,108,97,116,101]
def gB:Nat->Nm
 | 0=>kwM
 | 1=>kwC
 | 2=>kwR
 | 3=>kwX
 | _=>kwL
def vH (κ:Nat) (s:Nm) (l c:Int) (T:List Tok):List Tok :=
 let d:Int:=c+s.length
 match κ with
 | 0=>Uy s l c l d l (d+1) l (d+3) l (d+4) T
 | 1=>BA s l c l (d+1) l (d+3) l (d+4) l (d+5) l (d+6) T
 | 2=>BA s l c l (d+1) l (d+3) l (d+4) l (d+5) l (d+6) T
 | 3=>Uz s l c l d l (d+2) l (d+4) l (d+5) T
 | _=>Ux s l c l d l (d+2) l (d+4) l (d+6) l (d+8) l (d+11) l (d+12) T
def mJ (κ:Nat) (s:Nm) (l:Int) (T:List Tok):List Tok:=wT (gB κ) l 1::vH κ s l ((gB κ).length+2) T
def kN (κ:Nat) (m:Mo) (s:Nm):Mo:=match κ with
 | 0 => { m with ts:=m.ts ++ [D6 s] }
 | 1 => { m with cs:=m.cs ++ [qW s] }
 | 2 => { m with rs:=m.rs ++ [qW s] }
 | 3 => { m with xs:=m.xs ++ [Bd s] }
 | _ => { m with ks:=m.ks ++ [ct0 s] }
def wG (κ:Nat) (m:Mo):Nat:=match κ with
 | 0=>m.ts.length
 | 1=>m.cs.length
 | 2=>m.rs.length
 | 3=>m.xs.length
 | _=>m.ks.length
def yS (κ:Nat) (m:Mo):List Nm:=match κ with
 | 0=>m.ts.map (·.n)
 | 1=>(m.cs ++ m.rs).map (·.n)
 | 2=>(m.cs ++ m.rs).map (·.n)
 | 3=>m.xs.map (·.n)
 | _=>m.ks.map (·.n)
def o9 (κ:Nat):Nat:=match κ with
 | 0=>16
 | _=>32
structure Sm (m:Mo):Prop where
 t:m.ts.length<=999
 c:m.cs.length+m.rs.length<=999
 x:m.xs.length<=999
 k:m.ks.length<=999
section
variable {T:List Tok} {s:Nm} {a0 b0:Int}
theorem Tq {l:bSH} {n:Nat} {k:Int} (h:l.length=n) (h2:(n:Int)<k):decide (k<=((l.length:Nat):Int))=false:=aT (by omega)
theorem Tn {l:bSH} {n:Nat} {k:Int} (h:l.length=n) (h2:k<=(n:Int)):decide (k<=((l.length:Nat):Int))=true:=aO (by omega)
theorem bDE (κ:Nat) (hκ:κ<5) (m:Mo) (hm:Sm m) (hn:wG κ m<o9 κ) (hs:s∉yS κ m) {l:Int} (h:di (mJ κ s l T)) :
 SS.CC 132 [bSF,.ptr 1 0] [fB qP,bZ (aW m),aB (mk0 (mJ κ s l T)).v]=some (.tuple [],[fB qP,bZ (aW (kN κ m s)),aB (mk0 T).v]):=by
 have h1:di (vH κ s l ((gB κ).length+2) T):=iG h;unfold mJ at h ⊢;rw[aF4,lw (CV h)];match κ,hκ,hn,hs,h,h1 with
 | 0,_,hn,hs,h,h1 =>
  have hn:m.ts.length<16:=hn;show aA false _ (aA false _ (aA false _ (aA false _ (aA false _ (aA true (aA false _ (aA (decide ((16:Int)<=(((aW m).2.2.1.length:Nat):Int))) _ _)) _)))))=_;rw[aC,aC,aC,aC,aC,aG,aC,Tq (bM ..) (by omega),aC,lw (Oh h zQ)];try dsimp only
  have e:SS.CC 223 [bSF,.ptr 1 0] [some [.ptr 2 0],some [.ptr 3 0],mD qP,bZ (aW m),aB (mk0 (vH 0 s l ((gB 0).length+2) T)).v]=some (.tuple [],[some [.ptr 2 0],some [.ptr 3 0],mD qP,bZ (aW (kN 0 m s)),aB (mk0 T).v]):=by rw[b0X];exact (JA (rdT m hm.t hs h1)).trans rfl
  exact (Qe e).trans rfl
 | 1,_,hn,hs,h,h1 =>
  have hn:m.cs.length<32:=hn;show aA true (aA false _ (aA (decide ((32:Int)<=(((aW m).2.2.2.1.length:Nat):Int))) _ _)) _=_;rw[aG,aC,Tq (bM ..) (by omega),aC,lw (Oh h zQ)];try dsimp only
  have e:SS.CC 225 [bSF,.ptr 1 0] [some [.ptr 2 0],some [.ptr 3 0],mD qP,bZ (aW m),aB (mk0 (vH 1 s l ((gB 1).length+2) T)).v]=some (.tuple [],[some [.ptr 2 0],some [.ptr 3 0],mD qP,bZ (aW (kN 1 m s)),aB (mk0 T).v]):=by rw[b1D];exact (JA (rdI m hm.c hs h1)).trans rfl
  exact (Qe e).trans rfl
 | 2,_,hn,hs,h,h1 =>
  have hn:m.rs.length<32:=hn;show aA false _ (aA false _ (aA false _ (aA false _ (aA true (aA false _ (aA (decide ((32:Int)<=(((aW m).2.2.2.2.1.length:Nat):Int))) _ _)) _))))=_;rw[aC,aC,aC,aC,aG,aC,Tq (bM ..) (by omega),aC,lw (Oh h zQ)];try dsimp only
  have e:SS.CC 227 [bSF,.ptr 1 0] [some [.ptr 2 0],some [.ptr 3 0],mD qP,bZ (aW m),aB (mk0 (vH 2 s l ((gB 2).length+2) T)).v]=some (.tuple [],[some [.ptr 2 0],some [.ptr 3 0],mD qP,bZ (aW (kN 2 m s)),aB (mk0 T).v]):=by rw[b1G];exact (JA (rdR m hm.c hs h1)).trans rfl
  exact (Qe e).trans rfl
 | 3,_,hn,hs,h,h1 =>
  have hn:m.xs.length<32:=hn;show aA false _ (aA false _ (aA true (aA false _ (aA (decide ((32:Int)<=(((aW m).2.2.2.2.2.1.length:Nat):Int))) _ _)) _))=_;rw[aC,aC,aG,aC,Tq (bM ..) (by omega),aC,lw (Oh h zQ)];try dsimp only
  have e:SS.CC 228 [bSF,.ptr 1 0] [some [.ptr 2 0],some [.ptr 3 0],mD qP,bZ (aW m),aB (mk0 (vH 3 s l ((gB 3).length+2) T)).v]=some (.tuple [],[some [.ptr 2 0],some [.ptr 3 0],mD qP,bZ (aW (kN 3 m s)),aB (mk0 T).v]):=by rw[b1H];exact (JA (rdX m hm.x hs h1)).trans rfl
  exact (Qe e).trans rfl
 | 4,_,hn,hs,h,h1 =>
  have hn:m.ks.length<32:=hn;show aA false _ (aA false _ (aA false _ (aA true (aA false _ (aA (decide ((32:Int)<=(((aW m).2.2.2.2.2.2.1.length:Nat):Int))) _ _)) _)))=_;rw[aC,aC,aC,aG,aC,Tq (bM ..) (by omega),aC,lw (Oh h zQ)];try dsimp only
  have e:SS.CC 230 [bSF,.ptr 1 0] [some [.ptr 2 0],some [.ptr 3 0],mD qP,bZ (aW m),aB (mk0 (vH 4 s l ((gB 4).length+2) T)).v]=some (.tuple [],[some [.ptr 2 0],some [.ptr 3 0],mD qP,bZ (aW (kN 4 m s)),aB (mk0 T).v]):=by rw[b1J];exact (JA (rdL m hm.k hs h1)).trans rfl
  exact (Qe e).trans rfl
theorem bDD (κ:Nat) (hκ:κ<5) (m:Mo) (hn:o9 κ<=wG κ m) {l:Int} (h:di (wT (gB κ) l 1::T)) :
 SS.CC 132 [bSF,.ptr 1 0] [fB qP,bZ (aW m),aB (mk0 (wT (gB κ) l 1::T)).v]=some (.tuple [],[fB qP,bZ (aW m),aB ((mk0 (wT (gB κ) l 1::T)).fail 3).v]):=by
 rw[aF4,lw (CV h)];match κ,hκ,hn,h with
 | 0,_,hn,h =>have hn:16<=m.ts.length:=hn;show aA false _ (aA false _ (aA false _ (aA false _ (aA false _ (aA true (aA false _ (aA (decide ((16:Int)<=(((aW m).2.2.1.length:Nat):Int))) _ _)) _)))))=_;rw[aC,aC,aC,aC,aC,aG,aC,Tn (bM ..) (by omega),aG,fQ (AU (wK h) 3)]
 | 1,_,hn,h =>have hn:32<=m.cs.length:=hn;show aA true (aA false _ (aA (decide ((32:Int)<=(((aW m).2.2.2.1.length:Nat):Int))) _ _)) _=_;rw[aG,aC,Tn (bM ..) (by omega),aG,fQ (AU (wK h) 3)]
 | 2,_,hn,h =>have hn:32<=m.rs.length:=hn;show aA false _ (aA false _ (aA false _ (aA false _ (aA true (aA false _ (aA (decide ((32:Int)<=(((aW m).2.2.2.2.1.length:Nat):Int))) _ _)) _))))=_;rw[aC,aC,aC,aC,aG,aC,Tn (bM ..) (by omega),aG,fQ (AU (wK h) 3)]
 | 3,_,hn,h =>have hn:32<=m.xs.length:=hn;show aA false _ (aA false _ (aA true (aA false _ (aA (decide ((32:Int)<=(((aW m).2.2.2.2.2.1.length:Nat):Int))) _ _)) _))=_;rw[aC,aC,aG,aC,Tn (bM ..) (by omega),aG,fQ (AU (wK h) 3)]
 | 4,_,hn,h =>have hn:32<=m.ks.length:=hn;show aA false _ (aA false _ (aA false _ (aA true (aA false _ (aA (decide ((32:Int)<=(((aW m).2.2.2.2.2.2.1.length:Nat):Int))) _ _)) _)))=_;rw[aC,aC,aC,aG,aC,Tn (bM ..) (by omega),aG,fQ (AU (wK h) 3)]
end
def kR (κ:Nat):List Nm->Int->List Tok->List Tok
 | [],_,T=>T
 | s::r,l,T=>mJ κ s l (kR κ r (l+1) T)
theorem oki {κ:Nat} (hκ:κ<5) {s:Nm} {l:Int} {T:List Tok} (h:di (mJ κ s l T)):di T:=by
 have h:=iG h;match κ,hκ,h with
 | 0,_,h=>exact gQ (gQ (gQ (gQ (iG h))))
 | 1,_,h=>exact gQ (gQ (gQ (iG (gQ (iG h)))))
 | 2,_,h=>exact gQ (gQ (gQ (iG (gQ (iG h)))))
 | 3,_,h=>exact gQ (iG (iG (gQ (iG h))))
 | 4,_,h=>exact gQ (Oo (gQ (iG (gQ (Oo (gQ (iG h)))))))
theorem aNH {κ:Nat} (hκ:κ<5):∀ {r:List Nm} {l:Int} {T:List Tok},di (kR κ r l T)->di T
 | [],_,_,h=>h
 | _::_,_,_,h=>aNH hκ (oki hκ h)
structure Sb (m:Mo) (b:Nat):Prop where
 t:m.ts.length<=b
 c:m.cs.length+m.rs.length<=b
 x:m.xs.length<=b
 k:m.ks.length<=b
theorem Sb.sm {m:Mo} {b:Nat} (h:Sb m b) (hb:b<=999):Sm m:=⟨by have:=h.t; omega,by have:=h.c; omega,by have:=h.x; omega,by have:=h.k; omega⟩
theorem Sb.ad {m:Mo} {b:Nat} (h:Sb m b) {κ:Nat} (hκ:κ<5) (s:Nm):Sb (kN κ m s) (b+1):=by
 obtain ⟨h1,h2,h3,h4⟩:=h;match κ,hκ with
 | 0,_=>exact ⟨by show (m.ts ++ [D6 s]).length<=_; simp; omega,by show m.cs.length+m.rs.length<=_; omega,by show m.xs.length<=_; omega,by show m.ks.length<=_; omega⟩
 | 1,_=>exact ⟨by show m.ts.length<=_; omega,by show (m.cs ++ [qW s]).length+m.rs.length<=_; simp; omega,by show m.xs.length<=_; omega,by show m.ks.length<=_; omega⟩
 | 2,_=>exact ⟨by show m.ts.length<=_; omega,by show m.cs.length+(m.rs ++ [qW s]).length<=_; simp; omega,by show m.xs.length<=_; omega,by show m.ks.length<=_; omega⟩
 | 3,_=>exact ⟨by show m.ts.length<=_; omega,by show m.cs.length+m.rs.length<=_; omega,by show (m.xs ++ [Bd s]).length<=_; simp; omega,by show m.ks.length<=_; omega⟩
 | 4,_=>exact ⟨by show m.ts.length<=_; omega,by show m.cs.length+m.rs.length<=_; omega,by show m.xs.length<=_; omega,by show (m.ks ++ [ct0 s]).length<=_; simp; omega⟩
theorem a1I {m:Mo} {κ:Nat} (hκ:κ<5) (s:Nm):wG κ (kN κ m s)=wG κ m+1:=by
 match κ,hκ with
 | 0,_=>simp[wG,kN]
 | 1,_=>simp[wG,kN]
 | 2,_=>simp[wG,kN]
 | 3,_=>simp[wG,kN]
 | 4,_=>simp[wG,kN]
theorem aN6 {m:Mo} {κ:Nat} (hκ:κ<5) (s x:Nm):x∈yS κ (kN κ m s)↔x∈yS κ m\/x=s:=by
 match κ,hκ with
 | 0,_=>simp[yS,kN]
 | 1,_=>simp[yS,kN]; grind
 | 2,_=>simp[yS,kN]; grind
 | 3,_=>simp[yS,kN]
 | 4,_=>simp[yS,kN]
theorem a9B {κ:Nat} (hκ:κ<5) {T:List Tok}:∀ (r:List Nm) (m:Mo) (b:Nat) (l:Int),di (kR κ r l T)->Sb m b->b+r.length<=900->wG κ m+r.length<=o9 κ->r.Nodup->(∀ s,s∈r->s∉yS κ m) ->
 Hq (aW m) (mk0 (kR κ r l T)).v qP=Hq (aW (r.foldl (kN κ) m)) (mk0 T).v qP
 | [],_,_,_,_,_,_,_,_,_=>rfl
 | s::r,m,b,l,h,hb,hl,hc,hd,hn=>by
  rw[aY] at hl hc;rw[kR] at h ⊢;have hp:SS.CC 131 [bSF] [aB (mk0 (mJ κ s l (kR κ r (l+1) T))).v]=some (kD (tk (wT (gB κ) l 1)),[aB (mk0 (mJ κ s l (kR κ r (l+1) T))).v]):=CV h;rw[Y1,Gi (Oq _)];try dsimp only
  rw[aG,lw hp];show aA true _ _=_;rw[aG,JA (bDE κ hκ m (hb.sm (by omega)) (by omega) (hn s (by simp)) h)];exact a9B hκ r (kN κ m s) (b+1) (l+1) (oki hκ h) (hb.ad hκ s) (by omega) (by rw[a1I hκ]; omega) (Lr.1 hd).2 fun x hx hx2=>by
   rcases (aN6 hκ s x).1 hx2 with h2 | h2
   .exact hn x (by simp[hx]) h2
   .subst h2; exact (Lr.1 hd).1 hx
abbrev Bc (l:Int):Tok:=⟨4,[],0,l,1⟩
theorem ZF (l:Int):di [Bc l] := .inl ⟨rfl,rfl⟩
def Du (m:Mo) (a b e:Int):R:=some (.tuple [A0 (aW m),bSD a,bSD b,bSD e],[])
abbrev m00:Mo:=⟨[],[],[],[],[],[],[]⟩
theorem aV6 (m:Mo) (l:Int) (ho:kY m) (h2:m.cs.length+m.rs.length<=1000) (hc:Ba m=0):Hq (aW m) (mk0 [Bc l]).v qP=Du m 0 0 0:=by
 have hz:(mk0 [Bc l]).fail 0=mk0 [Bc l]:=by unfold RA.fail; rw[aK (by simp)]
 have hf:=AU (wK (ZF l)) 0;rw[hz] at hf;have hcc:=aDC m ho h2;rw[hc] at hcc;rw[Y1,Gi (Oq _)];try dsimp only
 rw[aG,lw (CV (ZF l))];show aA false _ _=_;rw[aC,aHG,Gi (Oq _)];try dsimp only
 rw[aG,bf hcc,fQ hf];try dsimp only
 rw[aHF,MJ X3];rfl
theorem bHS {κ:Nat} (hκ:κ<5) (m:Mo) (hn:o9 κ<=wG κ m) {l:Int} {T:List Tok} (h:di (wT (gB κ) l 1::T)):Hq (aW m) (mk0 (wT (gB κ) l 1::T)).v qP=Du m00 l 1 3:=by
 rw[Y1,Gi (Oq _)];try dsimp only
 rw[aG,lw (CV h)];show aA true _ _=_;rw[aG,JA (bDD κ hκ m hn h)];try dsimp only
 have e:(mk0 (wT (gB κ) l 1::T)).fail 3=⟨wT (gB κ) l 1::T,l,1,3⟩:=rfl;rw[e];have e4:=aDW ⟨wT (gB κ) l 1::T,l,1,3⟩;have e5:SS.CC 130 [bSF] [kE qP,aB (RA.v ⟨wT (gB κ) l 1::T,l,1,3⟩)]=some (.bool false,[kE qP,aB (RA.v ⟨wT (gB κ) l 1::T,l,1,3⟩)]):=by rw[aF3,MJ e4]; rfl
 rw[Y1,Gi e5];try dsimp only
 rw[aC,aHG,Gi e5];try dsimp only
 rw[aC,aHF,MJ e4];rfl
abbrev mW:Nm := [109,111,100,101,108]
def Bg (T:List Tok):List Tok:=wT mW 1 1::wT [109] 1 7::yT [59] 1 8::T
abbrev yR:Mo := { m00 with n := [109] }
theorem aO5 {t:bSI} {T:List Tok} (hs:rX t = .ok (Bg T)):SS.CC 36 [.str (bs t)] []=Hq (aW yR) (mk0 T).v qP:=by
 have ht:di (Bg T):=a9Q hs;rw[b6M,aBH (aN1 t),aMX hs];try dsimp only
 rw[Bg,fQ (aE7 ht)];try dsimp only
 rw[uU (ut (iG ht))];try dsimp only
 rw[fQ (iq (iG (iG ht)))];rfl
abbrev fK (m:Mo):Sh.V dA:=(bs m.n,m.es.map KW,m.ts.map wP,m.cs.map cu,m.rs.map cu,m.xs.map uw,m.ks.map nC,[],0,())
section
variable {T:List Tok} {s:Nm} {a0 b0 a1 b1 a2 b2 a3 b3 a4 b4 a5 b5 a6 b6 a7 b7 a8 b8:Int}
theorem rwT (m:Mo) (hm:m.ts.length<=999) (hs:s∉m.ts.map (·.n)) (h:di (Uy s a0 b0 a1 b1 a2 b2 a3 b3 a4 b4 T)) :
 SS.CC 263 [bSF] [bP (fK m),aB (mk0 (Uy s a0 b0 a1 b1 a2 b2 a3 b3 a4 b4 T)).v]=some (.tuple [],[bP (fK { m with ts:=m.ts ++ [D6 s] }),aB (mk0 T).v]):=by
 have h1:=iG h;have h2:=gQ h1;have h3:=gQ h2;have h4:=gQ h3;have hl:∀ A:Sh.V aH,Nl (fK m) A [] 0=Nl (fK m) A (aS (m.ts.map (·.n))) (m.ts.length:Int):=fun A=>by
  refine jy (n:=m.ts.length) (L:=fun k=>Nl (fK m) A (aS ((m.ts.take k).map (·.n))) (k:Int)) (fun k hk => ?_) ?_
  .rw[aGR];try dsimp only
   rw[aO (by rw[ak]; omega),aG,FP hk,aX (jZ (rP _ m.ts k (by omega))),rO (·.n) m.ts hk,bV (by omega)]
  .rw[nZ (bW _)]
 rw[b3L,hl,aGR];try dsimp only
 rw[aT (by rw[ak]; omega),aC,Va (Vq _ (CQ _ _ hm) hs h)];try dsimp only
 rw[fQ (iq h1)];try dsimp only
 rw[jd (pz h2 true rfl),nG,aC,b39,fQ (iq h2)];try dsimp only
 rw[fQ (iq h3),b3J];dsimp only[sK];rw[Qd (Rl _)];try dsimp only
 rw[rq,aG,jd (bN3 h4 kk3 rfl),nG,aC,b3A,b3K];try dsimp only
 rw[aT (by simp),aC,aX (jZ (by rw[bM]; omega))];show some _=some _;rw[show (A5 (bs s,[],[],[],((([]:bSH).length:Nat):Int),0,[],[],[],()):PV)=wP (D6 s) from rfl,EI]
theorem bLC (m:Mo) (hm:m.cs.length+m.rs.length<=999) (hs:s∉(m.cs ++ m.rs).map (·.n)) (h:di (BA s a0 b0 a1 b1 a2 b2 a3 b3 a4 b4 a5 b5 T)) :
 SS.CC 264 [bSF] [uV (fK m),aB (mk0 (BA s a0 b0 a1 b1 a2 b2 a3 b3 a4 b4 a5 b5 T)).v]=some (A8 (D7 (qW s)),[uV (fK m),aB (mk0 T).v]):=by
 have h1:=iG h;have h2:=gQ h1;have h3:=iG h2;have h4:=gQ h3;have h5:=gQ h4;have hn:(m.cs ++ m.rs).length<=999:=by rw[aP]; omega
 have hl:∀ A:Sh.V aH,Nr (fK m) A ((m.cs ++ m.rs).map cu) (((m.cs ++ m.rs).map cu).length:Int) [] 0=Nr (fK m) A ((m.cs ++ m.rs).map cu) (((m.cs ++ m.rs).map cu).length:Int) (aS ((m.cs ++ m.rs).map (·.n))) ((m.cs ++ m.rs).length:Int):=fun A=>by
  refine jy (n:=(m.cs ++ m.rs).length) (L:=fun k=>Nr (fK m) A ((m.cs ++ m.rs).map cu) (((m.cs ++ m.rs).map cu).length:Int) (aS (((m.cs ++ m.rs).take k).map (·.n))) (k:Int)) (fun k hk => ?_) ?_
  .rw[aGX,aO (by rw[ak]; omega),aG,zU hk,aX (jZ (rP _ (m.cs ++ m.rs) k (by omega))),rO (·.n) (m.cs ++ m.rs) hk,bV (by omega)]
  .rw[nZ (bW _)]
 rw[b3X];try dsimp only
 rw[Gh (H6 m.cs (by omega)),aX (Bo (by rw[bM]; omega) (by rw[bM]; omega)),<- ry,hl,aGX,aT (by rw[ak]; omega),aC,aRZ (aSH _ (CQ _ _ hn) hs h)];try dsimp only
 rw[fQ (iq h1)];try dsimp only
 rw[uU (ut h2)];try dsimp only
 rw[fQ (iq h3)];try dsimp only
 rw[jd (pz h4 true rfl),nG,aC,b3U,fQ (iq h4)];try dsimp only
 rw[fQ (iq h5)];rfl
theorem aP4 (m:Mo) (hm:m.cs.length+m.rs.length<=999) (hs:s∉(m.cs ++ m.rs).map (·.n)) (h:di (BA s a0 b0 a1 b1 a2 b2 a3 b3 a4 b4 a5 b5 T)) :
 SS.CC 264 [bSF] [bP (fK m),aB (mk0 (BA s a0 b0 a1 b1 a2 b2 a3 b3 a4 b4 a5 b5 T)).v]=some (A8 (D7 (qW s)),[bP (fK m),aB (mk0 T).v]):=by
 have h1:=iG h;have h2:=gQ h1;have h3:=iG h2;have h4:=gQ h3;have h5:=gQ h4;have hn:(m.cs ++ m.rs).length<=999:=by rw[aP]; omega
 have hl:∀ A:Sh.V aH,Np (fK m) A ((m.cs ++ m.rs).map cu) (((m.cs ++ m.rs).map cu).length:Int) [] 0=Np (fK m) A ((m.cs ++ m.rs).map cu) (((m.cs ++ m.rs).map cu).length:Int) (aS ((m.cs ++ m.rs).map (·.n))) ((m.cs ++ m.rs).length:Int):=fun A=>by
  refine jy (n:=(m.cs ++ m.rs).length) (L:=fun k=>Np (fK m) A ((m.cs ++ m.rs).map cu) (((m.cs ++ m.rs).map cu).length:Int) (aS (((m.cs ++ m.rs).take k).map (·.n))) (k:Int)) (fun k hk => ?_) ?_
  .rw[aGT,aO (by rw[ak]; omega),aG,zU hk,aX (jZ (rP _ (m.cs ++ m.rs) k (by omega))),rO (·.n) (m.cs ++ m.rs) hk,bV (by omega)]
  .rw[nZ (bW _)]
 rw[b3P];try dsimp only
 rw[Gh (H6 m.cs (by omega)),aX (Bo (by rw[bM]; omega) (by rw[bM]; omega)),<- ry,hl,aGT,aT (by rw[ak]; omega),aC,Va (Vq _ (CQ _ _ hn) hs h)];try dsimp only
 rw[fQ (iq h1)];try dsimp only
 rw[uU (ut h2)];try dsimp only
 rw[fQ (iq h3)];try dsimp only
 rw[jd (pz h4 true rfl),nG,aC,b3M,fQ (iq h4)];try dsimp only
 rw[fQ (iq h5)];rfl
theorem bLD (m:Mo) (hm:m.cs.length+m.rs.length<=999) (hs:s∉(m.cs ++ m.rs).map (·.n)) (h:di (BA s a0 b0 a1 b1 a2 b2 a3 b3 a4 b4 a5 b5 T)) :
 SS.CC 264 [bSF] [uX (fK m),aB (mk0 (BA s a0 b0 a1 b1 a2 b2 a3 b3 a4 b4 a5 b5 T)).v]=some (A8 (D7 (qW s)),[uX (fK m),aB (mk0 T).v]):=by
 have h1:=iG h;have h2:=gQ h1;have h3:=iG h2;have h4:=gQ h3;have h5:=gQ h4;have hn:(m.cs ++ m.rs).length<=999:=by rw[aP]; omega
 have hl:∀ A:Sh.V aH,Nq (fK m) A ((m.cs ++ m.rs).map cu) (((m.cs ++ m.rs).map cu).length:Int) [] 0=Nq (fK m) A ((m.cs ++ m.rs).map cu) (((m.cs ++ m.rs).map cu).length:Int) (aS ((m.cs ++ m.rs).map (·.n))) ((m.cs ++ m.rs).length:Int):=fun A=>by
  refine jy (n:=(m.cs ++ m.rs).length) (L:=fun k=>Nq (fK m) A ((m.cs ++ m.rs).map cu) (((m.cs ++ m.rs).map cu).length:Int) (aS (((m.cs ++ m.rs).take k).map (·.n))) (k:Int)) (fun k hk => ?_) ?_
  .rw[aGV,aO (by rw[ak]; omega),aG,zU hk,aX (jZ (rP _ (m.cs ++ m.rs) k (by omega))),rO (·.n) (m.cs ++ m.rs) hk,bV (by omega)]
  .rw[nZ (bW _)]
 rw[b3T];try dsimp only
 rw[Gh (H6 m.cs (by omega)),aX (Bo (by rw[bM]; omega) (by rw[bM]; omega)),<- ry,hl,aGV,aT (by rw[ak]; omega),aC,aR' (aSI _ (CQ _ _ hn) hs h)];try dsimp only
 rw[fQ (iq h1)];try dsimp only
 rw[uU (ut h2)];try dsimp only
 rw[fQ (iq h3)];try dsimp only
 rw[jd (pz h4 true rfl),nG,aC,b3Q,fQ (iq h4)];try dsimp only
 rw[fQ (iq h5)];rfl
theorem rwX (m:Mo) (hm:m.xs.length<=999) (hs:s∉m.xs.map (·.n)) (h:di (Uz s a0 b0 a1 b1 a2 b2 a3 b3 a4 b4 T)) :
 SS.CC 265 [bSF] [bP (fK m),aB (mk0 (Uz s a0 b0 a1 b1 a2 b2 a3 b3 a4 b4 T)).v]=some (.tuple [],[bP (fK { m with xs:=m.xs ++ [Bd s] }),aB (mk0 T).v]):=by
 have h1:=iG h;have h2:=gQ h1;have h3:=iG h2;have h4:=iG h3;have e:SS.CC 319 [bSF,.ptr 1 0] [some [.ptr 2 0],kM (bs s,[],()),Gl (fK m),aB (mk0 (wT [99] a2 b2::wT [108] a3 b3::yT [59] a4 b4::T)).v]=some (.tuple [],[some [.ptr 2 0],kM (bs s,[zC (bs [99],bs [108],())],()),Gl (fK m),aB (mk0 (yT [59] a4 b4::T)).v]):=by
  rw[b63];dsimp only[sK];rw[uU (ut h2)];try dsimp only
  rw[uU (ut h3),aX (jZ (by simp)),Gu,Gu];rfl
 have hl:∀ A:Sh.V aH,Ns (fK m) A [] 0=Ns (fK m) A (aS (m.xs.map (·.n))) (m.xs.length:Int):=fun A=>by
  refine jy (n:=m.xs.length) (L:=fun k=>Ns (fK m) A (aS ((m.xs.take k).map (·.n))) (k:Int)) (fun k hk => ?_) ?_
  .rw[aGY];try dsimp only
   rw[aO (by rw[ak]; omega),aG,EE hk,aX (jZ (rP _ m.xs k (by omega))),rO (·.n) m.xs hk,bV (by omega)]
  .rw[nZ (bW _)]
 rw[b43,hl,aGY];try dsimp only
 rw[aT (by rw[ak]; omega),aC,Va (Vq _ (CQ _ _ hm) hs h)];try dsimp only
 rw[fQ (iq h1)];try dsimp only
 have e2:SS.CC 286 [bSF,.func (.func 319) [] [.ptr 1 0,.ptr 2 0]] [aB (mk0 (wT [99] a2 b2::wT [108] a3 b3::yT [59] a4 b4::T)).v,some [.ptr 3 0],kM (bs s,[],()),DX (fK m)]=some (.tuple [],[aB (mk0 (yT [59] a4 b4::T)).v,some [.ptr 3 0],kM (bs s,[zC (bs [99],bs [108],())],()),DX (fK m)]):=by rw[b4W,aS3 e,b4V];show aA true _ _=_;rw[aG,jd (GI h4 rfl),aC]
 rw[aS0 e2];try dsimp only
 rw[fQ (iq h4),aX (jZ (by rw[bM]; omega))];show some _=some _;rw[show (zB (bs s,[zC (bs [99],bs [108],())],()):PV)=uw (Bd s) from rfl,EI]
theorem aJU (q:Sh.V dA) {v:Int} {x:Nm} (h:di (nT x v a0 b0::T)) (h2 : -65536<=v/\v<=65536):SS.CC 316 [bSF] [bP q,aB (mk0 (nT x v a0 b0::T)).v]=some (bSD v,[bP q,aB (mk0 T).v]):=by rw[b62,aBR (inq h h2.1 h2.2 h2)]
theorem rwL (m:Mo) (hm:m.ks.length<=999) (hs:s∉m.ks.map (·.n)) (h:di (Ux s a0 b0 a1 b1 a2 b2 a3 b3 a4 b4 a5 b5 a6 b6 a7 b7 T)) :
 SS.CC 266 [bSF] [bP (fK m),aB (mk0 (Ux s a0 b0 a1 b1 a2 b2 a3 b3 a4 b4 a5 b5 a6 b6 a7 b7 T)).v]=some (.tuple [],[bP (fK { m with ks:=m.ks ++ [ct0 s] }),aB (mk0 T).v]):=by
 have h1:=iG h;have h2:=gQ h1;have h3:=Oo h2;have h4:=gQ h3;have h5:=iG h4;have h6:=gQ h5;have h7:=Oo h6;have hl:∀ A:Sh.V aH,Nu (fK m) A [] 0=Nu (fK m) A (aS (m.ks.map (·.n))) (m.ks.length:Int):=fun A=>by
  refine jy (n:=m.ks.length) (L:=fun k=>Nu (fK m) A (aS ((m.ks.take k).map (·.n))) (k:Int)) (fun k hk => ?_) ?_
  .rw[aG'];try dsimp only
   rw[aO (by rw[ak]; omega),aG,FO hk,aX (jZ (rP _ m.ks k (by omega))),rO (·.n) m.ks hk,bV (by omega)]
  .rw[nZ (bW _)]
 rw[b4D,hl,aG'];try dsimp only
 rw[aT (by rw[ak]; omega),aC,Va (Vq _ (CQ _ _ hm) hs h)];try dsimp only
 rw[fQ (iq h1),aGZ,aG,Qd (Rl _)];try dsimp only
 rw[rq,aG,aBS (aJU _ h2 (by decide))];try dsimp only
 rw[fQ (iq h3)];try dsimp only
 rw[uU (ut h4),aX (jZ (by simp)),jd (GI h5 rfl),aGZ,aC,b45,fQ (iq h5)];try dsimp only
 rw[aBS (aJU _ h6 (by decide))];try dsimp only
 rw[fQ (iq h7),aX (jZ (by rw[bM]; omega))];show some _=some _;rw[show (uT (bs s,([]:bSH) ++ [QP (bs [99],1,())],0,()):PV)=nC (ct0 s) from rfl,EI]
end
section
variable {T:List Tok} {s:Nm}
theorem Ru {t:Tok} (q:Sh.V AL) {n k:Int} (hn:n≠k) (h:di (t::T)) (hk:t.kind≠4):SS.CC 261 [bSD n,bSD k,bSF] [some [.ptr 1 0],BK q,aB (mk0 (t::T)).v]=some (.bool false,[some [.ptr 1 0],BK q,aB (mk0 T).v]):=by rw[b38,show (n==k)=false by simpa using hn,aC,b35,lw (Oh h hk)];show some (PV.bool (n==k),_)=_;rw[show (n==k)=false by simpa using hn]
theorem bDF (κ:Nat) (hκ:κ<5) (m:Mo) (hm:Sm m) (hn:wG κ m<o9 κ) (hs:s∉yS κ m) {l:Int} (h:di (mJ κ s l T)) :
 SS.CC 215 [bSF] [bP (fK m),aB (mk0 (mJ κ s l T)).v]=some (.tuple [],[bP (fK (kN κ m s)),aB (mk0 T).v]):=by
 have h1:di (vH κ s l ((gB κ).length+2) T):=iG h;unfold mJ at h ⊢;rw[b0V];dsimp only[sK];match κ,hκ,hn,hs,h,h1 with
 | 0,_,hn,hs,h,h1 =>
  have hn:m.ts.length<16:=hn;rw[jd (GI h rfl),aC,jd (pz h true rfl),aG,Qg (Ru _ (by rw[bM]; omega) h zQ)];try dsimp only
  rw[rq,aG];exact (VY (rwT m hm.t hs h1)).trans rfl
 | 1,_,hn,hs,h,h1 =>
  have hn:m.cs.length<32:=hn;rw[jd (GI h rfl),aC,jd (pz h false rfl),aC,jd (pz h true rfl),aG,Qg (Ru _ (by rw[bM]; omega) h zQ)];try dsimp only
  have e1:SS.CC 264 [bSF] [uV (fK m),aB (mk0 (vH 1 s l ((gB 1).length+2) T)).v]=some (A8 (D7 (qW s)),[uV (fK m),aB (mk0 T).v]):=bLC m hm.c hs h1;have e2:SS.CC 264 [bSF] [bP (fK m),aB (mk0 (vH 1 s l ((gB 1).length+2) T)).v]=some (A8 (D7 (qW s)),[bP (fK m),aB (mk0 T).v]):=aP4 m hm.c hs h1;rw[rq,aG,aRW e1,VZ e2,VZ e2];try dsimp only
  rw[aX (jZ (by rw[bM]; have:=hm.c; omega))];repeat rw[Gu]
  show some _=some _;rw[EI];rfl
 | 2,_,hn,hs,h,h1 =>
  have hn:m.rs.length<32:=hn;rw[jd (GI h rfl),aC,jd (pz h false rfl),aC,jd (pz h false rfl),aC,jd (pz h true rfl),aG,Qg (Ru _ (by rw[bM]; omega) h zQ)];try dsimp only
  have e1:SS.CC 264 [bSF] [uX (fK m),aB (mk0 (vH 2 s l ((gB 2).length+2) T)).v]=some (A8 (D7 (qW s)),[uX (fK m),aB (mk0 T).v]):=bLD m hm.c hs h1;have e2:SS.CC 264 [bSF] [bP (fK m),aB (mk0 (vH 2 s l ((gB 2).length+2) T)).v]=some (A8 (D7 (qW s)),[bP (fK m),aB (mk0 T).v]):=aP4 m hm.c hs h1;rw[rq,aG,aRX e1,VZ e2,VZ e2];try dsimp only
  rw[aX (jZ (by rw[bM]; have:=hm.c; omega))];repeat rw[Gu]
  show some _=some _;rw[EI];rfl
 | 3,_,hn,hs,h,h1 =>
  have hn:m.xs.length<32:=hn;rw[jd (GI h rfl),aC,jd (pz h false rfl),aC,jd (pz h false rfl),aC,jd (pz h false rfl),aC,jd (pz h true rfl),aG,Qg (Ru _ (by rw[bM]; omega) h zQ)];try dsimp only
  rw[rq,aG];exact (VY (rwX m hm.x hs h1)).trans rfl
 | 4,_,hn,hs,h,h1 =>
  have hn:m.ks.length<32:=hn;rw[jd (GI h rfl),aC,jd (pz h false rfl),aC,jd (pz h false rfl),aC,jd (pz h false rfl),aC,jd (pz h false rfl),aC,jd (pz h true rfl),aG,Qg (Ru _ (by rw[bM]; omega) h zQ)];try dsimp only
  rw[rq,aG];exact (VY (rwL m hm.k hs h1)).trans rfl
end
theorem aP2 {κ:Nat} (hκ:κ<5) {T:List Tok}:∀ (r:List Nm) (m:Mo) (b:Nat) (l:Int),di (kR κ r l T)->Sb m b->b+r.length<=900->wG κ m+r.length<=o9 κ->r.Nodup->(∀ s,s∈r->s∉yS κ m) ->
 JW (mk0 (kR κ r l T)).v (fK m)=JW (mk0 T).v (fK (r.foldl (kN κ) m))
 | [],_,_,_,_,_,_,_,_,_=>rfl
 | s::r,m,b,l,h,hb,hl,hc,hd,hn=>by
  rw[aY] at hl hc;rw[kR] at h ⊢;have hp:SS.CC 131 [bSF] [aB (mk0 (mJ κ s l (kR κ r (l+1) T))).v]=some (kD (tk (wT (gB κ) l 1)),[aB (mk0 (mJ κ s l (kR κ r (l+1) T))).v]):=CV h;rw[aF2,Qd (Rl _)];try dsimp only
  rw[rq,aG,lw hp];show aA true _ _=_;rw[aG,VY (bDF κ hκ m (hb.sm (by omega)) (by omega) (hn s (by simp)) h)];exact aP2 hκ r (kN κ m s) (b+1) (l+1) (oki hκ h) (hb.ad hκ s) (by omega) (by rw[a1I hκ]; omega) (Lr.1 hd).2 fun x hx hx2=>by
   rcases (aN6 hκ s x).1 hx2 with h2 | h2
   .exact hn x (by simp[hx]) h2
   .subst h2; exact (Lr.1 hd).1 hx
theorem aV8 (m:Mo) (l:Int) (ho:kY m) (h2:m.cs.length+m.rs.length<=1000) (hc:Ba m=0):JW (mk0 [Bc l]).v (fK m)=Du m 0 0 0:=by
 have hz:(mk0 [Bc l]).fail 0=mk0 [Bc l]:=by unfold RA.fail; rw[aK (by simp)]
 have hf:=AU (wK (ZF l)) 0;rw[hz] at hf;have hcc:=bF3 m ho h2;rw[hc] at hcc;rw[aF2,Qd (Rl _)];try dsimp only
 rw[rq,aG,lw (CV (ZF l))];show aA false _ _=_;rw[aC,aXG,Qd (Rl _)];try dsimp only
 have bCF:SS.CC 14 [A0 ((fK m).1,(fK m).2.1,(fK m).2.2.1,(fK m).2.2.2.1,(fK m).2.2.2.2.1,(fK m).2.2.2.2.2.1,(fK m).2.2.2.2.2.2.1,())] []=bK 0:=hcc;rw[rq,aG,bf bCF,fQ hf];try dsimp only
 rw[aXF,MJ X3];rfl
theorem bJH {t:bSI} {T:List Tok} (hs:rX t = .ok (Bg T)):SS.CC 122 [.str (bs t)] []=JW (mk0 T).v (fK yR):=by
 have ht:di (Bg T):=a9Q hs;rw[aXJ,aBH (aN1 t),aMX hs];try dsimp only
 rw[Bg,fQ (aE7 ht)];try dsimp only
 rw[uU (ut (iG ht))];try dsimp only
 rw[fQ (iq (iG (iG ht)))];rfl
structure Lm (m:Mo):Prop where
 e:m.es = []
 t:∀ x,x∈m.ts->∃ s,x=D6 s
 i:∀ x,x∈m.cs ++ m.rs->∃ s,x=qW s
 x:∀ x,x∈m.xs->∃ s,x=Bd s
 k:∀ x,x∈m.ks->∃ s,x=ct0 s
theorem e138:SS.CC 138 [bSE [],bSE []] []=some (.bool true,[]):=by rw[aXT,aXS]; rfl
theorem aV2:SS.CC 139 [bSE [],bSE []] []=some (.bool true,[]):=by rw[aF5,a2K]; rfl
theorem aV3:SS.CC 140 [.sl false 4 [],.sl false 4 []] []=some (.bool true,[]):=by rw[aY0,aX']; rfl
theorem aV4:SS.CC 141 [.sl false 8 [],.sl false 8 [],.func (.func 134) [] []] []=some (.bool true,[]):=by rw[aY5,aY4]; rfl
theorem e143:SS.CC 143 [.sl false 5 [],.sl false 5 []] []=some (.bool true,[]):=by rw[aYB,aYA]; rfl
theorem OY {l:bSH}:(((l.length:Nat):Int) !=((l.length:Nat):Int))=false:=by simp
theorem eqT (s:Nm):SS.CC 137 [wP (D6 s),wP (D6 s),bSF] [some [.func (.func 134) [] []]]=some (.bool true,[some [.func (.func 134) [] []]]):=by rw[aXO];dsimp only[sK];rw[sF,aG];have h1:SS.CC 138 [bSE (aS []),bSE (aS [])] []=some (.bool true,[]):=e138;have h2:SS.CC 139 [bSE (kS []),bSE (kS [])] []=some (.bool true,[]):=aV2;have h3:SS.CC 140 [.sl false 4 (([]:List Vr).map uy),.sl false 4 (([]:List Vr).map uy)] []=some (.bool true,[]):=aV3;have h4:SS.CC 141 [.sl false 8 (([]:List Mv).map Oy),.sl false 8 (([]:List Mv).map Oy),.func (.func 134) [] []] []=some (.bool true,[]):=aV4;rw[bF h1,aG,bF h1,aG,bF h2,aG,sF,aG,aG,bF h2,aG,bF h3,aG,bF h4]
theorem eqI (s:Nm):SS.CC 142 [cu (qW s),cu (qW s)] []=some (.bool true,[]):=by
 have h1:SS.CC 138 [bSE (aS []),bSE (aS [])] []=some (.bool true,[]):=e138;rw[aY6];try dsimp only
 rw[sF,aG,sF,aG,bF h1]
theorem eqX (s:Nm):SS.CC 147 [uw (Bd s),uw (Bd s)] []=some (.bool true,[]):=by
 have h1:SS.CC 148 [.sl false 2 ([(([99],[108]):Nm×Nm)].map wO),.sl false 2 ([(([99],[108]):Nm×Nm)].map wO)] []=some (.bool true,[]):=by
  have hg:∀ l:List (Nm×Nm),l.length<=1000->SS.CC 148 [.sl false 2 (l.map wO),.sl false 2 (l.map wO)] []=some (.bool true,[]):=fun l hl=>by
   rw[aYS,OY,aC];refine jy (n:=l.length) (L:=fun k=>XZ (l.map wO) (l.map wO) (k:Int)) (fun k hk => ?_) ?_
   .rw[aF9,aO (by rw[ak]; omega),aG,Jz hk,Jz hk,sF,sF,bV (by omega)]; rfl
   .rw[aF9,aT (by rw[ak]; omega),aC]
  exact hg _ (by simp)
 rw[aYO];try dsimp only
 rw[sF,aG,bF h1]
theorem eqK (s:Nm):SS.CC 150 [nC (ct0 s),nC (ct0 s)] []=some (.bool true,[]):=by
 have h1:SS.CC 151 [.sl false 2 ([(([99],1):Nm×Int)].map FY),.sl false 2 ([(([99],1):Nm×Int)].map FY)] []=some (.bool true,[]):=by
  have hg:∀ l:List (Nm×Int),l.length<=1000->SS.CC 151 [.sl false 2 (l.map FY),.sl false 2 (l.map FY)] []=some (.bool true,[]):=fun l hl=>by
   rw[aZ4,OY,aC];refine jy (n:=l.length) (L:=fun k=>Xb (l.map FY) (l.map FY) (k:Int)) (fun k hk => ?_) ?_
   .rw[aFC,aO (by rw[ak]; omega),aG,KC hk,KC hk,sF,sF,bV (by omega)]; rfl
   .rw[aFC,aT (by rw[ak]; omega),aC]
  exact hg _ (by simp)
 rw[aZ0];try dsimp only
 rw[sF,aG,sF,aG,bF h1]
theorem aVJ {l:List Tm} (hn:l.length<=1000) (h:∀ x,x∈l->∃ s,x=D6 s):SS.CC 144 [.sl false 9 (l.map wP),.sl false 9 (l.map wP),.func (.func 137) [] [bSF]] [some [.func (.func 134) [] []]]=some (.bool true,[some [.func (.func 134) [] []]]):=by
 rw[aYF,OY,aC];refine jy (n:=l.length) (L:=fun k=>XW (l.map wP) (l.map wP) (k:Int)) (fun k hk => ?_) ?_
 .obtain ⟨s,hs⟩:=h l[k] (dw hk);rw[aF6,aO (by rw[ak]; omega),aG,FP hk,FP hk,hs,aBJ (eqT s),nG,aC,bV (by omega)]
 .rw[aF6,aT (by rw[ak]; omega),aC]
theorem aDS {l:List Ins} (hn:l.length<=1000) (h:∀ x,x∈l->∃ s,x=qW s):SS.CC 145 [.sl false 3 (l.map cu),.sl false 3 (l.map cu),.func (.func 142) [] []] []=some (.bool true,[]):=by
 rw[aYJ,OY,aC];refine jy (n:=l.length) (L:=fun k=>XX (l.map cu) (l.map cu) (k:Int)) (fun k hk => ?_) ?_
 .obtain ⟨s,hs⟩:=h l[k] (dw hk);rw[aF7,aO (by rw[ak]; omega),aG,zU hk,zU hk,hs,bF (eqI s),nG,aC,bV (by omega)]
 .rw[aF7,aT (by rw[ak]; omega),aC]
theorem aVK {l:List vX} (hn:l.length<=1000) (h:∀ x,x∈l->∃ s,x=Bd s):SS.CC 146 [.sl false 2 (l.map uw),.sl false 2 (l.map uw),.func (.func 147) [] []] []=some (.bool true,[]):=by
 rw[aYN,OY,aC];refine jy (n:=l.length) (L:=fun k=>XY (l.map uw) (l.map uw) (k:Int)) (fun k hk => ?_) ?_
 .obtain ⟨s,hs⟩:=h l[k] (dw hk);rw[aF8,aO (by rw[ak]; omega),aG,EE hk,EE hk,hs,bF (eqX s),nG,aC,bV (by omega)]
 .rw[aF8,aT (by rw[ak]; omega),aC]
theorem aVF {l:List Cst} (hn:l.length<=1000) (h:∀ x,x∈l->∃ s,x=ct0 s):SS.CC 149 [.sl false 3 (l.map nC),.sl false 3 (l.map nC),.func (.func 150) [] []] []=some (.bool true,[]):=by
 rw[aYW,OY,aC];refine jy (n:=l.length) (L:=fun k=>Xa (l.map nC) (l.map nC) (k:Int)) (fun k hk => ?_) ?_
 .obtain ⟨s,hs⟩:=h l[k] (dw hk);rw[aFA,aO (by rw[ak]; omega),aG,FO hk,FO hk,hs,bF (eqK s),nG,aC,bV (by omega)]
 .rw[aFA,aT (by rw[ak]; omega),aC]
theorem bLQ (m:Mo) (h:Lm m) (hm:Sm m):SS.CC 37 [A0 (aW m),A0 (aW m)] []=some (.bool true,[]):=by
 have he:SS.CC 143 [.sl false 5 (m.es.map KW),.sl false 5 (m.es.map KW)] []=some (.bool true,[]):=by rw[h.e]; exact e143
 have h1:=hm.t;have h2:=hm.c;have h3:=hm.x;have h4:=hm.k;rw[b6N];try dsimp only
 rw[sF,aG,bF he,aG,aBJ (aVJ (by omega) h.t),aG,bF (aDS (by omega) fun x hx=>h.i x (by simp[hx])),aG,bF (aDS (by omega) fun x hx=>h.i x (by simp[hx])),aG,bF (aVK (by omega) h.x),aG,bF (aVF (by omega) h.k)]
theorem aWC {t:bSI} {m:Mo} (hp:SS.CC 36 [.str (bs t)] []=Du m 0 0 0) (ho:kY m) (h2:m.cs.length+m.rs.length<=1000) (hc:Ba m=0) (hl:(joinL (lV m)).length<=30000) :
 SS.CC 40 [.str (bs t)] []=some (.tuple [.str (bs (txM m)),bSD 0,bSD 0,bSD 0],[]):=by
 rw[b6O,QY hp];show aA false _ _=_;rw[aC,QW (bK4 ho h2 hc hl)];rfl
theorem bKF {t:bSI} {m:Mo} (hp:SS.CC 36 [.str (bs t)] []=Du m 0 0 0) (hq:SS.CC 122 [.str (bs t)] []=Du m 0 0 0) (h:Lm m) (hm:Sm m) (ho:kY m) (hc:Ba m=0) (hl:(joinL (lV m)).length<=30000) :
 SS.CC 31 [.str (bs t)] []=some (.bool true,[]):=by
 have h2:m.cs.length+m.rs.length<=1000:=by have:=hm.c; omega
 rw[b65,QY hp,QY hq,aRJ (aWC hp ho h2 hc hl)];show aA false _ (aA false _ (aA false _ _))=_;rw[aC,aC,aC,bF (bLQ m h hm),nG,aC];show aA false _ (aA true (aA true (aA true _ _) _) _)=_;rw[aC,aG,aG,aG,oO (bMX ho h2 hc hl),sF]
theorem BZ (a b:bSI):bs a ++ bs b=bs (a ++ b):=by apply ByteArray.ext;simp[bs]
def pG:Nat->bSI
 | 0 => [40,41,32,123,125,10]
 | 1 => [32,61,32,116,40,41,59,10]
 | 2 => [32,61,32,116,40,41,59,10]
 | 3 => [58,32,99,32,108,59,10]
 | _ => [58,32,49,32,42,32,99,32,60,61,32,48,59,10]
def xk (κ i:Nat):bSI:=(gB κ ++ [32,97]) ++ Lib.decDigits i ++ pG κ
def pI (κ:Nat):Nat->bSI
 | 0 => [109,111,100,101,108,32,109,59,10]
 | i+1=>pI κ i ++ xk κ i
def UB (i:Nat):Nm:=97::Lib.decDigits i
def lW (k:Nat):List Nm:=(List.range k).map UB
theorem Bj (k:Nat):(lW k).length=k:=by simp[lW]
section
variable {r tl d:bSI} {i l st:Nat} {acc:List Tok}
theorem tZ:iw false (32::r) i l st acc=iw false r (i+1) l st acc:=C_step (c':=false) rfl i l st acc
theorem MH:iw false (10::r) i l st acc=iw false r (i+1) (l+1) (i+1) acc:=C_step (c':=false) rfl i l st acc
theorem jB {b:UInt8} {w:bSI} {t:Tok} (hr:bu (b::(w ++ r))=(t,0)) (ht:t.text=b::w):iw false (b::(w ++ r)) i l st acc=iw false r (i+(w.length+1)) l st (acc ++ [t.at (l:Nat) ((i-st+1:Nat):Int)]):=by
 have h0:(bu (b::(w ++ r))).2=0:=by rw[hr]
 rw[a0H (a9U h0 _),aJ h0,hr];dsimp only;rw[ht,aY,List.drop_succ_cons,List.drop_left' rfl]
theorem UY {c:UInt8} (hd:∀ b,b∈d->eU b.toNat=true) (hl:d.length<=30) (hc:kQ c.toNat=false):bu (97::(d ++ c::tl))=(⟨1,97::d,0,0,0⟩,0):=by
 have hrun:fP kQ (97::(d ++ c::tl))=97::d:=by unfold fP;rw[DL,show kQ (97:UInt8).toNat=true from rfl,aJ rfl,List.takeWhile_append_of_pos (fun b hb=>by have:=hd b hb; simp[kQ,this]),DL,hc];simp
 show yl (97::(d ++ c::tl))=_;unfold yl;rw[hrun,aK (by rw[aY]; omega)]
theorem MG {A A' L B B':Nat} {C C':List Tok} (h1:A=A') (h2:B=B') (h3:C=C'):iw false tl A L B C=iw false tl A' L B' C':=by subst h1; subst h2; subst h3; rfl
abbrev jG (κ:Nat) (d:bSI):bSI:=(gB κ ++ [32,97]) ++ d ++ pG κ
theorem bLR {o:Nat} (hd:∀ b,b∈d->eU b.toNat=true) (hl:d.length<=30):iw false (jG 0 d ++ tl) o l o acc=iw false tl (o+(jG 0 d).length) (l+1) (o+(jG 0 d).length) (acc ++ mJ 0 (97::d) l []):=by
 rw[show jG 0 d ++ tl=116::([101,109,112,108,97,116,101] ++ (32::97::(d ++ 40::41::32::123::125::10::tl))) by simp[jG,gB,pG]];refine (jB (t:=⟨1,kwM,0,0,0⟩) (by rfl) rfl).trans ?_;rw[tZ];refine (jB (b:=97) (w:=d) (UY hd hl rfl) rfl).trans ?_;refine (jB (b:=40) (w := []) (t:=⟨3,[40],0,0,0⟩) (by rfl) rfl).trans ?_;refine (jB (b:=41) (w := []) (t:=⟨3,[41],0,0,0⟩) (by rfl) rfl).trans ?_;rw[tZ];refine (jB (b:=123) (w := []) (t:=⟨3,[123],0,0,0⟩) (by rfl) rfl).trans ?_;refine (jB (b:=125) (w := []) (t:=⟨3,[125],0,0,0⟩) (by rfl) rfl).trans ?_;rw[MH];refine MG ?_ ?_ ?_
 .simp[jG,gB,pG]; omega
 .simp[jG,gB,pG]; omega
 .simp only[jc,lM,Gf];refine congrArg (acc ++ ·) ?_;simp only[mJ,vH,gB,Tok.at,Lj,Tok.mk.injEq,true_and,and_true,aY,bG];omega
theorem bLS {o:Nat} (hd:∀ b,b∈d->eU b.toNat=true) (hl:d.length<=30):iw false (jG 1 d ++ tl) o l o acc=iw false tl (o+(jG 1 d).length) (l+1) (o+(jG 1 d).length) (acc ++ mJ 1 (97::d) l []):=by
 rw[show jG 1 d ++ tl=99::([111,109,112,111,110,101,110,116] ++ (32::97::(d ++ 32::61::32::116::40::41::59::10::tl))) by simp[jG,gB,pG]];refine (jB (t:=⟨1,kwC,0,0,0⟩) (by rfl) rfl).trans ?_;rw[tZ];refine (jB (b:=97) (w:=d) (UY hd hl rfl) rfl).trans ?_;rw[tZ];refine (jB (b:=61) (w := []) (t:=⟨3,[61],0,0,0⟩) (by rfl) rfl).trans ?_;rw[tZ];refine (jB (b:=116) (w := []) (t:=⟨1,[116],0,0,0⟩) (by rfl) rfl).trans ?_;refine (jB (b:=40) (w := []) (t:=⟨3,[40],0,0,0⟩) (by rfl) rfl).trans ?_;refine (jB (b:=41) (w := []) (t:=⟨3,[41],0,0,0⟩) (by rfl) rfl).trans ?_;refine (jB (b:=59) (w := []) (t:=⟨3,[59],0,0,0⟩) (by rfl) rfl).trans ?_;rw[MH];refine MG ?_ ?_ ?_
 .simp[jG,gB,pG]; omega
 .simp[jG,gB,pG]; omega
 .simp only[jc,lM,Gf];refine congrArg (acc ++ ·) ?_;simp only[mJ,vH,gB,Tok.at,Lj,Tok.mk.injEq,true_and,and_true,aY,bG];omega
theorem bLT {o:Nat} (hd:∀ b,b∈d->eU b.toNat=true) (hl:d.length<=30):iw false (jG 2 d ++ tl) o l o acc=iw false tl (o+(jG 2 d).length) (l+1) (o+(jG 2 d).length) (acc ++ mJ 2 (97::d) l []):=by
 rw[show jG 2 d ++ tl=114::([101,113,117,105,114,101,109,101,110,116] ++ (32::97::(d ++ 32::61::32::116::40::41::59::10::tl))) by simp[jG,gB,pG]];refine (jB (t:=⟨1,kwR,0,0,0⟩) (by rfl) rfl).trans ?_;rw[tZ];refine (jB (b:=97) (w:=d) (UY hd hl rfl) rfl).trans ?_;rw[tZ];refine (jB (b:=61) (w := []) (t:=⟨3,[61],0,0,0⟩) (by rfl) rfl).trans ?_;rw[tZ];refine (jB (b:=116) (w := []) (t:=⟨1,[116],0,0,0⟩) (by rfl) rfl).trans ?_;refine (jB (b:=40) (w := []) (t:=⟨3,[40],0,0,0⟩) (by rfl) rfl).trans ?_;refine (jB (b:=41) (w := []) (t:=⟨3,[41],0,0,0⟩) (by rfl) rfl).trans ?_;refine (jB (b:=59) (w := []) (t:=⟨3,[59],0,0,0⟩) (by rfl) rfl).trans ?_;rw[MH];refine MG ?_ ?_ ?_
 .simp[jG,gB,pG]; omega
 .simp[jG,gB,pG]; omega
 .simp only[jc,lM,Gf];refine congrArg (acc ++ ·) ?_;simp only[mJ,vH,gB,Tok.at,Lj,Tok.mk.injEq,true_and,and_true,aY,bG];omega
theorem bLU {o:Nat} (hd:∀ b,b∈d->eU b.toNat=true) (hl:d.length<=30):iw false (jG 3 d ++ tl) o l o acc=iw false tl (o+(jG 3 d).length) (l+1) (o+(jG 3 d).length) (acc ++ mJ 3 (97::d) l []):=by
 rw[show jG 3 d ++ tl=101::([120,99,108,117,100,101] ++ (32::97::(d ++ 58::32::99::32::108::59::10::tl))) by simp[jG,gB,pG]];refine (jB (t:=⟨1,kwX,0,0,0⟩) (by rfl) rfl).trans ?_;rw[tZ];refine (jB (b:=97) (w:=d) (UY hd hl rfl) rfl).trans ?_;refine (jB (b:=58) (w := []) (t:=⟨3,[58],0,0,0⟩) (by rfl) rfl).trans ?_;rw[tZ];refine (jB (b:=99) (w := []) (t:=⟨1,[99],0,0,0⟩) (by rfl) rfl).trans ?_;rw[tZ];refine (jB (b:=108) (w := []) (t:=⟨1,[108],0,0,0⟩) (by rfl) rfl).trans ?_;refine (jB (b:=59) (w := []) (t:=⟨3,[59],0,0,0⟩) (by rfl) rfl).trans ?_;rw[MH];refine MG ?_ ?_ ?_
 .simp[jG,gB,pG]; omega
 .simp[jG,gB,pG]; omega
 .simp only[jc,lM,Gf];refine congrArg (acc ++ ·) ?_;simp only[mJ,vH,gB,Tok.at,Lj,Tok.mk.injEq,true_and,and_true,aY,bG];omega
theorem bLV {o:Nat} (hd:∀ b,b∈d->eU b.toNat=true) (hl:d.length<=30):iw false (jG 4 d ++ tl) o l o acc=iw false tl (o+(jG 4 d).length) (l+1) (o+(jG 4 d).length) (acc ++ mJ 4 (97::d) l []):=by
 rw[show jG 4 d ++ tl=108::([105,109,105,116] ++ (32::97::(d ++ 58::32::49::32::42::32::99::32::60::61::32::48::59::10::tl))) by simp[jG,gB,pG]];refine (jB (t:=⟨1,kwL,0,0,0⟩) (by rfl) rfl).trans ?_;rw[tZ];refine (jB (b:=97) (w:=d) (UY hd hl rfl) rfl).trans ?_;refine (jB (b:=58) (w := []) (t:=⟨3,[58],0,0,0⟩) (by rfl) rfl).trans ?_;rw[tZ];refine (jB (b:=49) (w := []) (t:=⟨2,[49],1,0,0⟩) (by rfl) rfl).trans ?_;rw[tZ];refine (jB (b:=42) (w := []) (t:=⟨3,[42],0,0,0⟩) (by rfl) rfl).trans ?_;rw[tZ];refine (jB (b:=99) (w := []) (t:=⟨1,[99],0,0,0⟩) (by rfl) rfl).trans ?_;rw[tZ];refine (jB (b:=60) (w := [61]) (t:=⟨3,[60,61],0,0,0⟩) (by rfl) rfl).trans ?_;rw[tZ];refine (jB (b:=48) (w := []) (t:=⟨2,[48],0,0,0⟩) (by rfl) rfl).trans ?_;refine (jB (b:=59) (w := []) (t:=⟨3,[59],0,0,0⟩) (by rfl) rfl).trans ?_;rw[MH];refine MG ?_ ?_ ?_
 .simp[jG,gB,pG]; omega
 .simp[jG,gB,pG]; omega
 .simp only[jc,lM,Gf];refine congrArg (acc ++ ·) ?_;simp only[mJ,vH,gB,Tok.at,Lj,Tok.mk.injEq,true_and,and_true,aY,bG];omega
end
theorem aUU:((List.range 41).all fun i=>decide ((Lib.decDigits i).length<=2))=true:=by kernel_rfl
theorem bH3:((List.range 41).all fun i=>(List.range 41).all fun j=>decide (Lib.decDigits i=Lib.decDigits j->i=j))=true:=by kernel_rfl
theorem Qr {n:Nat} {p:Nat->Bool} (h:((List.range n).all p)=true) {i:Nat} (hi:i<n):p i=true:=iC.1 h i (DJ.2 hi)
theorem Wl {i:Nat} (hi:i<41):(Lib.decDigits i).length<=2:=qo (Qr aUU hi)
theorem ndO {k:Nat} (hk:k<=41):(lW k).Nodup:=by
 unfold lW;rw[List.nodup_iff_pairwise_ne,List.pairwise_map];refine List.Pairwise.imp_of_mem (R:=fun a b=>a≠b) ?_ (List.nodup_iff_pairwise_ne.1 List.nodup_range);intro a b ha hb hab e;have ha:=DJ.1 ha;have hb:=DJ.1 hb;have h0:=Qr bH3 (i:=a) (by omega);have h1:=qo (Qr h0 (i:=b) (by omega));unfold UB at e;injection e with _ e
 exact hab (h1 e)
theorem aK8 (κ:Nat) (s:Nm) (l:Int) (T:List Tok):mJ κ s l T=mJ κ s l [] ++ T:=by
 match κ with
 | 0=>rfl
 | 1=>rfl
 | 2=>rfl
 | 3=>rfl
 | _+4=>rfl
theorem aKA (κ:Nat):∀ (r:List Nm) (s:Nm) (l:Int) (T:List Tok),kR κ (r ++ [s]) l T=kR κ r l (mJ κ s (l+r.length) T)
 | [],s,l,T=>by simp[kR]
 | x::r,s,l,T=>by rw[lM,kR,aKA κ r s (l+1) T,kR,aY];congr 3; omega
theorem a4S (κ:Nat):∀ (r:List Nm) (l:Int) (T:List Tok),kR κ r l T=kR κ r l [] ++ T
 | [],_,_=>rfl
 | s::r,l,T=>by rw[kR,kR,aK8,a4S κ r (l+1) T,aK8 κ s l (kR κ r (l+1) []),jc]
theorem bHE (k:Nat):lW (k+1)=lW k ++ [UB k]:=by simp[lW,List.range_succ]
theorem scI {κ:Nat} (hκ:κ<5) {d tl:bSI} {o l:Nat} {acc:List Tok} (hd:∀ b,b∈d->eU b.toNat=true) (hl:d.length<=30):iw false (jG κ d ++ tl) o l o acc=iw false tl (o+(jG κ d).length) (l+1) (o+(jG κ d).length) (acc ++ mJ κ (97::d) l []):=by
 match κ,hκ with
 | 0,_=>exact bLR hd hl
 | 1,_=>exact bLS hd hl
 | 2,_=>exact bLT hd hl
 | 3,_=>exact bLU hd hl
 | 4,_=>exact bLV hd hl
theorem bLY (tl:bSI):iw false (pI 0 0 ++ tl) 0 1 0 []=iw false tl 9 2 9 (Bg []):=by show iw false (109::([111,100,101,108] ++ (32::109::59::10::tl))) 0 1 0 []=_;refine (jB (t:=⟨1,mW,0,0,0⟩) (by rfl) rfl).trans ?_;rw[tZ];refine (jB (b:=109) (w := []) (t:=⟨1,[109],0,0,0⟩) (by rfl) rfl).trans ?_;refine (jB (b:=59) (w := []) (t:=⟨3,[59],0,0,0⟩) (by rfl) rfl).trans ?_;rw[MH];rfl
theorem aPG {κ:Nat} (hκ:κ<5):∀ (k:Nat),k<=41->∀ tl:bSI,iw false (pI κ k ++ tl) 0 1 0 []=iw false tl (pI κ k).length (k+2) (pI κ k).length (Bg (kR κ (lW k) 2 []))
 | 0,_,tl=>bLY tl
 | k+1,hk,tl=>by
  rw[pI,jc,aPG hκ k (by omega) (xk κ k ++ tl)];refine (scI hκ (Wn k) (by have:=Wl (i:=k) (by omega); omega)).trans ?_;refine MG ?_ ?_ ?_
  .exact (show (pI κ k ++ xk κ k).length=(pI κ k).length+(xk κ k).length from aP).symm
  .exact (show (pI κ k ++ xk κ k).length=(pI κ k).length+(xk κ k).length from aP).symm
  .rw[bHE,aKA,a4S κ (lW k) 2 (mJ _ _ _ _),Bj];unfold Bg UB;simp only[lM];congr 5
   push_cast; omega
theorem Yq (κ:Nat) (hκ:κ<5):∀ k:Nat,k<=41->(pI κ k).length<=9+60*k
 | 0,_=>by simp[pI]
 | k+1,hk=>by
  have h1:=Yq κ hκ k (by omega);have h2:=Wl (i:=k) (by omega);have h3:(gB κ).length<=20/\(pG κ).length<=20:=by
   match κ,hκ with
   | 0,_=>decide
   | 1,_=>decide
   | 2,_=>decide
   | 3,_=>decide
   | 4,_=>decide
  rw[pI,aP];unfold xk;simp only[aP,aY,bG];omega
theorem Zc {κ k:Nat} (hκ:κ<5) (hk:k<41):rX (pI κ k) = .ok (Bg (kR κ (lW k) 2 [Bc (k+2)])):=by
 have hl:=Yq κ hκ k (by omega);have h:=aPG hκ k (by omega) [];rw[zy,aBF] at h;unfold rX;rw[aK (by omega),aPI,h,a4S κ _ 2 [Bc _]];congr 1
 unfold Bg;simp only[lM];congr 4
 simp[Bc]
def Be (κ k:Nat):Mo:=(lW k).foldl (kN κ) yR
def aER (κ k:Nat):Bool:=decide (Ba (Be κ k)=0)&&decide ((joinL (lV (Be κ k))).length<=30000)
theorem aWA:((List.range 5).all fun κ=>(List.range 41).all fun k=>decide (o9 κ<k)||aER κ k)=true:=by kernel_rfl
structure AA (m:Mo):Prop extends Lm m where
 n:m.n = [109]
 tn:∀ x,x∈m.ts->x.n.length<=1000
 jn:∀ x,x∈m.cs ++ m.rs->x.n.length<=1000
 xn:∀ x,x∈m.xs->x.n.length<=1000
 kn:∀ x,x∈m.ks->x.n.length<=1000
theorem II {α:Type} {l:List α} {x y:α} {P:α->Prop} (h:∀ x,x∈l->P x) (hy:P y) (hx:x∈l ++ [y]):P x:=by
 rcases yA.1 hx with hx | hx
 .exact h x hx
 .rw[DK.1 hx]; exact hy
theorem aMJ {α:Type} {l r:List α} {x y:α} {P:α->Prop} (h:∀ x,x∈l ++ r->P x) (hy:P y) (hx:x∈(l ++ [y]) ++ r):P x:=by
 rcases yA.1 hx with hx | hx
 .exact II (fun z hz=>h z (yA.2 (.inl hz))) hy hx
 .exact h x (yA.2 (.inr hx))
theorem aMK {α:Type} {l r:List α} {x y:α} {P:α->Prop} (h:∀ x,x∈l ++ r->P x) (hy:P y) (hx:x∈l ++ (r ++ [y])):P x:=by rw[<- jc] at hx;exact II h hy hx
theorem AA.ad {m:Mo} (h:AA m) {κ:Nat} (hκ:κ<5) {s:Nm} (hs:s.length<=1000):AA (kN κ m s):=by
 obtain ⟨⟨h1,h2,h3,h4,h5⟩,h0,h6,h7,h8,h9⟩:=h;match κ,hκ with
 | 0,_=>exact ⟨⟨h1,fun x hx=>II (P:=fun x=>∃ s,x=D6 s) h2 ⟨s,rfl⟩ hx,h3,h4,h5⟩,h0,fun x hx=>II (P:=fun x=>x.n.length<=1000) h6 hs hx,h7,h8,h9⟩
 | 1,_=>exact ⟨⟨h1,h2,fun x hx=>aMJ (P:=fun x=>∃ s,x=qW s) h3 ⟨s,rfl⟩ hx,h4,h5⟩,h0,h6,fun x hx=>aMJ (P:=fun x=>x.n.length<=1000) h7 hs hx,h8,h9⟩
 | 2,_=>exact ⟨⟨h1,h2,fun x hx=>aMK (P:=fun x=>∃ s,x=qW s) h3 ⟨s,rfl⟩ hx,h4,h5⟩,h0,h6,fun x hx=>aMK (P:=fun x=>x.n.length<=1000) h7 hs hx,h8,h9⟩
 | 3,_=>exact ⟨⟨h1,h2,h3,fun x hx=>II (P:=fun x=>∃ s,x=Bd s) h4 ⟨s,rfl⟩ hx,h5⟩,h0,h6,h7,fun x hx=>II (P:=fun x=>x.n.length<=1000) h8 hs hx,h9⟩
 | 4,_=>exact ⟨⟨h1,h2,h3,h4,fun x hx=>II (P:=fun x=>∃ s,x=ct0 s) h5 ⟨s,rfl⟩ hx⟩,h0,h6,h7,h8,fun x hx=>II (P:=fun x=>x.n.length<=1000) h9 hs hx⟩
theorem AA.fold {κ:Nat} (hκ:κ<5):∀ (r:List Nm) (m:Mo) (b:Nat),AA m->Sb m b->(∀ s,s∈r->s.length<=1000)->AA (r.foldl (kN κ) m)/\Sb (r.foldl (kN κ) m) (b+r.length)
 | [],_,_,h,hb,_=>⟨h,hb⟩
 | s::r,m,b,h,hb,hl=>by
  have:=AA.fold hκ r (kN κ m s) (b+1) (h.ad hκ (hl s (by simp))) (hb.ad hκ s) fun x hx=>hl x (by simp[hx])
  rw[aY,VR r.length 1,<- a0D];exact this
theorem AA.ok {m:Mo} (h:AA m) (hm:Sm m):kY m:=by
 have h1:=hm.t;have h2:=hm.c;have h3:=hm.x;have h4:=hm.k;have hc:m.cs.length<=1000:=by omega
 refine ⟨by rw[h.n]; decide,by rw[h.e]; simp,⟨by omega,fun t ht=>⟨h.tn t ht,?_⟩⟩,⟨hc,by omega,fun x hx=>⟨h.jn x hx,?_⟩⟩,⟨by omega,fun x hx=>⟨h.xn x hx,?_⟩⟩,⟨by omega,fun x hx=>⟨h.kn x hx,?_⟩⟩⟩
 .obtain ⟨s,rfl⟩:=h.t t ht;exact ⟨⟨by simp,by simp⟩,⟨by simp,by simp⟩,by simp,by simp,by simp,by simp⟩
 .obtain ⟨s,rfl⟩:=h.i x hx;exact ⟨by simp,by simp,by simp⟩
 .obtain ⟨s,rfl⟩:=h.x x hx;exact ⟨by simp,by simp⟩
 .obtain ⟨s,rfl⟩:=h.k x hx;exact ⟨by simp,by simp⟩
theorem lm0:AA yR:=⟨⟨rfl,by simp,by simp,by simp,by simp⟩,rfl,by simp,by simp,by simp,by simp⟩
theorem sb0:Sb yR 0:=⟨by simp,by simp,by simp,by simp⟩
theorem Oe {κ:Nat} (hκ:κ<5):yS κ yR = []/\wG κ yR=0:=by
 match κ,hκ with
 | 0,_=>exact ⟨rfl,rfl⟩
 | 1,_=>exact ⟨rfl,rfl⟩
 | 2,_=>exact ⟨rfl,rfl⟩
 | 3,_=>exact ⟨rfl,rfl⟩
 | 4,_=>exact ⟨rfl,rfl⟩
theorem bFF {k:Nat} (hk:k<=41):∀ s,s∈lW k->s.length<=1000:=by intro s hs;obtain ⟨i,hi,rfl⟩:=qL.1 hs;have:=Wl (i:=i) (by have:=DJ.1 hi; omega);unfold UB;rw[aY]; omega
theorem fmB {κ k:Nat} (hκ:κ<5) (hk:k<=41):AA (Be κ k)/\Sb (Be κ k) k:=by have:=AA.fold hκ (lW k) yR 0 lm0 sb0 (bFF hk);rw[Bj,kW] at this;exact this
theorem aDB {κ:Nat} (hκ:κ<5):∀ (r:List Nm) (m:Mo),wG κ (r.foldl (kN κ) m)=wG κ m+r.length
 | [],_=>rfl
 | s::r,m=>by rw[List.foldl_cons,aDB hκ r,a1I hκ,aY]; omega
theorem okO {κ k:Nat} (hκ:κ<5) (hk:k<41):di (kR κ (lW k) 2 [Bc (k+2)]):=gQ (iG (iG (a9Q (Zc hκ hk))))
theorem aML (κ:Nat):o9 κ<=32:=by
 match κ with
 | 0=>decide
 | _+1=>exact bW _
theorem aW0 {κ k:Nat} (hκ:κ<5) (hk:k<41) (hm:k<=o9 κ):SS.CC 36 [.str (bs (pI κ k))] []=Du (Be κ k) 0 0 0/\SS.CC 31 [.str (bs (pI κ k))] []=some (.bool true,[]):=by
 obtain ⟨hB,hS⟩:=fmB hκ (show k<=41 by omega);have hs:=hS.sm (by omega);have ho:=hB.ok hs;have hf:=Qr (Qr aWA hκ) hk;rw[aT (by omega),Bool.false_or] at hf;unfold aER at hf;rw[au] at hf;have hc:=qo hf.1;have hl:=qo hf.2;have h2:(Be κ k).cs.length+(Be κ k).rs.length<=1000:=by have:=hs.c; omega
 have hn:∀ s,s∈lW k->s∉yS κ yR:=fun s _=>by rw[(Oe hκ).1]; simp
 have hp:SS.CC 36 [.str (bs (pI κ k))] []=Du (Be κ k) 0 0 0:=by rw[aO5 (Zc hκ hk),a9B hκ (lW k) yR 0 2 (okO hκ hk) sb0 (by rw[Bj]; omega) (by rw[Bj,(Oe hκ).2]; omega) (ndO (by omega)) hn];exact aV6 (Be κ k) _ ho h2 hc
 have hq:SS.CC 122 [.str (bs (pI κ k))] []=Du (Be κ k) 0 0 0:=by rw[bJH (Zc hκ hk),aP2 hκ (lW k) yR 0 2 (okO hκ hk) sb0 (by rw[Bj]; omega) (by rw[Bj,(Oe hκ).2]; omega) (ndO (by omega)) hn];exact aV8 (Be κ k) _ ho h2 hc
 exact ⟨hp,bKF hp hq hB.toLm hs ho hc hl⟩
theorem aKB (κ:Nat):∀ (r r2:List Nm) (l:Int) (T:List Tok),kR κ (r ++ r2) l T=kR κ r l (kR κ r2 (l+r.length) T)
 | [],r2,l,T=>by simp[kR]
 | x::r,r2,l,T=>by rw[lM,kR,aKB κ r r2 (l+1) T,kR,aY];congr 3; omega
theorem bGK {κ k:Nat} (hκ:κ<5) (hk:k<41) (hm:o9 κ<k):SS.CC 36 [.str (bs (pI κ k))] []=Du m00 ((o9 κ:Int)+2) 1 3:=by
 have hmo:=aML κ;have e:lW k=lW (o9 κ) ++ (lW k).drop (o9 κ):=by
  have h1:=(QE (o9 κ) (lW k)).symm;have h2:(lW k).take (o9 κ)=lW (o9 κ):=by unfold lW;rw[<- VN,List.take_range,QJ (by omega)]
  rw[h2] at h1;exact h1
 have hok:=okO hκ hk;rw[aO5 (Zc hκ hk)];rw[e,aKB] at hok ⊢;cases hd:(lW k).drop (o9 κ) with
 | nil =>have:=congrArg List.length hd;rw[uQ,Bj] at this;simp at this; omega
 | cons s r =>
  rw[hd] at hok;have hn:∀ s,s∈lW (o9 κ)->s∉yS κ yR:=fun s _=>by rw[(Oe hκ).1]; simp
  rw[a9B hκ (lW (o9 κ)) yR 0 2 hok sb0 (by rw[Bj]; omega) (by rw[Bj,(Oe hκ).2]; omega) (ndO (by omega)) hn];have h3:=aNH hκ hok;have h4:=bHS hκ ((lW (o9 κ)).foldl (kN κ) yR) (by rw[aDB hκ,(Oe hκ).2,Bj]; omega) h3;refine h4.trans ?_;rw[Bj,Int.add_comm]
theorem hsz {x y:bSG} (h1:x.size<=10000) (h2:y.size<=10000):decide (x.size+y.size<=aQ)=true:=aO (by unfold aQ; omega)
theorem Ur {x:bSG} {d:bSI} (hx:x.size<=500) (hd:d.length<=500):(x ++ bs d).size<=10000:=by rw[ByteArray.size_append,kG]; omega
theorem bJM (i:Nat):((⟨#[116,101,109,112,108,97,116,101,32,97]⟩:bSG) ++ bs (Lib.decDigits i)) ++ (⟨#[40,41,32,123,125,10]⟩:bSG)=bs (xk 0 i):=by rw[show (⟨#[116,101,109,112,108,97,116,101,32,97]⟩:bSG)=bs (gB 0 ++ [32,97]) by kernel_rfl,show (⟨#[40,41,32,123,125,10]⟩:bSG)=bs (pG 0) by kernel_rfl,BZ,BZ]; rfl
theorem bJN (i:Nat):((⟨#[99,111,109,112,111,110,101,110,116,32,97]⟩:bSG) ++ bs (Lib.decDigits i)) ++ (⟨#[32,61,32,116,40,41,59,10]⟩:bSG)=bs (xk 1 i):=by rw[show (⟨#[99,111,109,112,111,110,101,110,116,32,97]⟩:bSG)=bs (gB 1 ++ [32,97]) by kernel_rfl,show (⟨#[32,61,32,116,40,41,59,10]⟩:bSG)=bs (pG 1) by kernel_rfl,BZ,BZ]; rfl
theorem bJO (i:Nat):((⟨#[114,101,113,117,105,114,101,109,101,110,116,32,97]⟩:bSG) ++ bs (Lib.decDigits i)) ++ (⟨#[32,61,32,116,40,41,59,10]⟩:bSG)=bs (xk 2 i):=by rw[show (⟨#[114,101,113,117,105,114,101,109,101,110,116,32,97]⟩:bSG)=bs (gB 2 ++ [32,97]) by kernel_rfl,show (⟨#[32,61,32,116,40,41,59,10]⟩:bSG)=bs (pG 2) by kernel_rfl,BZ,BZ]; rfl
theorem bJP (i:Nat):((⟨#[101,120,99,108,117,100,101,32,97]⟩:bSG) ++ bs (Lib.decDigits i)) ++ (⟨#[58,32,99,32,108,59,10]⟩:bSG)=bs (xk 3 i):=by rw[show (⟨#[101,120,99,108,117,100,101,32,97]⟩:bSG)=bs (gB 3 ++ [32,97]) by kernel_rfl,show (⟨#[58,32,99,32,108,59,10]⟩:bSG)=bs (pG 3) by kernel_rfl,BZ,BZ]; rfl
theorem bJQ (i:Nat):((⟨#[108,105,109,105,116,32,97]⟩:bSG) ++ bs (Lib.decDigits i)) ++ (⟨#[58,32,49,32,42,32,99,32,60,61,32,48,59,10]⟩:bSG)=bs (xk 4 i):=by rw[show (⟨#[108,105,109,105,116,32,97]⟩:bSG)=bs (gB 4 ++ [32,97]) by kernel_rfl,show (⟨#[58,32,49,32,42,32,99,32,60,61,32,48,59,10]⟩:bSG)=bs (pG 4) by kernel_rfl,BZ,BZ]; rfl
theorem bJL {κ:Nat} (hκ:κ<5) (i:Nat):([.str (((⟨#[116,101,109,112,108,97,116,101,32,97]⟩:bSG) ++ bs (Lib.decDigits i)) ++ (⟨#[40,41,32,123,125,10]⟩:bSG)),.str (((⟨#[99,111,109,112,111,110,101,110,116,32,97]⟩:bSG) ++ bs (Lib.decDigits i)) ++ (⟨#[32,61,32,116,40,41,59,10]⟩:bSG)),.str (((⟨#[114,101,113,117,105,114,101,109,101,110,116,32,97]⟩:bSG) ++ bs (Lib.decDigits i)) ++ (⟨#[32,61,32,116,40,41,59,10]⟩:bSG)),.str (((⟨#[101,120,99,108,117,100,101,32,97]⟩:bSG) ++ bs (Lib.decDigits i)) ++ (⟨#[58,32,99,32,108,59,10]⟩:bSG)),.str (((⟨#[108,105,109,105,116,32,97]⟩:bSG) ++ bs (Lib.decDigits i)) ++ (⟨#[58,32,49,32,42,32,99,32,60,61,32,48,59,10]⟩:bSG))]:bSH)[κ]? = some (.str (bs (xk κ i))):=by
 match κ,hκ with
 | 0,_=>exact congrArg (fun x=>some (PV.str x)) (bJM i)
 | 1,_=>exact congrArg (fun x=>some (PV.str x)) (bJN i)
 | 2,_=>exact congrArg (fun x=>some (PV.str x)) (bJO i)
 | 3,_=>exact congrArg (fun x=>some (PV.str x)) (bJP i)
 | 4,_=>exact congrArg (fun x=>some (PV.str x)) (bJQ i)
theorem bG9 {κ k:Nat} (hκ:κ<5) (hk:k<41) {kd:Int} (hx:Int.tmod kd 5=(κ:Int)):O3 kd (k:Int) (k:Int) ⟨#[109,111,100,101,108,32,109,59,10]⟩ 0=O3 kd (k:Int) (k:Int) (bs (pI κ k)) (k:Int):=by
 refine jy (n:=k) (L:=fun i=>O3 kd (k:Int) (k:Int) (bs (pI κ i)) (i:Int)) (fun i hi => ?_) rfl;have h2:=Wl (i:=i) (by omega);have h3:(bs (Lib.decDigits i)).size<=10000:=by rw[kG]; omega
 have h4:=Yq κ hκ i (by omega);have h5:=Yq κ hκ (i+1) (by omega);have h6:(xk κ i).length<=9+60*(i+1):=by rw[pI,aP] at h5; omega
 rw[aIW,aO (by omega),aG,oO (TS i (by omega))];rw[aX (hsz (by decide) h3),aX (hsz (Ur (by decide) (by omega)) (by decide)),aX (hsz (by decide) h3),aX (hsz (Ur (by decide) (by omega)) (by decide)),aX (hsz (by decide) h3),aX (hsz (Ur (by decide) (by omega)) (by decide)),aX (hsz (by decide) h3),aX (hsz (Ur (by decide) (by omega)) (by decide)),aX (hsz (by decide) h3),aX (hsz (Ur (by decide) (by omega)) (by decide))];rw[hx,lH (e := .str (bs (xk κ i))) (by omega) (by rw[nX]; exact bJL hκ i),jR,aX (hsz (by rw[kG]; omega) (by rw[kG]; omega)),BZ,bV (by omega)];rfl
theorem c9 (n kd:Int) (h0:0<=n) (h1:n<=255) (h2:0<=kd) (h3:kd<=255):SS.CC 9 [.int .u8 n,.int .u8 kd] []=kZ (.bool true):=by
 obtain ⟨k,hk,ek⟩:∃ k:Nat,k<41/\i64.wrap (Int.tmod n 41)=(k:Int):=⟨n.toNat % 41,Nat.mod_lt _ (by decide),by rw[Int.tmod_eq_emod_of_nonneg h0,wrap64 (by omega) (by omega)]; omega⟩;obtain ⟨κ,hκ,eκ⟩:∃ κ:Nat,κ<5/\Int.tmod kd 5=(κ:Int):=⟨kd.toNat % 5,Nat.mod_lt _ (by decide),by rw[Int.tmod_eq_emod_of_nonneg h2]; omega⟩;rw[bBK,bF known,nG,aC,ek,bG9 hκ hk eκ,aIW,aT (by omega),aC,eκ];have key:YN (k:Int) (o9 κ:Int) (bs (pI κ k))=kZ (.bool true):=by
  rw[bBH];have hmo:=aML κ;by_cases hm:o9 κ<k
  .rw[QY (bGK hκ hk hm),aO (by omega),aG];show aA true (aA (((o9 κ:Int)+2)==i64.wrap ((o9 κ:Int)+2)) _ _) _=_;rw[aG,wrap64 (by omega) (by omega),sF,aG];rfl
  .obtain ⟨e1,e2⟩:=aW0 hκ hk (by omega);rw[QY e1,aT (by omega),aC];show aA true (aA true (aA true _ _) _) _=_;rw[aG,aG,aG,bF e2]
 match κ,hκ,key with
 | 0,_,key=>exact key
 | 1,_,key=>exact key
 | 2,_,key=>exact key
 | 3,_,key=>exact key
 | 4,_,key=>exact key
end Go.Proofs.YtcdceiloganlnaaGreatDoor.W
namespace Go.Proofs.YtcdceiloganlnaaGreatDoor
open Go.ChangeShapes Go.WideShapes Go.ChangeAt Go.RowKit
set_option maxRecDepth 100000 in
theorem bFS (os:Os) (started:os.Started) (H:Type) (enc:TypeId×Value->H) (F:Stop.Interp) :
 ReturnsInHanded {} Tryz.checked os 9 .any ((OpenSpec.ofChange Rows.parserLimitsSpec).preRow enc Tryz.prog Tryz.f9 Rows.parserLimitsRow.domain false Rows.parserLimitsRow.laid) (((OpenSpec.ofChange Rows.parserLimitsSpec).at F).post enc Tryz.prog Tryz.f9 false true false false):=by
 obtain ⟨x,hx⟩:=aRF.1 (show (DataW.whole enc Tryz.prog ((laidWorld6 os).forCall (fun _ _=>0) ⟨#[],#[.int .u8 0,.int .u8 0],[]⟩).memory Tryz.f9.params.toList Rows.parserLimitsSpec.vars false (#[.int .u8 0,.int .u8 0]:Array Value).toList 8).isSome=true by kernel_rfl);refine returnsInHanded_of_row (C:=Tryz.checked) (s:=OpenSpec.ofChange Rows.parserLimitsSpec) bHT started (by kernel_rfl) Tryz.func9
  (witness_row_at (enc:=enc) (C:=Tryz.checked) false (laidWorld6 os) #[.int .u8 0,.int .u8 0] rfl (by kernel_rfl) (by kernel_rfl) (by kernel_rfl)
   (OpenSpec.preRow_of_cond 8 hx (by kernel_rfl) (fun k hk=>by cases hk) (by kernel_rfl) (laidMet_of_run' 8 (by kernel_rfl) (by kernel_rfl)))) ?_
 intro W base args ds gs before hval0 hW hcnd _ hsz0 hlaid bCV _;have hval:∀ (j:Nat) t v,Tryz.f9.params[j]? = some t->args[j]? = some v->Value.okWide Tryz.prog W .any base t v:=hval0;have hsz:(DataW.weightsEach Tryz.prog (Tryz.f9.params.toList ++ Rows.parserLimitsSpec.plain.varTypes Tryz.prog) (ds ++ gs)).all (· <= reachBytes)=true:=hsz0;have hW':=hW;obtain ⟨p,q,hA0,hV,rfl,hfz,hnd⟩:=hW;have hA:DataW.TrodAll enc Tryz.prog W 0 (fun _=>true) true Tryz.f9.params.toList args.toList ds p:=hA0;rw[Tryz.params9] at hA hval hsz;have hsz1:∀ (j:Nat) t d,(Tryz.f9.params.toList)[j]? = some t->ds[j]? = some d->∀ n,n∈d.weights Tryz.prog t->n<=reachBytes:=fun j t d ht hd n hn=>qo (iC.1 hsz0 _ (DataW.weights_mem_each (j:=j) (t:=t) (d:=d) (by rw[lF (eP.1 ht).1]; exact ht) (by rw[lF (eP.1 hd).1]; exact hd) n hn))
 rw[Tryz.params9] at hsz1;clear hsz hsz0;have gw:GW W:=bC6 hlaid.tail.tail bCV;obtain ⟨v0,vs0,d0,ds0,p0,q0,hargs,rfl,rfl,h0,r0⟩:=trodAll_cons hA;obtain ⟨v1,vs1,d1,ds1,p1,q1,rfl,rfl,rfl,h1,r1⟩:=trodAll_cons r0;obtain ⟨rfl,rfl,rfl⟩:=trodAll_nil r1;obtain rfl:args = #[v0,v1]:=by cases args; simp_all
 obtain ⟨rfl,rfl⟩:=trodVars_none hV;have k0:=h0;have lt0:∀ x∈p0,x.block<W.heap.size:=by obtain ⟨m,hm⟩:=k0; exact DataW.trod_lt m _ _ _ hm
 obtain ⟨e0,bKJ⟩:=aNL (hW:=gw) (hval 0 5 v0 rfl rfl) h0;have k1:=h1;have lt1:∀ x∈p1,x.block<W.heap.size:=by obtain ⟨m,hm⟩:=k1; exact DataW.trod_lt m _ _ _ hm
 obtain ⟨e1,bKK⟩:=aNL (hW:=gw) (hval 1 5 v1 rfl rfl) h1;clear hA0 hval0;refine (Ev.top (aVT (Go.Proofs.YtcdceiloganlnaaGreatDoor.W.c9 (e0.toNat:Int) (e1.toNat:Int) (by omega) (by have:=e0.toNat_lt; omega) (by omega) (by have:=e1.toNat_lt; omega))) (aON bKJ (aON bKK bKQ))).mono fun e W' ⟨vr,M',he,hrep,_,bel⟩ => ?_
 subst he;obtain rfl:=jo.1 hrep;exact ⟨_,rfl,_,_,_,[],_,[],hW',trodAll_mk1 (shut_bool Tryz.underlying4 _),(trodAll_cons_mk (Below.trod aLR (by kernel_rfl) (qo (by kernel_rfl)) k0 bel lt0) (trodAll_cons_mk (Below.trod aLR (by kernel_rfl) (qo (by kernel_rfl)) k1 bel lt1) trodAll_mk0)),rfl,bel.frame _,fun h=>by cases h⟩
theorem bFQ:(Rows.parserLimitsRow.inPlace==Tryz.prog.inPlace 9)=true:=by kernel_rfl
theorem bFW:(Rows.parserLimitsRow.unfollowed==Tryz.prog.unfollowed 9)=true:=by kernel_rfl
theorem bFU:(Rows.parserLimitsRow.recurses==Tryz.prog.recurses 9)=true:=by kernel_rfl
theorem bFX:(Rows.parserLimitsRow.named==Tryz.prog.varsNamed 9)=true:=by kernel_rfl
theorem bFR:joinedFacts Tryz.prog 9 Tryz.f9 (OpenSpec.ofChange Rows.parserLimitsSpec).bare Rows.parserLimitsRow=true :=bDR (by kernel_rfl) bFQ bFW bFU bFX (by kernel_rfl)
theorem bFY:Tryz.f9.isWrapper Tryz.prog Rows.parserLimitsRow.wrapper Rows.parserLimitsRow.mainSum:=by unfold Func.isWrapper;first | (rw[aJ (by decide +kernel)]; kernel_rfl) | (rw[aK (by decide +kernel)]; exact ⟨rfl,rfl⟩)
theorem bFV:Rows.ParserLimitsSaid :=
 OpenClaim.holds_of_cond 9 Tryz.f9 rfl rfl rfl rfl rfl rfl rfl ⟨rfl,rfl,rfl,rfl,rfl⟩ rfl rfl rfl rfl rfl (by kernel_rfl) Tryz.func9 bFR
  (qo (by kernel_rfl)) bFY
  (fun os started H enc _ F=>by rw[OpenClaim.pre_eq_preRow]; exact bFS os started H enc F)
end Go.Proofs.YtcdceiloganlnaaGreatDoor
end
