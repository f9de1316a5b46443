/- A part of the proof. -/
import Derived.Test.YtilpiopkekkbiaaGreatDoorPp5
import Derived.Test.YtilpiopkekkbiaaGreatDoorPp6
import Derived.Test.YtilpiopkekkbiaaGreatDoorPp4
set_option linter.unusedVariables false
set_option linter.unusedSimpArgs false
set_option linter.unnecessarySimpa false
set_option linter.unusedSectionVars false
noncomputable section
open Go.IntKind (i64)
namespace Go.Proofs.YtilpiopkekkbiaaGreatDoor.W
open Go.RowKit
set_option maxRecDepth 1000000
variable {g:FuncId} {h:aG} {α:Type} {E X:R} {x a:EX}
theorem bMR {s:bZ'} {T:List Tok} (h:tu s = .ok T):a2A s=mk0 T:=by unfold a2A; rw[h]; rfl
theorem known:SS.CC 6 [] []=some (.bool true,[]):=k52
theorem aNP {s:bZ'}:∀ (l:List (bZ')) (k:Nat),(0<=qU (bs s) (vF l) k↔s∈l)
 | [],k=>by
  constructor
  .intro h;have:(0:Int) <= -1:=h;omega
  .intro h; cases h
 | a::l,k=>by
  show 0<=(if bs s=bs a then (k:Int) else qU (bs s) (vF l) (k+1))↔_;by_cases h:bs s=bs a
  .rw[aX h];exact ⟨fun _=>by rw[aG7 h]; simp,fun _=>by omega⟩
  .rw[aV h,aNP l (k+1),kG];exact ⟨fun hm => .inr hm,fun hm=>hm.resolve_left fun e=>h (by rw[e])⟩
theorem XP {a:bZZ} {l1:bZZ} {K:RS.F (.tl true 3) R} (e:SS.CC g a []=some (.sl true 3 l1,[])):RP g a K=K l1:=uK e rfl
theorem aWM {a:bZZ} {y1:Sh.V gu} {y2:Sh.V jZ} {K:RS.F (.t []) (dm [.c gu,.z ku,.c jZ])} (e:SS.CC g a h=some (.tuple [],[aF y1,some [bZX],y7 y2])):H28 g a h K=K () y1 y2:=fZ e rfl
theorem aWN {a:bZZ} {y1:Sh.V gu} {y2:Sh.V iy} {K:RS.F (.t []) (dm [.c gu,.z ku,.c iy])} (e:SS.CC g a h=some (.tuple [],[aF y1,some [bZX],wu y2])):H29 g a h K=K () y1 y2:=fZ e rfl
theorem RY {a:bZZ} {y1:Sh.V BO} {y2:Sh.V Ns} {K:RS.F (.t []) (dm [.c BO,.c Ns])} (e:SS.CC g a h=some (.tuple [],[nM y1,BM y2])):NW g a h K=K () y1 y2:=fZ e rfl
theorem aWO {a:bZZ} {s1:bZY} {y2:Sh.V Rq} {K:RS.F (.ts) (dm [.c Rq])} (e:SS.CC g a h=some (.str s1,[some (mkS Rq y2)])):H31 g a h K=K s1 y2:=fZ e rfl
theorem aER {a:bZZ} {n1:Int} {y2:Sh.V uo} {K:RS.F (.t [(false,[.I .i64]),(false,[.ni])]) (dm [.c uo])} (e:SS.CC g a h=some (.tuple [bZV n1,.raw .nilIface],[pK y2])):H32 g a h K=K ((n1,()),(),()) y2:=fZ e rfl
theorem aES {a:bZZ} {y1:Sh.V uo} {K:RS.F (.z (.ni)) (dm [.c uo])} (e:SS.CC g a h=some (.raw .nilIface,[pK y1])):H33 g a h K=K y1:=fZ e rfl
theorem aET {a:bZZ} {b1:Bool} {y2:Sh.V S7} {K:RS.F (.tb) (dm [.c S7])} (e:SS.CC g a h=some (.bool b1,[O7 y2])):H44 g a h K=K b1 y2:=fZ e rfl
theorem aWP {a:bZZ} {y1:Sh.V gu} {y2:Sh.V vk} {y3:Sh.V S9} {K:RS.F (.t []) (dm [.c gu,.z ku,.c vk,.c S9])} (e:SS.CC g a h=some (.tuple [],[aF y1,some [bZX],iw y2,O9 y3])):H45 g a h K=K () y1 y2 y3:=fZ e rfl
theorem aWQ {a:bZZ} {y1:Sh.V gu} {K:RS.F (.t []) (dm [.c gu,.z ku])} (e:SS.CC g a h=some (.tuple [],[aF y1,some [bZX]])):H46 g a h K=K () y1:=fZ e rfl
theorem aEU {a:bZZ} {y1:Sh.V jZ} {y2:Sh.V gu} {K:RS.F (.t []) (dm [.z lu,.c jZ,.c gu])} (e:SS.CC g a h=some (.tuple [],[some [.ptr 2 0],y7 y1,aF y2])):H47 g a h K=K () y1 y2:=fZ e rfl
theorem aEV {a:bZZ} {y1:Sh.V iy} {y2:Sh.V gu} {K:RS.F (.t []) (dm [.z lu,.c iy,.c gu])} (e:SS.CC g a h=some (.tuple [],[some [.ptr 2 0],wu y1,aF y2])):H48 g a h K=K () y1 y2:=fZ e rfl
theorem aEW {a:bZZ} {y1:Sh.V uo} {K:RS.F (.t []) (dm [.c uo])} (e:SS.CC g a h=some (.tuple [],[pK y1])):H51 g a h K=K () y1:=fZ e rfl
theorem aWS {a:bZZ} {n1:Int} {y2:Sh.V S7} {K:RS.F (.ti .i64) (dm [.c S7])} (e:SS.CC g a h=some (bZV n1,[O7 y2])):H63 g a h K=K n1 y2:=fZ e rfl
theorem aEY {a:bZZ} {y1:Sh.V vk} {y2:Sh.V S9} {y3:Sh.V gu} {K:RS.F (.t []) (dm [.z ja,.c vk,.c S9,.c gu])} (e:SS.CC g a h=some (.tuple [],[some [.ptr 3 0],iw y1,O9 y2,aF y3])):H64 g a h K=K () y1 y2 y3:=fZ e rfl
section
theorem b7T (a0:Sh.V S0):SS.CC 14 [A0 a0] []=RP 39 [.sl false 3 a0.2.2.2.1] fun l1=>chk (decide (l1.length+a0.2.2.2.2.1.length<=aO)) (G4 40 [.sl false 3 (l1 ++ a0.2.2.2.2.1),.func (.func 41) [] []] fun l3=>G4 42 [.sl false 9 a0.2.2.1,.func (.func 43) [] []] fun l5=>G4 44 [.sl false 2 a0.2.2.2.2.2.1,.func (.func 45) [] []] fun l7=>G4 46 [.sl false 3 a0.2.2.2.2.2.2.1,.func (.func 47) [] []] fun l9=>G1 48 [bZW [.func (.func 49) [] [.cst (A0 a0)],.func (.func 52) [] [.cst (A0 a0)],.func (.func 54) [] [.cst (A0 a0)],.func (.func 55) [] [.cst (A0 a0),.cst (bZW l5)],.func (.func 62) [] [.cst (.sl false 3 (l1 ++ a0.2.2.2.2.1)),.cst (bZW l3)],.func (.func 68) [] [.cst (A0 a0),.cst (bZW l7)],.func (.func 76) [] [.cst (A0 a0),.cst (bZW l9)]]] fun n11=>some (bZV n11,[])):=cc
theorem bE5 (a0:bZZ):SS.CC 108 [bZW a0,.func (.func 175) [] []] []=G1 182 [bZW a0,.func (.func 175) [] []] fun n1=>some (.bool (decide (0<=n1)),[]):=cc
theorem bE6 (a0:bZZ):SS.CC 39 [.sl false 3 a0] []=IV a0 fun b1=>aA (b1==true) (some (.sl true 3 [],[])) (chk (decide (0+a0.length<=aO)) (some (.sl true 3 a0,[]))):=cc
def bE7:KT:=SS.rK Tryz.f53 53 0 []
def bE8:KT:=SS.jK 53 51 0 (cS Tryz.f53 31) bE7
def bE9:KT:=ak 0 bE8
def UI (x10:bZZ) (x12:Int) (aJ:bZZ):R:=SS.LL (SS.ae 53 51) 0 [3,10,11,12] 1 (cS Tryz.f53 151) bE9 ⟨[(3,.dA 0 0),(10,.sl false 5 x10),(11,bZV (x10.length:Int)),(12,bZV x12)],[O33 (aJ,())]⟩
theorem aLV (x10:bZZ) (x12:Int) (aJ:bZZ):UI x10 x12 aJ=aA (decide (x12<(x10.length:Int))) (aj S4 x10 x12 fun u2=>G3 51 [.str u2.1] fun b7=>aA (!b7) (some (bZV 7,[])) ((fun w=>IP none aJ (.str u2.1) (fun e9=>vB e9 fun b10=>aA b10 (some (bZV 8,[])) w) w) (aA (decide (u2.2.2.2.2.1<0)) (some (bZV 2,[])) (aA (decide (4<u2.2.2.2.2.1)) (some (bZV 2,[])) (aA (u2.2.2.2.2.1 != 0) (aA u2.2.1 (some (bZV 13,[])) (aA u2.2.2.1 (some (bZV 13,[])) (chk (rZ none aJ (.str u2.1)&&true) (UI x10 (i64.wrap (x12+1)) (jo none aJ (.str u2.1) (.bool true)))))) (chk (rZ none aJ (.str u2.1)&&true) (UI x10 (i64.wrap (x12+1)) (jo none aJ (.str u2.1) (.bool true))))))))) (some (bZV 0,[])):=ll
theorem bEA (a0:bZZ):SS.CC 53 [.sl false 5 a0] []=aA (decide (32<(a0.length:Int))) (some (bZV 3,[])) (UI a0 0 []):=cc
def bFL:KT:=SS.rK Tryz.f40 40 0 []
def bFM:KT:=SS.jK 40 22 0 (cS Tryz.f40 15) bFL
def bFN:KT:=ak 0 bFM
def a09 (x8:bZZ) (x5:bZZ) (x10:Int):R:=SS.LL (SS.ae 40 22) 0 [1,5,8,9,10] 0 (cS Tryz.f40 75) bFN ⟨[(1,.func (.func 41) [] []),(5,.sl true 1 x5),(8,.sl false 3 x8),(9,bZV (x8.length:Int)),(10,bZV x10)],[]⟩
theorem aME (x8:bZZ) (x5:bZZ) (x10:Int):a09 x8 x5 x10=aA (decide (x10<(x8.length:Int))) (aj S8 x8 x10 fun u2=>G2 41 [A8 u2] fun s5=>chk (decide (x5.length+1<=aO)) (a09 x8 (x5 ++ ([.str s5]:bZZ)) (i64.wrap (x10+1)))) (some (bZW x5,[])):=ll
theorem bFO (a0:bZZ):SS.CC 40 [.sl false 3 a0,.func (.func 41) [] []] []=a09 a0 [] 0:=cc
theorem bFP (a0:Sh.V S8):SS.CC 41 [A8 a0] []=some (.str a0.1,[]):=cc
def bFU:KT:=SS.rK Tryz.f42 42 0 []
def bFV:KT:=SS.jK 42 22 0 (cS Tryz.f42 15) bFU
def bFW:KT:=ak 0 bFV
def a0B (x8:bZZ) (x5:bZZ) (x10:Int):R:=SS.LL (SS.ae 42 22) 0 [1,5,8,9,10] 0 (cS Tryz.f42 75) bFW ⟨[(1,.func (.func 43) [] []),(5,.sl true 1 x5),(8,.sl false 9 x8),(9,bZV (x8.length:Int)),(10,bZV x10)],[]⟩
theorem aMG (x8:bZZ) (x5:bZZ) (x10:Int):a0B x8 x5 x10=aA (decide (x10<(x8.length:Int))) (aj S5 x8 x10 fun u2=>G2 43 [A5 u2] fun s11=>chk (decide (x5.length+1<=aO)) (a0B x8 (x5 ++ ([.str s11]:bZZ)) (i64.wrap (x10+1)))) (some (bZW x5,[])):=ll
theorem bFX (a0:bZZ):SS.CC 42 [.sl false 9 a0,.func (.func 43) [] []] []=a0B a0 [] 0:=cc
theorem bFY (a0:Sh.V S5):SS.CC 43 [A5 a0] []=some (.str a0.1,[]):=cc
def bG2:KT:=SS.rK Tryz.f44 44 0 []
def bG3:KT:=SS.jK 44 22 0 (cS Tryz.f44 15) bG2
def bG4:KT:=ak 0 bG3
def a0D (x8:bZZ) (x5:bZZ) (x10:Int):R:=SS.LL (SS.ae 44 22) 0 [1,5,8,9,10] 0 (cS Tryz.f44 75) bG4 ⟨[(1,.func (.func 45) [] []),(5,.sl true 1 x5),(8,.sl false 2 x8),(9,bZV (x8.length:Int)),(10,bZV x10)],[]⟩
theorem aMI (x8:bZZ) (x5:bZZ) (x10:Int):a0D x8 x5 x10=aA (decide (x10<(x8.length:Int))) (aj jZ x8 x10 fun u2=>G2 45 [ve u2] fun s4=>chk (decide (x5.length+1<=aO)) (a0D x8 (x5 ++ ([.str s4]:bZZ)) (i64.wrap (x10+1)))) (some (bZW x5,[])):=ll
theorem bG5 (a0:bZZ):SS.CC 44 [.sl false 2 a0,.func (.func 45) [] []] []=a0D a0 [] 0:=cc
theorem bG6 (a0:Sh.V jZ):SS.CC 45 [ve a0] []=some (.str a0.1,[]):=cc
def bGB:KT:=SS.rK Tryz.f46 46 0 []
def bGC:KT:=SS.jK 46 22 0 (cS Tryz.f46 15) bGB
def bGD:KT:=ak 0 bGC
def a0F (x8:bZZ) (x5:bZZ) (x10:Int):R:=SS.LL (SS.ae 46 22) 0 [1,5,8,9,10] 0 (cS Tryz.f46 75) bGD ⟨[(1,.func (.func 47) [] []),(5,.sl true 1 x5),(8,.sl false 3 x8),(9,bZV (x8.length:Int)),(10,bZV x10)],[]⟩
theorem aMK (x8:bZZ) (x5:bZZ) (x10:Int):a0F x8 x5 x10=aA (decide (x10<(x8.length:Int))) (aj iy x8 x10 fun u2=>G2 47 [rD u2] fun s5=>chk (decide (x5.length+1<=aO)) (a0F x8 (x5 ++ ([.str s5]:bZZ)) (i64.wrap (x10+1)))) (some (bZW x5,[])):=ll
theorem bGE (a0:bZZ):SS.CC 46 [.sl false 3 a0,.func (.func 47) [] []] []=a0F a0 [] 0:=cc
theorem bGF (a0:Sh.V iy):SS.CC 47 [rD a0] []=some (.str a0.1,[]):=cc
def bGG:KT:=SS.rK Tryz.f48 48 0 []
def bGH:KT:=SS.jK 48 18 0 (cS Tryz.f48 7) bGG
def bGI:KT:=ak 0 bGH
def a0G (x6:bZZ) (x8:Int):R:=SS.LL (SS.ae 48 18) 0 [6,7,8] 0 (cS Tryz.f48 37) bGI ⟨[(6,bZW x6),(7,bZV (x6.length:Int)),(8,bZV x8)],[]⟩
theorem aML (x6:bZZ) (x8:Int):a0G x6 x8=aA (decide (x8<(x6.length:Int))) (bz x6 x8 fun e1=>chk (decide (e1.isAgg=false)&&decide (e1.size=1)) (OX (PV.un (PV.un (PV.un e1))) fun g2 f3 c4=>chk (PV.flats (f3 ++ [] ++ c4)) (jO SS.CC g2 (f3 ++ [] ++ c4) fun r5=>vI .i64 r5 fun n6=>aA (n6 != 0) (some (bZV n6,[])) (a0G x6 (i64.wrap (x8+1)))))) (some (bZV 0,[])):=ll
theorem bGJ (a0:bZZ):SS.CC 48 [bZW a0] []=a0G a0 0:=cc
theorem bGK (a0:Sh.V S0):SS.CC 49 [.cst (A0 a0)] []=G3 51 [.str a0.1] fun b1=>G1 50 [.bool (!b1),bZV 7] fun n3=>some (bZV n3,[]):=cc
theorem bGL (a0:Bool) (a1:Int):SS.CC 50 [.bool a0,bZV a1] []=aA a0 (some (bZV a1,[])) (some (bZV 0,[])):=cc
theorem bGM (a0:Sh.V S0):SS.CC 52 [.cst (A0 a0)] []=G1 53 [.sl false 5 a0.2.1] fun n1=>some (bZV n1,[]):=cc
theorem bGN (a0:Sh.V S0):SS.CC 54 [.cst (A0 a0)] []=aA (decide (16<(a0.2.2.1.length:Int))) (G1 50 [.bool true,bZV 3] fun n1=>some (bZV n1,[])) (G1 50 [.bool (decide (32<((fun w=>if (a0.2.2.2.2.2.2.1.length:Int)>(if (a0.2.2.2.2.2.1.length:Int)>w then (a0.2.2.2.2.2.1.length:Int) else w) then (a0.2.2.2.2.2.2.1.length:Int) else (if (a0.2.2.2.2.2.1.length:Int)>w then (a0.2.2.2.2.2.1.length:Int) else w)) (if (a0.2.2.2.2.1.length:Int)>(a0.2.2.2.1.length:Int) then (a0.2.2.2.2.1.length:Int) else (a0.2.2.2.1.length:Int))))),bZV 3] fun n3=>some (bZV n3,[])):=cc
theorem bGO (a0:Sh.V S0) (a1:bZZ):SS.CC 55 [.cst (A0 a0),.cst (bZW a1)] []=G1 56 [.sl false 9 a0.2.2.1,.func (.func 57) [] [.cst (bZW a1),.cst (A0 a0)]] fun n1=>some (bZV n1,[]):=cc
def bGP:KT:=SS.rK Tryz.f56 56 0 []
def bGQ:KT:=SS.jK 56 19 0 (cS Tryz.f56 7) bGP
def bGR:KT:=ak 0 bGQ
def a0H (x1:bZZ) (lX:bZY) (qE:bZZ) (qF:bZZ) (qG:bZZ) (qH:bZZ) (qI:bZZ) (qJ:bZZ) (x8:Int) (x9:Int):R:=SS.LL (SS.ae 56 19) 0 [1,8,9] 0 (cS Tryz.f56 37) bGR ⟨[(1,.func (.func 57) [] [.cst (bZW x1),.cst (A0 (lX,qE,qF,qG,qH,qI,qJ,()))]),(8,bZV x8),(9,bZV x9)],[]⟩
theorem aMM (x1:bZZ) (lX:bZY) (qE:bZZ) (qF:bZZ) (qG:bZZ) (qH:bZZ) (qI:bZZ) (qJ:bZZ) (x8:Int) (x9:Int):a0H x1 lX qE qF qG qH qI qJ x8 x9=aA (decide (x9<x8)) (G1 57 [bZV x9,.cst (bZW x1),.cst (A0 (lX,qE,qF,qG,qH,qI,qJ,()))] fun n1=>aA (n1 != 0) (some (bZV n1,[])) (a0H x1 lX qE qF qG qH qI qJ x8 (i64.wrap (x9+1)))) (some (bZV 0,[])):=ll
theorem bGS (a0:bZZ) (a1:bZZ) (y8:bZY) (BP:bZZ) (BQ:bZZ) (BR:bZZ) (BU:bZZ) (BV:bZZ) (BX:bZZ):SS.CC 56 [.sl false 9 a0,.func (.func 57) [] [.cst (bZW a1),.cst (A0 (y8,BP,BQ,BR,BU,BV,BX,()))]] []=a0H a1 y8 BP BQ BR BU BV BX (a0.length:Int) 0:=cc
theorem bGT (a0:Int) (a1:bZZ) (a2:Sh.V S0):SS.CC 57 [bZV a0,.cst (bZW a1),.cst (A0 a2)] []=G1 48 [bZW [.func (.func 58) [] [.cst (bZW a1),.cst (bZV a0)],.func (.func 60) [] [.cst (A0 a2),.cst (bZV a0)]]] fun n1=>some (bZV n1,[]):=cc
theorem bGU (a0:bZZ) (a1:Int):SS.CC 58 [.cst (bZW a0),.cst (bZV a1)] []=chk (decide (0<=(i64.wrap (a1+1)))&&decide ((i64.wrap (a1+1))<=(a0.length:Int))) (G1 59 [bZW (a0.take (i64.wrap (a1+1)).toNat)] fun n1=>some (bZV n1,[])):=cc
theorem bGV (a0:bZZ):SS.CC 59 [bZW a0] []=bz a0 (i64.wrap ((a0.length:Int)-1)) fun e1=>vS e1 fun s2=>G3 51 [.str s2] fun b3=>aA (!b3) (some (bZV 7,[])) (chk (decide (0<=(i64.wrap ((a0.length:Int)-1)))&&decide ((i64.wrap ((a0.length:Int)-1))<=(a0.length:Int))) (G3 156 [bZW (a0.take (i64.wrap ((a0.length:Int)-1)).toNat),.str s2] fun b5=>G1 50 [.bool b5,bZV 8] fun n7=>some (bZV n7,[]))):=cc
theorem bGW (a0:Sh.V S0) (a1:Int):SS.CC 60 [.cst (A0 a0),.cst (bZV a1)] []=aj S5 a0.2.2.1 a1 fun u2=>G1 61 [A5 u2] fun n11=>some (bZV n11,[]):=cc
theorem bGX (a0:Sh.V S5):SS.CC 61 [A5 a0] []=(fun w=>G1 48 [bZW [.func (.func 157) [] [.cst (A5 a0)],.func (.func 159) [] [.cst (A5 a0)],.func (.func 160) [] [.cst w,.cst (A5 a0)],.func (.func 162) [] [.cst w,.cst (A5 a0)],.func (.func 163) [] [.cst w],.func (.func 164) [] [.cst w],.func (.func 166) [] [.cst w],.func (.func 168) [] [.cst w],.func (.func 171) [] [.cst w,.cst (A5 a0)]]] fun n1=>some (bZV n1,[])) (A6 (a0.2.2.2.1,a0.2.2.2.2.1,a0.2.2.2.2.2.1,a0.2.2.2.2.2.2.1,a0.2.2.2.2.2.2.2.1,a0.2.2.2.2.2.2.2.2.1,())):=cc
theorem bGY (a0:bZZ) (a1:bZZ):SS.CC 62 [.cst (.sl false 3 a0),.cst (bZW a1)] []=G1 63 [.sl false 3 a0,.func (.func 64) [] [.cst (bZW a1),.cst (.sl false 3 a0)]] fun n1=>some (bZV n1,[]):=cc
def bGZ:KT:=SS.rK Tryz.f63 63 0 []
def bG':KT:=SS.jK 63 19 0 (cS Tryz.f63 7) bGZ
def bH0:KT:=ak 0 bG'
def a0I (x1:bZZ) (lX:bZZ) (x8:Int) (x9:Int):R:=SS.LL (SS.ae 63 19) 0 [1,8,9] 0 (cS Tryz.f63 37) bH0 ⟨[(1,.func (.func 64) [] [.cst (bZW x1),.cst (.sl false 3 lX)]),(8,bZV x8),(9,bZV x9)],[]⟩
theorem aMN (x1:bZZ) (lX:bZZ) (x8:Int) (x9:Int):a0I x1 lX x8 x9=aA (decide (x9<x8)) (G1 64 [bZV x9,.cst (bZW x1),.cst (.sl false 3 lX)] fun n1=>aA (n1 != 0) (some (bZV n1,[])) (a0I x1 lX x8 (i64.wrap (x9+1)))) (some (bZV 0,[])):=ll
theorem bH1 (a0:bZZ) (a1:bZZ) (y8:bZZ):SS.CC 63 [.sl false 3 a0,.func (.func 64) [] [.cst (bZW a1),.cst (.sl false 3 y8)]] []=a0I a1 y8 (a0.length:Int) 0:=cc
theorem bH2 (a0:Int) (a1:bZZ) (a2:bZZ):SS.CC 64 [bZV a0,.cst (bZW a1),.cst (.sl false 3 a2)] []=G1 48 [bZW [.func (.func 65) [] [.cst (bZW a1),.cst (bZV a0)],.func (.func 66) [] [.cst (.sl false 3 a2),.cst (bZV a0)]]] fun n1=>some (bZV n1,[]):=cc
theorem bH3 (a0:bZZ) (a1:Int):SS.CC 65 [.cst (bZW a0),.cst (bZV a1)] []=chk (decide (0<=(i64.wrap (a1+1)))&&decide ((i64.wrap (a1+1))<=(a0.length:Int))) (G1 59 [bZW (a0.take (i64.wrap (a1+1)).toNat)] fun n1=>some (bZV n1,[])):=cc
theorem bH4 (a0:bZZ) (a1:Int):SS.CC 66 [.cst (.sl false 3 a0),.cst (bZV a1)] []=aj S8 a0 a1 fun u2=>aj S8 a0 a1 fun u6=>chk (decide (1+u6.2.2.1.length<=aO)) (G3 67 [bZW (([.str u2.2.1]:bZZ) ++ u6.2.2.1)] fun b9=>G1 50 [.bool (!b9),bZV 7] fun n11=>some (bZV n11,[])):=cc
theorem bH5 (a0:bZZ):SS.CC 67 [bZW a0] []=G3 108 [bZW a0,.func (.func 175) [] []] fun b1=>some (.bool (!b1),[]):=cc
theorem bH6 (a0:Sh.V S0) (a1:bZZ):SS.CC 68 [.cst (A0 a0),.cst (bZW a1)] []=G1 69 [.sl false 2 a0.2.2.2.2.2.1,.func (.func 70) [] [.cst (bZW a1),.cst (A0 a0)]] fun n1=>some (bZV n1,[]):=cc
def bH7:KT:=SS.rK Tryz.f69 69 0 []
def bH8:KT:=SS.jK 69 19 0 (cS Tryz.f69 7) bH7
def bH9:KT:=ak 0 bH8
def a0J (x1:bZZ) (lX:bZY) (qE:bZZ) (qF:bZZ) (qG:bZZ) (qH:bZZ) (qI:bZZ) (qJ:bZZ) (x8:Int) (x9:Int):R:=SS.LL (SS.ae 69 19) 0 [1,8,9] 0 (cS Tryz.f69 37) bH9 ⟨[(1,.func (.func 70) [] [.cst (bZW x1),.cst (A0 (lX,qE,qF,qG,qH,qI,qJ,()))]),(8,bZV x8),(9,bZV x9)],[]⟩
theorem aMO (x1:bZZ) (lX:bZY) (qE:bZZ) (qF:bZZ) (qG:bZZ) (qH:bZZ) (qI:bZZ) (qJ:bZZ) (x8:Int) (x9:Int):a0J x1 lX qE qF qG qH qI qJ x8 x9=aA (decide (x9<x8)) (G1 70 [bZV x9,.cst (bZW x1),.cst (A0 (lX,qE,qF,qG,qH,qI,qJ,()))] fun n1=>aA (n1 != 0) (some (bZV n1,[])) (a0J x1 lX qE qF qG qH qI qJ x8 (i64.wrap (x9+1)))) (some (bZV 0,[])):=ll
theorem bHA (a0:bZZ) (a1:bZZ) (y8:bZY) (BP:bZZ) (BQ:bZZ) (BR:bZZ) (BU:bZZ) (BV:bZZ) (BX:bZZ):SS.CC 69 [.sl false 2 a0,.func (.func 70) [] [.cst (bZW a1),.cst (A0 (y8,BP,BQ,BR,BU,BV,BX,()))]] []=a0J a1 y8 BP BQ BR BU BV BX (a0.length:Int) 0:=cc
theorem bHB (a0:Int) (a1:bZZ) (a2:Sh.V S0):SS.CC 70 [bZV a0,.cst (bZW a1),.cst (A0 a2)] []=G1 48 [bZW [.func (.func 71) [] [.cst (bZW a1),.cst (bZV a0)],.func (.func 72) [] [.cst (A0 a2),.cst (bZV a0)],.func (.func 73) [] [.cst (A0 a2),.cst (bZV a0)]]] fun n1=>some (bZV n1,[]):=cc
theorem bHC (a0:bZZ) (a1:Int):SS.CC 71 [.cst (bZW a0),.cst (bZV a1)] []=chk (decide (0<=(i64.wrap (a1+1)))&&decide ((i64.wrap (a1+1))<=(a0.length:Int))) (G1 59 [bZW (a0.take (i64.wrap (a1+1)).toNat)] fun n1=>some (bZV n1,[])):=cc
theorem bHD (a0:Sh.V S0) (a1:Int):SS.CC 72 [.cst (A0 a0),.cst (bZV a1)] []=aj jZ a0.2.2.2.2.2.1 a1 fun u2=>G1 50 [.bool ((u2.2.1.length:Int)==0),bZV 12] fun n4=>some (bZV n4,[]):=cc
theorem bHE (a0:Sh.V S0) (a1:Int):SS.CC 73 [.cst (A0 a0),.cst (bZV a1)] []=aj jZ a0.2.2.2.2.2.1 a1 fun u2=>G3 74 [.sl false 2 u2.2.1,.func (.func 75) [] []] fun b4=>G1 50 [.bool b4,bZV 7] fun n6=>some (bZV n6,[]):=cc
theorem bHF (a0:bZZ):SS.CC 74 [.sl false 2 a0,.func (.func 75) [] []] []=G1 176 [.sl false 2 a0,.func (.func 75) [] []] fun n1=>some (.bool (decide (0<=n1)),[]):=cc
theorem bHG (a0:Sh.V AB):SS.CC 75 [NK a0] []=G3 67 [bZW [.str a0.1,.str a0.2.1]] fun b1=>some (.bool (!b1),[]):=cc
theorem bHH (a0:Sh.V S0) (a1:bZZ):SS.CC 76 [.cst (A0 a0),.cst (bZW a1)] []=G1 77 [.sl false 3 a0.2.2.2.2.2.2.1,.func (.func 78) [] [.cst (bZW a1),.cst (A0 a0)]] fun n1=>some (bZV n1,[]):=cc
def bHI:KT:=SS.rK Tryz.f77 77 0 []
def bHJ:KT:=SS.jK 77 19 0 (cS Tryz.f77 7) bHI
def bHK:KT:=ak 0 bHJ
def a0K (x1:bZZ) (lX:bZY) (qE:bZZ) (qF:bZZ) (qG:bZZ) (qH:bZZ) (qI:bZZ) (qJ:bZZ) (x8:Int) (x9:Int):R:=SS.LL (SS.ae 77 19) 0 [1,8,9] 0 (cS Tryz.f77 37) bHK ⟨[(1,.func (.func 78) [] [.cst (bZW x1),.cst (A0 (lX,qE,qF,qG,qH,qI,qJ,()))]),(8,bZV x8),(9,bZV x9)],[]⟩
theorem aMP (x1:bZZ) (lX:bZY) (qE:bZZ) (qF:bZZ) (qG:bZZ) (qH:bZZ) (qI:bZZ) (qJ:bZZ) (x8:Int) (x9:Int):a0K x1 lX qE qF qG qH qI qJ x8 x9=aA (decide (x9<x8)) (G1 78 [bZV x9,.cst (bZW x1),.cst (A0 (lX,qE,qF,qG,qH,qI,qJ,()))] fun n1=>aA (n1 != 0) (some (bZV n1,[])) (a0K x1 lX qE qF qG qH qI qJ x8 (i64.wrap (x9+1)))) (some (bZV 0,[])):=ll
theorem bHL (a0:bZZ) (a1:bZZ) (y8:bZY) (BP:bZZ) (BQ:bZZ) (BR:bZZ) (BU:bZZ) (BV:bZZ) (BX:bZZ):SS.CC 77 [.sl false 3 a0,.func (.func 78) [] [.cst (bZW a1),.cst (A0 (y8,BP,BQ,BR,BU,BV,BX,()))]] []=a0K a1 y8 BP BQ BR BU BV BX (a0.length:Int) 0:=cc
theorem bHM (a0:Int) (a1:bZZ) (a2:Sh.V S0):SS.CC 78 [bZV a0,.cst (bZW a1),.cst (A0 a2)] []=G1 48 [bZW [.func (.func 79) [] [.cst (bZW a1),.cst (bZV a0)],.func (.func 80) [] [.cst (A0 a2),.cst (bZV a0)]]] fun n1=>some (bZV n1,[]):=cc
theorem bHN (a0:bZZ) (a1:Int):SS.CC 79 [.cst (bZW a0),.cst (bZV a1)] []=chk (decide (0<=(i64.wrap (a1+1)))&&decide ((i64.wrap (a1+1))<=(a0.length:Int))) (G1 59 [bZW (a0.take (i64.wrap (a1+1)).toNat)] fun n1=>some (bZV n1,[])):=cc
theorem bHO (a0:Sh.V S0) (a1:Int):SS.CC 80 [.cst (A0 a0),.cst (bZV a1)] []=aj iy a0.2.2.2.2.2.2.1 a1 fun u2=>G1 81 [rD u2] fun n5=>some (bZV n5,[]):=cc
def bHP:KT:=SS.rK Tryz.f81 81 0 []
def bHQ:KT:=SS.jK 81 28 0 (cS Tryz.f81 15) bHP
def bHR:KT:=ak 0 bHQ
def UK (x1:Sh.V iy) (x12:Int):R:=SS.LL (SS.ae 81 28) 0 [1,10,11,12] 0 (cS Tryz.f81 75) bHR ⟨[(1,.cst (rD x1)),(10,.sl false 2 x1.2.1),(11,bZV (x1.2.1.length:Int)),(12,bZV x12)],[]⟩
theorem aMQ (x1:Sh.V iy) (x12:Int):UK x1 x12=aA (decide (x12<(x1.2.1.length:Int))) (aj BN x1.2.1 x12 fun u2=>G3 51 [.str u2.1] fun b4=>aA (!b4) (some (bZV 7,[])) (G3 177 [bZV u2.2.1] fun b6=>aA b6 (some (bZV 2,[])) (UK x1 (i64.wrap (x12+1))))) (G3 177 [bZV x1.2.2.1] fun b8=>G1 50 [.bool b8,bZV 2] fun n10=>some (bZV n10,[])):=ll
theorem bHS (a0:Sh.V iy):SS.CC 81 [rD a0] []=aA ((a0.2.1.length:Int)==0) (some (bZV 12,[])) (UK a0 0):=cc
def b2W:KT:=SS.rK Tryz.f88 88 0 []
def b2X:KT:=SS.jK 88 26 0 (cS Tryz.f88 15) b2W
def b2Y:KT:=ak 0 b2X
def KC (x0:bZZ) (x1:bZZ) (iF:Int):R:=SS.LL (SS.ae 88 26) 0 [0,1,12,13] 0 (cS Tryz.f88 75) b2Y ⟨[(0,bZW x0),(1,bZW x1),(12,bZV (x0.length:Int)),(13,bZV iF)],[]⟩
theorem ZB (x0:bZZ) (x1:bZZ) (iF:Int):KC x0 x1 iF=aA (decide (iF<(x0.length:Int))) (bz x0 iF fun e1=>vI .i64 e1 fun n2=>bz x1 iF fun e3=>vI .i64 e3 fun n4=>aA (n2 != n4) (some (.bool false,[])) (KC x0 x1 (i64.wrap (iF+1)))) (some (.bool true,[])):=ll
theorem a6U (a0:bZZ) (a1:bZZ):SS.CC 88 [bZW a0,bZW a1] []=aA ((a0.length:Int) !=(a1.length:Int)) (some (.bool false,[])) (KC a0 a1 0):=cc
def b4W:KT:=SS.rK Tryz.f182 182 0 []
def b4X:KT:=SS.jK 182 19 0 (cS Tryz.f182 7) b4W
def b4Y:KT:=ak 0 b4X
def TU (x0:bZZ) (x8:Int):R:=SS.LL (SS.ae 182 19) 0 [0,1,7,8] 0 (cS Tryz.f182 37) b4Y ⟨[(0,bZW x0),(1,.func (.func 175) [] []),(7,bZV (x0.length:Int)),(8,bZV x8)],[]⟩
theorem aJA (x0:bZZ) (x8:Int):TU x0 x8=aA (decide (x8<(x0.length:Int))) (bz x0 x8 fun e1=>vS e1 fun s2=>G3 175 [.str s2] fun b3=>aA b3 (some (bZV x8,[])) (TU x0 (i64.wrap (x8+1)))) (some (bZV (-1),[])):=ll
theorem b4Z (a0:bZZ):SS.CC 182 [bZW a0,.func (.func 175) [] []] []=TU a0 0:=cc
def b4':KT:=SS.rK Tryz.f165 165 0 []
def b52:KT:=SS.jK 165 33 0 (cS Tryz.f165 7) b4'
def b53:KT:=ak 0 b52
def TW (x0:bZZ) (x1:Int) (x9:Int):R:=SS.LL (SS.ae 165 33) 0 [0,1,7,8,9] 0 (cS Tryz.f165 37) b53 ⟨[(0,bZW x0),(1,bZV x1),(7,bZW x0),(8,bZV (x0.length:Int)),(9,bZV x9)],[]⟩
theorem aJB (x0:bZZ) (x1:Int) (x9:Int):TW x0 x1 x9=aA (decide (x9<(x0.length:Int))) (bz x0 x9 fun e1=>vI .i64 e1 fun n2=>aA (decide (n2<0)) (some (bZV 2,[])) (aA (decide (x1<=n2)) (some (bZV 2,[])) (aA (decide (0<x9)) (bz x0 (i64.wrap (x9-1)) fun e3=>vI .i64 e3 fun n4=>aA (decide (n2<=n4)) (some (bZV 5,[])) (TW x0 x1 (i64.wrap (x9+1)))) (TW x0 x1 (i64.wrap (x9+1)))))) (some (bZV 0,[])):=ll
theorem b54 (a0:bZZ) (a1:Int):SS.CC 165 [bZW a0,bZV a1] []=TW a0 a1 0:=cc
def b55:KT:=SS.rK Tryz.f167 167 0 []
def b56:KT:=SS.jK 167 55 0 (cS Tryz.f167 15) b55
def b57:KT:=ak 0 b56
def ZN (x0:bZZ) (x10:Int):R:=SS.LL (SS.ae 167 55) 0 [0,8,9,10] 0 (cS Tryz.f167 75) b57 ⟨[(0,.sl false 4 x0),(8,.sl false 4 x0),(9,bZV (x0.length:Int)),(10,bZV x10)],[]⟩
theorem aJC (x0:bZZ) (x10:Int):ZN x0 x10=aA (decide (x10<(x0.length:Int))) (aj S7 x0 x10 fun u2=>G3 51 [.str u2.1] fun b6=>aA (!b6) (some (bZV 7,[])) (chk (decide (0<=x10)&&decide (x10<=(x0.length:Int))) (H44 169 [.sl false 4 (x0.take x10.toNat),.func (.func 241) [] [bZX]] [O7 u2] fun b8 u9=>aA b8 (some (bZV 8,[])) (G3 242 [bZV u9.2.1,bZV 65536] fun b15=>aA b15 (some (bZV 2,[])) (G3 242 [bZV u9.2.2.1,bZV 65536] fun b17=>aA b17 (some (bZV 2,[])) (aA (decide (u9.2.2.1<u9.2.1)) (some (bZV 5,[])) (aA (decide (u9.2.2.2.1<u9.2.1)) (some (bZV 2,[])) (aA (decide (u9.2.2.1<u9.2.2.2.1)) (some (bZV 2,[])) (ZN x0 (i64.wrap (x10+1))))))))))) (some (bZV 0,[])):=ll
theorem b58 (a0:bZZ):SS.CC 167 [.sl false 4 a0] []=aA (decide (16<(a0.length:Int))) (some (bZV 3,[])) (ZN a0 0):=cc
theorem b74 (a0:Sh.V S5):SS.CC 157 [.cst (A5 a0)] []=G1 158 [bZW a0.2.2.1] fun n1=>some (bZV n1,[]):=cc
def b75:KT:=SS.rK Tryz.f158 158 0 []
def b76:KT:=SS.jK 158 21 0 (cS Tryz.f158 7) b75
def b77:KT:=ak 0 b76
def ZW (x0:bZZ) (x7:Int):R:=SS.LL (SS.ae 158 21) 0 [0,5,6,7] 0 (cS Tryz.f158 37) b77 ⟨[(0,bZW x0),(5,bZW x0),(6,bZV (x0.length:Int)),(7,bZV x7)],[]⟩
theorem aJZ (x0:bZZ) (x7:Int):ZW x0 x7=aA (decide (x7<(x0.length:Int))) (bz x0 x7 fun e1=>vS e1 fun s2=>G3 51 [.str s2] fun b3=>aA (!b3) (some (bZV 7,[])) (chk (decide (0<=x7)&&decide (x7<=(x0.length:Int))) (G3 156 [bZW (x0.take x7.toNat),.str s2] fun b5=>aA b5 (some (bZV 8,[])) (ZW x0 (i64.wrap (x7+1)))))) (some (bZV 0,[])):=ll
theorem b78 (a0:bZZ):SS.CC 158 [bZW a0] []=ZW a0 0:=cc
theorem b79 (a0:Sh.V S5):SS.CC 159 [.cst (A5 a0)] []=G1 158 [bZW a0.2.1] fun n1=>some (bZV n1,[]):=cc
theorem b7A (a0:Sh.V S6) (a1:Sh.V S5):SS.CC 160 [.cst (A6 a0),.cst (A5 a1)] []=G4 161 [bZV (a1.2.2.1.length:Int)] fun l1=>G3 88 [bZW a0.1,bZW l1] fun b3=>G1 50 [.bool (!b3),bZV 6] fun n5=>some (bZV n5,[]):=cc
def b7C:KT:=SS.rK Tryz.f161 161 0 []
def b7D:KT:=SS.jK 161 15 0 (cS Tryz.f161 15) b7C
def b7E:KT:=ak 0 b7D
def ZX (x5:Int) (x3:bZZ) (x6:Int):R:=SS.LL (SS.ae 161 15) 0 [3,5,6] 0 (cS Tryz.f161 75) b7E ⟨[(3,.sl true 1 x3),(5,bZV x5),(6,bZV x6)],[]⟩
theorem aJ' (x5:Int) (x3:bZZ) (x6:Int):ZX x5 x3 x6=aA (decide (x6<x5)) (chk (decide (x3.length+1<=aO)) (ZX x5 (x3 ++ ([bZV x6]:bZZ)) (i64.wrap (x6+1)))) (some (bZW x3,[])):=ll
theorem b7F (a0:Int):SS.CC 161 [bZV a0] []=ZX a0 [] 0:=cc
theorem b7G (a0:Sh.V S6) (a1:Sh.V S5):SS.CC 162 [.cst (A6 a0),.cst (A5 a1)] []=G1 50 [.bool (a0.2.1 !=(a1.2.1.length:Int)),bZV 4] fun n1=>some (bZV n1,[]):=cc
theorem b7H (a0:Sh.V S6):SS.CC 163 [.cst (A6 a0)] []=aA (decide (a0.2.2.1<0)) (G1 50 [.bool true,bZV 2] fun n1=>some (bZV n1,[])) (G1 50 [.bool (decide ((if (1:Int)>a0.2.1 then (1:Int) else a0.2.1)<=a0.2.2.1)),bZV 2] fun n3=>some (bZV n3,[])):=cc
theorem b7I (a0:Sh.V S6):SS.CC 164 [.cst (A6 a0)] []=G1 165 [bZW a0.2.2.2.1,bZV a0.2.1] fun n1=>some (bZV n1,[]):=cc
theorem b7J (a0:Sh.V S6):SS.CC 166 [.cst (A6 a0)] []=G1 167 [.sl false 4 a0.2.2.2.2.1] fun n1=>some (bZV n1,[]):=cc
theorem b7K (a0:Sh.V S6):SS.CC 168 [.cst (A6 a0)] []=G3 169 [.sl false 4 a0.2.2.2.2.1,.func (.func 170) [] []] fun b1=>G1 50 [.bool b1,bZV 7] fun n3=>some (bZV n3,[]):=cc
theorem b7L (a0:bZZ):SS.CC 169 [.sl false 4 a0,.func (.func 170) [] []] []=G1 243 [.sl false 4 a0,.func (.func 170) [] []] fun n1=>some (.bool (decide (0<=n1)),[]):=cc
theorem b7M (a0:bZZ) (h0:Sh.V S7):SS.CC 169 [.sl false 4 a0,.func (.func 241) [] [bZX]] [O7 h0]=H63 243 [.sl false 4 a0,.func (.func 241) [] [bZX]] [O7 h0] fun n1 u2=>some (.bool (decide (0<=n1)),[O7 u2]):=cc
theorem b7N (a0:Sh.V S7):SS.CC 170 [A7 a0] []=G3 110 [.str a0.1] fun b1=>some (.bool b1,[]):=cc
theorem b7O (a0:Sh.V S6) (a1:Sh.V S5):SS.CC 171 [.cst (A6 a0),.cst (A5 a1)] []=G1 172 [.sl false 8 a0.2.2.2.2.2.1,.func (.func 173) [] [.cst (A5 a1),.cst (A6 a0)]] fun n1=>some (bZV n1,[]):=cc
def b7P:KT:=SS.rK Tryz.f172 172 0 []
def b7Q:KT:=SS.jK 172 19 0 (cS Tryz.f172 7) b7P
def b7R:KT:=ak 0 b7Q
def ZY (x1:bZY) (lX:bZZ) (qE:bZZ) (qF:bZZ) (qG:Int) (qH:Int) (qI:bZZ) (qJ:bZZ) (Wu:bZZ) (Wv:bZZ) (Wx:Int) (Wy:Int) (X0:bZZ) (X3:bZZ) (X4:bZZ) (x8:Int) (x9:Int):R:=SS.LL (SS.ae 172 19) 0 [1,8,9] 0 (cS Tryz.f172 37) b7R ⟨[(1,.func (.func 173) [] [.cst (A5 (x1,lX,qE,qF,qG,qH,qI,qJ,Wu,())),.cst (A6 (Wv,Wx,Wy,X0,X3,X4,()))]),(8,bZV x8),(9,bZV x9)],[]⟩
theorem aK1 (x1:bZY) (lX:bZZ) (qE:bZZ) (qF:bZZ) (qG:Int) (qH:Int) (qI:bZZ) (qJ:bZZ) (Wu:bZZ) (Wv:bZZ) (Wx:Int) (Wy:Int) (X0:bZZ) (X3:bZZ) (X4:bZZ) (x8:Int) (x9:Int):ZY x1 lX qE qF qG qH qI qJ Wu Wv Wx Wy X0 X3 X4 x8 x9=aA (decide (x9<x8)) (G1 173 [bZV x9,.cst (A5 (x1,lX,qE,qF,qG,qH,qI,qJ,Wu,())),.cst (A6 (Wv,Wx,Wy,X0,X3,X4,()))] fun n1=>aA (n1 != 0) (some (bZV n1,[])) (ZY x1 lX qE qF qG qH qI qJ Wu Wv Wx Wy X0 X3 X4 x8 (i64.wrap (x9+1)))) (some (bZV 0,[])):=ll
theorem b7S (a0:bZZ) (a1:bZY) (y8:bZZ) (BP:bZZ) (BQ:bZZ) (BR:Int) (BU:Int) (BV:bZZ) (BX:bZZ) (aFH:bZZ) (aFI:bZZ) (aFC:Int) (aFD:Int) (aFE:bZZ) (aFF:bZZ) (aFG:bZZ):SS.CC 172 [.sl false 8 a0,.func (.func 173) [] [.cst (A5 (a1,y8,BP,BQ,BR,BU,BV,BX,aFH,())),.cst (A6 (aFI,aFC,aFD,aFE,aFF,aFG,()))]] []=ZY a1 y8 BP BQ BR BU BV BX aFH aFI aFC aFD aFE aFF aFG (a0.length:Int) 0:=cc
theorem b7U (a0:Int) (a1:Sh.V S5) (a2:Sh.V S6):SS.CC 173 [bZV a0,.cst (A5 a1),.cst (A6 a2)] []=aj S9 a2.2.2.2.2.2.1 a0 fun u2=>G1 174 [A5 a1,A9 u2] fun n10=>some (bZV n10,[]):=cc
def b7W:KT:=SS.rK Tryz.f174 174 0 []
def b7X:KT:=SS.jK 174 97 0 (cS Tryz.f174 63) b7W
def aK2:KT:=ak 0 b7X
def b7Y:KT:=SS.lK 174 97 0 [3,5,59,60,61] 0 (cS Tryz.f174 303) aK2
def b7Z:KT:=SS.jK 174 97 0 (cS Tryz.f174 3887) b7Y
def b7':KT:=ak 1 b7Z
def Tq (x3:Sh.V S9) (x5:Int) (yh:Int):R:=SS.LL (SS.ae 174 97) 0 [3,5,59,60,61] 0 (cS Tryz.f174 303) aK2 ⟨[(3,.cst (A9 x3)),(5,bZV x5),(59,.sl false 5 x3.2.2.2.2.2.2.2.1),(60,bZV (x3.2.2.2.2.2.2.2.1.length:Int)),(61,bZV yh)],[]⟩
def a6Y (x3:Sh.V S9) (x5:Int) (q0:Sh.V qO) (yh:Int):R:=bH (SS.xX 174 97 0) (cS Tryz.f174 62255) b7' ⟨[(3,.cst (A9 x3)),(5,bZV x5),(8,bZX),(59,.sl false 5 x3.2.2.2.2.2.2.2.1),(60,bZV (x3.2.2.2.2.2.2.2.1.length:Int)),(61,bZV yh)],[O11 q0]⟩
theorem aK3 (x3:Sh.V S9) (x5:Int) (yh:Int):Tq x3 x5 yh=aA (decide (yh<(x3.2.2.2.2.2.2.2.1.length:Int))) (aj qO x3.2.2.2.2.2.2.2.1 yh fun u2=>aA (decide (u2.1<0)) (some (bZV 2,[])) (aA (decide (x5<=u2.1)) (some (bZV 2,[])) (aA (decide (0<yh)) (aj qO x3.2.2.2.2.2.2.2.1 (i64.wrap (yh-1)) fun u8=>aA (decide (u2.1<=u8.1)) (some (bZV 5,[])) (a6Y x3 x5 u2 yh)) (a6Y x3 x5 u2 yh)))) (some (bZV 0,[])):=ll
theorem b7V (x3:Sh.V S9) (x5:Int) (q0:Sh.V qO) (yh:Int):a6Y x3 x5 q0 yh=G1 244 [A1 (q0.2.1,q0.2.2.1,q0.2.2.2.1,q0.2.2.2.2.1,()),bZV x5,bZV 1] fun n1=>aA (n1 != 0) (some (bZV n1,[])) (Tq x3 x5 (i64.wrap (yh+1))):=by kernel_rfl
theorem b80 (a0:Sh.V S5) (a1:Sh.V S9):SS.CC 174 [A5 a0,A9 a1] []=aA (decide (a1.1<0)) (some (bZV 2,[])) (aA (decide (a0.2.2.2.2.1<=a1.1)) (some (bZV 2,[])) (aA (decide (a1.2.1<0)) (some (bZV 2,[])) (aA (decide ((a0.2.2.1.length:Int)<=a1.2.1)) (some (bZV 2,[])) (aA (decide (a1.2.2.1<0)) (some (bZV 2,[])) (aA (decide (a0.2.2.2.2.1<=a1.2.2.1)) (some (bZV 2,[])) (G1 244 [A1 (a1.2.2.2.1,a1.2.2.2.2.1,a1.2.2.2.2.2.1,a1.2.2.2.2.2.2.1,()),bZV (a0.2.2.2.2.2.2.2.1.length:Int),bZV 2] fun n1=>aA (n1 != 0) (some (bZV n1,[])) (Tq a1 (a0.2.2.2.2.2.2.2.1.length:Int) 0))))))):=cc
theorem b81 (a0:bZY):SS.CC 175 [.str a0] []=G3 51 [.str a0] fun b1=>some (.bool (!b1),[]):=cc
def b82:KT:=SS.rK Tryz.f176 176 0 []
def b83:KT:=SS.jK 176 19 0 (cS Tryz.f176 7) b82
def b84:KT:=ak 0 b83
def Tt (x0:bZZ) (x8:Int):R:=SS.LL (SS.ae 176 19) 0 [0,1,7,8] 0 (cS Tryz.f176 37) b84 ⟨[(0,.sl false 2 x0),(1,.func (.func 75) [] []),(7,bZV (x0.length:Int)),(8,bZV x8)],[]⟩
theorem aK4 (x0:bZZ) (x8:Int):Tt x0 x8=aA (decide (x8<(x0.length:Int))) (aj AB x0 x8 fun u2=>G3 75 [NK u2] fun b4=>aA b4 (some (bZV x8,[])) (Tt x0 (i64.wrap (x8+1)))) (some (bZV (-1),[])):=ll
theorem b85 (a0:bZZ):SS.CC 176 [.sl false 2 a0,.func (.func 75) [] []] []=Tt a0 0:=cc
theorem b86 (a0:Int):SS.CC 177 [bZV a0] []=aA (decide (a0<(-65536))) (some (.bool true,[])) (some (.bool (decide (65536<a0)),[])):=cc
theorem b9I (a0:Sh.V S7) (h0:Sh.V S7):SS.CC 241 [A7 a0,bZX] [O7 h0]=some (.bool (a0.1.toList==h0.1.toList),[O7 h0]):=cc
def bA0:KT:=SS.rK Tryz.f243 243 1 []
def bA1:KT:=SS.jK 243 19 1 (cS Tryz.f243 7) bA0
def bA2:KT:=ak 0 bA1
def U1 (x0:bZZ) (q0:Sh.V S7) (x8:Int):R:=SS.LL (SS.ae 243 19) 1 [0,1,7,8] 1 (cS Tryz.f243 37) bA2 ⟨[(0,.sl false 4 x0),(1,.func (.func 241) [] [bZX]),(7,bZV (x0.length:Int)),(8,bZV x8)],[O7 q0]⟩
theorem aKL (x0:bZZ) (q0:Sh.V S7) (x8:Int):U1 x0 q0 x8=aA (decide (x8<(x0.length:Int))) (aj S7 x0 x8 fun u2=>H44 241 [A7 u2,bZX] [O7 q0] fun b6 u7=>aA b6 (some (bZV x8,[O7 u7])) (U1 x0 u7 (i64.wrap (x8+1)))) (some (bZV (-1),[O7 q0])):=ll
theorem bA3 (a0:bZZ) (h0:Sh.V S7):SS.CC 243 [.sl false 4 a0,.func (.func 241) [] [bZX]] [O7 h0]=U1 a0 h0 0:=cc
def b9X:KT:=SS.rK Tryz.f243 243 0 []
def b9Y:KT:=SS.jK 243 19 0 (cS Tryz.f243 7) b9X
def b9Z:KT:=ak 0 b9Y
def U0 (x0:bZZ) (x8:Int):R:=SS.LL (SS.ae 243 19) 0 [0,1,7,8] 0 (cS Tryz.f243 37) b9Z ⟨[(0,.sl false 4 x0),(1,.func (.func 170) [] []),(7,bZV (x0.length:Int)),(8,bZV x8)],[]⟩
theorem aKK (x0:bZZ) (x8:Int):U0 x0 x8=aA (decide (x8<(x0.length:Int))) (aj S7 x0 x8 fun u2=>G3 170 [A7 u2] fun b6=>aA b6 (some (bZV x8,[])) (U0 x0 (i64.wrap (x8+1)))) (some (bZV (-1),[])):=ll
theorem b9' (a0:bZZ):SS.CC 243 [.sl false 4 a0,.func (.func 170) [] []] []=U0 a0 0:=cc
theorem bA4 (a0:Sh.V S1) (a1:Int) (a2:Int):SS.CC 244 [A1 a0,bZV a1,bZV a2] []=G6 111 [A1 a0,bZV a1] fun u1=>aA (u1.2.1.1 != 0) (some (bZV u1.2.1.1,[])) (G1 50 [.bool (u1.1.1 != a2),bZV 16] fun n4=>some (bZV n4,[])):=cc
end
abbrev Nm:=bZ'
structure Vr where
 n:Nm
 lo:Int
 hi:Int
 i:Int
structure lM where
 n:Nm
 c:Bool
 o:Bool
 f:Bool
 k:Int
structure Mv where
 f:Int
 e:Int
 t:Int
 g:EX
 us:List (Int×EX)
structure Tm where
 n:Nm
 ls:List Nm
 es:List Nm
 al:List Int
 L:Int
 I:Int
 mr:List Int
 vs:List Vr
 ms:List Mv
structure Ins where
 n:Nm
 t:Nm
 es:List Nm
structure pI where
 n:Nm
 ls:List (Nm×Nm)
structure Cst where
 n:Nm
 ts:List (Nm×Int)
 b:Int
structure Mo where
 n:Nm
 es:List lM
 ts:List Tm
 cs:List Ins
 rs:List Ins
 xs:List pI
 ks:List Cst
variable {m:Mo}
abbrev aK (l:List Nm):bZZ:=rq (vF l)
abbrev MS (v:Vr):Sh.V S7:=(bs v.n,v.lo,v.hi,v.i,())
abbrev nG (e:lM):Sh.V S4:=(bs e.n,e.c,e.o,e.f,e.k,())
abbrev vUp (u:Int×EX):Sh.V qO:=(u.1,(ev u.2).1,(ev u.2).2.1,(ev u.2).2.2.1,(ev u.2).2.2.2.1,())
abbrev pUp (u:Int×EX):PV:=BF (vUp u)
abbrev sJ (x:Mv):Sh.V S9:=(x.f,x.e,x.t,(ev x.g).1,(ev x.g).2.1,(ev x.g).2.2.1,(ev x.g).2.2.2.1,x.us.map pUp,())
abbrev qW (x:Mv):PV:=A9 (sJ x)
abbrev jI (v:Vr):PV:=A7 (MS v)
abbrev uU (e:lM):PV:=A4 (nG e)
abbrev iY (t:Tm):Sh.V S5:=(bs t.n,aK t.ls,aK t.es,fA t.al,t.L,t.I,fA t.mr,t.vs.map jI,t.ms.map qW,())
abbrev qw (t:Tm):PV:=A5 (iY t)
abbrev vIn (x:Ins):Sh.V S8:=(bs x.n,bs x.t,aK x.es,())
abbrev fD (x:Ins):PV:=A8 (vIn x)
abbrev vLc (l:Nm×Nm):Sh.V AB:=(bs l.1,bs l.2,())
abbrev qp (l:Nm×Nm):PV:=NK (vLc l)
abbrev MR (x:pI):Sh.V jZ:=(bs x.n,x.ls.map qp,())
abbrev ru (x:pI):PV:=ve (MR x)
abbrev vTr (t:Nm×Int):Sh.V BN:=(bs t.1,t.2,())
abbrev yU (t:Nm×Int):PV:=XL (vTr t)
abbrev vU (x:Cst):Sh.V iy:=(bs x.n,x.ts.map yU,x.b,())
abbrev mJ (x:Cst):PV:=rD (vU x)
abbrev aS (m:Mo):Sh.V S0:=(bs m.n,m.es.map uU,m.ts.map qw,m.cs.map fD,m.rs.map fD,m.xs.map ru,m.ks.map mJ,())
abbrev DJ (l:List Nm):Prop:=l.length<=1000/\∀ s,s∈l->s.length<=1000
abbrev aF1 (n:Int):Prop := -9223372036854775808<=n/\n<=9223372036854775807
structure um (t:Tm):Prop where
 ls:DJ t.ls
 es:DJ t.es
 al:t.al.length<=1000
 mr:t.mr.length<=1000
 vs:t.vs.length<=1000/\∀ v,v∈t.vs->v.n.length<=1000/\aF1 v.lo/\aF1 v.hi
 ms:t.ms.length<=1000/\∀ x,x∈t.ms->x.g.Len/\x.us.length<=1000/\∀ u,u∈x.us->u.2.Len
structure mY (m:Mo):Prop where
 n:m.n.length<=1000
 es:m.es.length<=1000/\∀ e,e∈m.es->e.n.length<=1000
 ts:m.ts.length<=1000/\∀ t,t∈m.ts->t.n.length<=1000/\um t
 is:m.cs.length<=1000/\m.rs.length<=1000/\∀ x,x∈m.cs ++ m.rs->x.n.length<=1000/\x.t.length<=1000/\DJ x.es
 xs:m.xs.length<=1000/\∀ x,x∈m.xs->x.n.length<=1000/\x.ls.length<=1000/\∀ l,l∈x.ls->l.1.length<=1000/\l.2.length<=1000
 ks:m.ks.length<=1000/\∀ x,x∈m.ks->x.n.length<=1000/\x.ts.length<=1000/\∀ l,l∈x.ts->l.1.length<=1000
theorem xP {S:List Sh} {f:α->PV} {g:α->Sh.V S} (hg:∀ a (K:Sh.V S->R),Dw S (f a) K=K (g a)) {l:List α} {k:Nat} (hk:k<l.length) (K:Sh.V S->R):aj S (l.map f) (k:Int) K=K (g l[k]):=by grind [bz]
theorem PU {l:List lM} {k:Nat} (hk:k<l.length) (K:Sh.V S4->R):aj S4 (l.map uU) (k:Int) K=K (nG l[k]):=xP (fun _ _=>rfl) hk K
theorem IK {l:List Vr} {k:Nat} (hk:k<l.length) (K:Sh.V S7->R):aj S7 (l.map jI) (k:Int) K=K (MS l[k]):=xP (fun _ _=>rfl) hk K
theorem FV {l:List (Int×EX)} {k:Nat} (hk:k<l.length) (K:Sh.V qO->R):aj qO (l.map pUp) (k:Int) K=K (vUp l[k]):=xP (fun _ _=>rfl) hk K
theorem Ky {l:List Mv} {k:Nat} (hk:k<l.length) (K:Sh.V S9->R):aj S9 (l.map qW) (k:Int) K=K (sJ l[k]):=xP (fun _ _=>rfl) hk K
theorem FU {l:List Tm} {k:Nat} (hk:k<l.length) (K:Sh.V S5->R):aj S5 (l.map qw) (k:Int) K=K (iY l[k]):=xP (fun _ _=>rfl) hk K
theorem Bh {l:List Ins} {k:Nat} (hk:k<l.length) (K:Sh.V S8->R):aj S8 (l.map fD) (k:Int) K=K (vIn l[k]):=xP (fun _ _=>rfl) hk K
theorem PW {l:List (Nm×Nm)} {k:Nat} (hk:k<l.length) (K:Sh.V AB->R):aj AB (l.map qp) (k:Int) K=K (vLc l[k]):=xP (fun _ _=>rfl) hk K
theorem ED {l:List pI} {k:Nat} (hk:k<l.length) (K:Sh.V jZ->R):aj jZ (l.map ru) (k:Int) K=K (MR l[k]):=xP (fun _ _=>rfl) hk K
theorem PX {l:List (Nm×Int)} {k:Nat} (hk:k<l.length) (K:Sh.V BN->R):aj BN (l.map yU) (k:Int) K=K (vTr l[k]):=xP (fun _ _=>rfl) hk K
theorem FT {l:List Cst} {k:Nat} (hk:k<l.length) (K:Sh.V iy->R):aj iy (l.map mJ) (k:Int) K=K (vU l[k]):=xP (fun _ _=>rfl) hk K
theorem zW {l:List Nm} {k:Nat} (hk:k<l.length) (K:PV->R):bz (aK l) (k:Int) K=K (.str (bs l[k])):=nS (by omega) (aA6 hk)
theorem II {l:List Int} {k:Nat} (hk:k<l.length) (K:PV->R):bz (fA l) (k:Int) K=K (bZV l[k]):=nS (by omega) (by rw[pG,lL,jU hk]; rfl)
theorem aCV (l:List Nm) (k:Nat):(aK l).take k=aK (l.take k):=by grind [rq,List.map_take]
theorem iD (l:List Nm):(aK l).length=l.length:=bN0 l
theorem a3O (a b:List Nm):aK a ++ aK b=aK (a ++ b):=by grind [rq]
abbrev bu (e:Int):R:=some (bZV e,[])
def CX (v:Nat->Int):Nat->Nat->Int
 | _,0=>0
 | k,m+1=>if v k=0 then CX v (k+1) m else v k
def qg (v:Nat->Int) (n:Nat):Int:=CX v 0 n
def sq (a b:Int):Int:=if a=0 then b else a
theorem aU0 {L:Nat->R} {v:Nat->Int} {n:Nat} (hs:∀ k,k<n->L k=aA (v k != 0) (bu (v k)) (L (k+1))) (he:L n=E):∀ (m k:Nat),k+m=n->L k=aA (CX v k m != 0) (bu (CX v k m)) E
 | 0,k,h=>by
  have:k=n:=by omega
  subst this;rw[he]; rfl
 | m+1,k,h=>by rw[hs k (by omega),aU0 hs he m (k+1) (by omega),CX];grind [aC,aI]
theorem aQF {L:Nat->R} {v:Nat->Int} {n:Nat} (hs:∀ k,k<n->L k=aA (v k != 0) (bu (v k)) (L (k+1))) (he:L n=E):L 0=aA (qg v n != 0) (bu (qg v n)) E:=aU0 hs he n 0 (by omega)
theorem SQ (e:Int):aA (e != 0) (bu e) (bu 0)=bu e:=by
 by_cases h:e=0;simp_all
 .rw[SL h,aI]
theorem EH {L:Nat->R} {v:Nat->Int} {n:Nat} (hs:∀ k,k<n->L k=aA (v k != 0) (bu (v k)) (L (k+1))) (he:L n=bu 0):L 0=bu (qg v n):=(aQF hs he).trans (SQ _)
theorem aFR {L:Nat->R} {p:Nat->Bool} {n:Nat} (hs:∀ k,k<n->L k=aA (p k) (some (bZV (k:Int),h)) (L (k+1))) (he:L n=some (bZV (-1),h)):∀ (m k:Nat),k+m=n->∃ r,L k=some (bZV r,h)/\decide (0<=r)=(List.range' k m).any p
 | 0,k,e=>by simp_all
 | m+1,k,e=>by
  rw[hs k (by omega),aE5,X7];cases hp:p k with
  | true=>simp
  | false =>exact aFR hs he m (k+1) (by omega)
def yA (p:Nat->Bool) (n:Nat):Bool:=(List.range' 0 n).any p
theorem loopA {L:Nat->R} {p:Nat->Bool} {n:Nat} (hs:∀ k,k<n->L k=aA (p k) (some (bZV (k:Int),h)) (L (k+1))) (he:L n=some (bZV (-1),h)):∃ r,L 0=some (bZV r,h)/\decide (0<=r)=yA p n:=aFR hs he n 0 (by omega)
theorem aTZ {p:Nat->Bool} {c:Int}:∀ (m k:Nat),CX (fun k=>bif p k then c else 0) k m=bif (List.range' k m).any p then c else 0
 | 0,_=>rfl
 | m+1,k=>by rw[CX,aTZ m (k+1)];grind
theorem Xp {p:Nat->Bool} {c:Int} {n:Nat}:qg (fun k=>bif p k then c else 0) n=bif yA p n then c else 0:=aTZ n 0
theorem Vu {b:Bool} {c w:Int} (hc:c≠0):aA ((bif b then c else w) != 0) (bu (bif b then c else w)) X=aA b (bu c) (aA (w != 0) (bu w) X):=by
 cases b with
 | false=>rfl
 | true=>rw[cond_true,SL hc,aI,aI]
theorem st2 {b:Bool} {w:Int}:aA ((bif b then 2 else w) != 0) (bu (bif b then 2 else w)) X=aA b (bu 2) (aA (w != 0) (bu w) X):=Vu (by decide)
theorem st5 {b:Bool} {w:Int}:aA ((bif b then 5 else w) != 0) (bu (bif b then 5 else w)) X=aA b (bu 5) (aA (w != 0) (bu w) X):=Vu (by decide)
theorem st7 {b:Bool} {w:Int}:aA ((bif b then 7 else w) != 0) (bu (bif b then 7 else w)) X=aA b (bu 7) (aA (w != 0) (bu w) X):=Vu (by decide)
theorem st8 {b:Bool} {w:Int}:aA ((bif b then 8 else w) != 0) (bu (bif b then 8 else w)) X=aA b (bu 8) (aA (w != 0) (bu w) X):=Vu (by decide)
theorem bSW {b:Bool} {w:Int}:aA ((bif b then 13 else w) != 0) (bu (bif b then 13 else w)) X=aA b (bu 13) (aA (w != 0) (bu w) X):=Vu (by decide)
theorem stq {a w:Int}:aA (sq a w != 0) (bu (sq a w)) X=aA (a != 0) (bu a) (aA (w != 0) (bu w) X):=by grind [sq,aC,aI]
theorem st0:aA ((0:Int) != 0) (bu 0) X=X:=rfl
theorem Ha {b:Bool} {x y:Int}:aA b (bu x) (bu y)=bu (bif b then x else y):=by cases b<;>rfl
theorem QV (a:Int):sq a 0=a:=by grind [sq]
theorem yg (b:Bool) (c:Int):SS.CC 50 [.bool b,bZV c] []=bu (bif b then c else 0):=by rw[bGL,Ha]
def wG (l:List Nm) (s:Nm):Int:=bif !nameB s then 7 else bif decide (s∈l) then 8 else 0
theorem a8E (l:List Nm) (hn:l.length<=1000) (s:Nm):SS.CC 156 [bZW (aK l),.str (bs s)] []=some (.bool (decide (s∈l)),[]):=by rw[hasc (vF l) (by rw[bF]; omega) (bs s)];rw[decide_eq_decide.2 (aNP l 0)]
theorem aRX (n:Int):SS.CC 177 [bZV n] []=some (.bool (decide (n < -65536)||decide (65536<n)),[]):=by rw[b86];cases decide (n < -65536)<;>rfl
theorem a9P (v:Int):SS.CC 242 [bZV v,bZV 65536] []=some (.bool (decide (65536<v)||decide (v < -65536)),[]):=by rw[aK8];cases decide ((65536:Int)<v)<;>rfl
def Sv (l:List Int) (n:Int):Int:=qg (fun k=>bif decide (l.getD k 0<0) then 2 else bif decide (n<=l.getD k 0) then 2 else bif decide ((0:Int)<(k:Int))&&decide (l.getD k 0<=l.getD (k-1) 0) then 5 else 0) l.length
theorem gD {l:List α} {k:Nat} (h:k<l.length) (d:α):l.getD k d=l[k]:=by simp[h]
theorem csc (l:List Int) (hn:l.length<=1000) (n:Int):SS.CC 165 [bZW (fA l),bZV n] []=bu (Sv l n):=by
 rw[b54];refine EH (L:=fun k=>TW (fA l) n (k:Int)) (fun k hk => ?_) ?_
 .rw[aJB,aN (by rw[bF]; omega),II hk,bU (by omega),gD hk 0];simp only[st2,st5];show aA _ _ (aA _ _ (aA _ _ _))=_;cases hz:decide ((0:Int)<(k:Int)) with
  | false=>rfl
  | true =>
   have h0:0<k:=by grind
   have e1:(k:Int)-1=((k-1:Nat):Int):=by omega
   have hk1:k-1<l.length:=by omega
   rw[wrap64 (by omega) (by omega),e1,II hk1,gD hk1 0];rfl
 grind [aJB,aC]
theorem a5D (f:α->Bool) (l:List α) (d:α):yA (fun k=>f (l.getD k d)) l.length=l.any f:=by
 unfold yA;rw[a4C,List.any_eq_true,List.any_eq_true];constructor;grind
 .rintro ⟨x,hx,h⟩;obtain ⟨k,hk,e⟩:=aE3 hx;refine ⟨k,List.mem_range'_1.2 (by omega),?_⟩;rw[gD hk,e]; exact h
theorem Sj {A:R}:chk (true&&true) A=A:=rfl
def EK (l:List Nm):Int:=qg (fun k=>wG (l.take k) (l.getD k [])) l.length
theorem nsc (l:List Nm) (h:DJ l):SS.CC 158 [bZW (aK l)] []=bu (EK l):=by
 rw[b78];refine EH (L:=fun k=>ZW (aK l) (k:Int)) (fun k hk => ?_) ?_
 .have h1:(l.take k).length<=1000:=by have:=h.1; rw[wY]; omega
  rw[aJZ,aN (by rw[iD]; omega),aI,zW hk,jT,bU (by omega),gD hk []];rw[aZ (LD _ (h.2 _ (dY hk))),aN (show (0:Int)<=k by omega),aN (show (k:Int)<=(aK l).length by rw[iD]; omega),Sj,pG,aCV,aZ (a8E _ h1 _)];unfold wG;simp only[st7,st8,st0]
 grind [aJZ,iD,aC]
def big (x:Int):Bool:=decide (65536<x)||decide (x < -65536)
def Wn (pre:List Vr) (v:Vr):Int:=bif !nameB v.n then 7 else bif decide (v.n∈pre.map (·.n)) then 8 else bif big v.lo then 2 else bif big v.hi then 2 else bif decide (v.hi<v.lo) then 5 else bif decide (v.i<v.lo) then 2 else bif decide (v.hi<v.i) then 2 else 0
def dV:Vr:=⟨[],0,0,0⟩
def Jl (vs:List Vr):Int:=bif decide ((16:Int)<(vs.length:Int)) then 3 else qg (fun k=>Wn (vs.take k) (vs.getD k dV)) vs.length
theorem aG6 (a b:Nm):((bs a).toList==(bs b).toList)=decide (a=b):=by rw[HY,HY]; by_cases h:a=b<;>simp[h]
theorem a'P (l:List Vr) (hn:l.length<=1000) (v:Vr):SS.CC 169 [.sl false 4 (l.map jI),.func (.func 241) [] [bZX]] [O7 (MS v)]=some (.bool (decide (v.n∈l.map (·.n))),[O7 (MS v)]):=by
 have hl:∃ r,U1 (l.map jI) (MS v) ((0:Nat):Int)=some (bZV r,[O7 (MS v)])/\decide (0<=r)=yA (fun k=>decide ((l.getD k dV).n=v.n)) l.length:=by
  refine loopA (L:=fun k=>U1 (l.map jI) (MS v) (k:Int)) (fun k hk => ?_) ?_
  .rw[aKL,aN (by rw[bF]; omega),aI,IK hk,aET (b9I _ _),bU (by omega),gD hk dV,aG6]
  grind [aKL,aC]
 obtain ⟨r,e1,e2⟩:=hl;rw[b7M,aWS ((bA3 _ _).trans e1),e2,a5D (fun w:Vr=>decide (w.n=v.n)) l dV];grind
theorem cvc (vs:List Vr) (hn:vs.length<=1000) (hs:∀ v,v∈vs->v.n.length<=1000):SS.CC 167 [.sl false 4 (vs.map jI)] []=bu (Jl vs):=by
 rw[b58];unfold Jl;rw[bF,<- Ha];congr 1
 refine EH (L:=fun k=>ZN (vs.map jI) (k:Int)) (fun k hk => ?_) ?_
 .have h1:(vs.take k).length<=1000:=by rw[wY]; omega
  rw[aJC,aN (by rw[bF]; omega),aI,IK hk,bU (by omega),gD hk dV];rw[aZ (LD _ (hs _ (dY hk))),aN (show (0:Int)<=k by omega),aN (show (k:Int)<=(vs.map jI).length by rw[bF]; omega),Sj,pG,<- XA,aET (a'P _ h1 _),aZ (a9P _),aZ (a9P _)];unfold Wn big;simp only[st7,st8,st2,st5,st0]
 grind [aJC,aC]
def evE (pre:List lM) (e:lM):Int:=bif !nameB e.n then 7 else bif decide (e.n∈pre.map (·.n)) then 8 else bif decide (e.k<0) then 2 else bif decide (4<e.k) then 2 else bif (e.k != 0)&&e.c then 13 else bif (e.k != 0)&&e.o then 13 else 0
def dE:lM:=⟨[],false,false,false,0⟩
def Nw (es:List lM):Int:=bif decide ((32:Int)<(es.length:Int)) then 3 else qg (fun k=>evE (es.take k) (es.getD k dE)) es.length
def wJ:List Nm->bZZ
 | [] => []
 | a::l => .str (bs a) :: .bool true::wJ l
theorem YY (a b:Nm):eqK none (.str (bs a)) (.str (bs b))=some (decide (a=b)):=by show some ((bs a).data.toList==(bs b).data.toList)=_;rw[show (bs a).data.toList=a from by simp[bs],show (bs b).data.toList=b from by simp[bs]];by_cases h:a=b<;>simp[h]
theorem aMT (q:Nm):∀ l:List Nm,xQ none (wJ l) (.str (bs q))=some (if q∈l then some (.bool true) else none)
 | []=>rfl
 | a::l=>by rw[wJ,xQ,YY,aMT q l];grind
theorem aRS (q:Nm):∀ l:List Nm,rZ none (wJ l) (.str (bs q))=true
 | []=>rfl
 | a::l=>by rw[wJ,rZ,YY,aRS q l]; rfl
theorem aQZ (q:Nm):∀ l:List Nm,nU none (wJ l) (.str (bs q)) (.bool true)=wJ l
 | []=>rfl
 | a::l=>by rw[wJ,nU,YY,aQZ q l];grind
theorem aO0 (q:Nm):∀ l:List Nm,∃ l',oZ (wJ l) (.str (bs q)) (.bool true)=wJ l'/\∀ x,x∈l'↔x=q\/x∈l
 | []=>⟨[q],rfl,by simp⟩
 | a::l=>by
  obtain ⟨l',h1,h2⟩:=aO0 q l;rw[wJ,oZ,h1];split
  .exact ⟨q::a::l,rfl,by simp⟩
  .exact ⟨a::l',rfl,fun x=>by rw[kG,kG,h2];grind⟩
def Pj (l:List lM):bZZ:=l.foldl (fun L e=>jo none L (.str (bs e.n)) (.bool true)) []
theorem aND (q:Nm):∀ l:List Nm,tK none (wJ l) (.str (bs q))=decide (q∈l)
 | []=>rfl
 | a::l=>by rw[wJ,tK,YY,aND q l];grind
theorem bQI (q:Nm) (l:List Nm):∃ l',jo none (wJ l) (.str (bs q)) (.bool true)=wJ l'/\∀ x,x∈l'↔x=q\/x∈l:=by
 unfold jo;rw[aND];by_cases h:q∈l
 .rw[aN h];exact ⟨l,aQZ q l,fun x=>⟨.inr,fun c=>c.elim (fun e=>e▸h) id⟩⟩
 .rw[aW h];exact aO0 q l
theorem aQM (l:List lM):∀ k,k<=l.length->∃ l',Pj (l.take k)=wJ l'/\∀ x,x∈l'↔x∈(l.take k).map (·.n)
 | 0,_=>⟨[],rfl,by simp⟩
 | k+1,hk=>by
  obtain ⟨l',h1,h2⟩:=aQM l k (by omega);have hk':k<l.length:=by omega
  obtain ⟨l2,h3,h4⟩:=bQI (l[k]).n l';refine ⟨l2,?_,fun x => ?_⟩
  .rw[JL hk'];unfold Pj at h1 ⊢;rw[List.foldl_append,h1];exact h3
  .rw[h4,h2,JL hk'];simp only[qZ,vX,sN,List.map_nil,xx];exact or_comm
theorem bM6 (l:List lM) {k:Nat} (hk:k<l.length):Pj (l.take (k+1))=jo none (Pj (l.take k)) (.str (bs l[k].n)) (.bool true):=by rw[JL hk];grind [Pj]
theorem acc (es:List lM) (hn:es.length<=1000) (hs:∀ e,e∈es->e.n.length<=1000):SS.CC 53 [.sl false 5 (es.map uU)] []=bu (Nw es):=by
 rw[bEA];unfold Nw;rw[bF,<- Ha];congr 1
 refine EH (L:=fun k=>UI (es.map uU) (k:Int) (Pj (es.take k))) (fun k hk => ?_) ?_
 .obtain ⟨l',h1,h2⟩:=aQM es k (by omega);rw[aLV,aN (by rw[bF]; omega),aI,PU hk,bU (by omega),gD hk dE];rw[aZ (LD _ (hs _ (dY hk)))];rw[bM6 es hk,h1];dsimp only;rw[aRS];unfold IP;rw[aMT];have hm:decide ((es[k]).n∈(es.take k).map (·.n))=decide ((es[k]).n∈l'):=decide_eq_decide.2 (h2 _).symm;unfold evE;rw[hm];simp only[st7,st8,st2,bSW,st0];congr 1
  by_cases h:(es[k]).n∈l';simp_all
  .rw[aV h,aW h,aC];dsimp only;congr 1
   congr 1
   cases hk0:(es[k]).k != 0 with
   | false=>rfl
   | true =>rw[aI,N8,N8];rfl
 grind [aLV,aC]
def OD (x:EX) (n:Int):Int×Int:=match SS.CC 111 [A1 (ev x),bZV n] [] with
 | some (.tuple [.int _ k,.int _ e],_)=>(k,e)
 | _=>(0,0)
theorem YP (hx:x.Len) {n:Int} (h0:0<=n):SS.CC 111 [A1 (ev x),bZV n] []=some (.tuple [bZV (OD x n).1,bZV (OD x n).2],[]):=by
 have:∃ k e,SS.CC 111 [A1 (ev x),bZV n] []=some (.tuple [bZV k,bZV e],[]):=by
  by_cases h1:n<=16;grind [a5R]
  .rw[a7G,aW (by omega),aC,aN (by omega),aI];simp
 grind [OD]
def zt (x:EX) (n want:Int):Int:=bif (OD x n).2==0 then (bif (OD x n).1 != want then 16 else 0) else (OD x n).2
theorem aVQ (hx:x.Len) {n:Int} (h0:0<=n) (w:Int):SS.CC 244 [A1 (ev x),bZV n,bZV w] []=bu (zt x n w):=by rw[bA4,aWF (YP hx h0)];dsimp only;rw[cZ (yg _ _)];grind [zt,aC,aI]
def dU:Int×EX:=(0,zE)
def MP (nv:Int) (us:List (Int×EX)) (k:Nat):Int:=bif decide ((us.getD k dU).1<0) then 2 else bif decide (nv<=(us.getD k dU).1) then 2 else bif decide ((0:Int)<(k:Int))&&decide ((us.getD k dU).1<=(us.getD (k-1) dU).1) then 5 else zt (us.getD k dU).2 nv 1
def usE (nv:Int) (us:List (Int×EX)):Int:=qg (MP nv us) us.length
def Po (nl ne nv:Int) (x:Mv):Int:=bif decide (x.f<0) then 2 else bif decide (nl<=x.f) then 2 else bif decide (x.e<0) then 2 else bif decide (ne<=x.e) then 2 else bif decide (x.t<0) then 2 else bif decide (nl<=x.t) then 2 else sq (zt x.g nv 2) (usE nv x.us)
theorem bVF {nv:Int} {us:List (Int×EX)} (hn:us.length<=1000) {k:Nat} (hk:k<us.length) {J:R} (hJ:J=aA (zt (us[k]).2 nv 1 != 0) (bu (zt (us[k]).2 nv 1)) X) :
 aA (decide ((us[k]).1<0)) (bu 2) (aA (decide (nv<=(us[k]).1)) (bu 2) (aA (decide ((0:Int)<(k:Int))) (aj qO (us.map pUp) (i64.wrap ((k:Int)-1)) fun u8=>aA (decide ((us[k]).1<=u8.1)) (bu 5) J) J))=aA (MP nv us k != 0) (bu (MP nv us k)) X:=by
 unfold MP;simp only[gD hk dU,st2,st5];rw[<- hJ];cases hz:decide ((0:Int)<(k:Int)) with
 | false=>rfl
 | true =>
  have h0:0<k:=by grind
  have e1:(k:Int)-1=((k-1:Nat):Int):=by omega
  have hk1:k-1<us.length:=by omega
  rw[aI,wrap64 (by omega) (by omega),e1,FV hk1,gD hk1 dU];rfl
abbrev lH (t:Tm):Sh.V S6:=(fA t.al,t.L,t.I,fA t.mr,t.vs.map jI,t.ms.map qW,())
theorem bW {β:Type} (f:α->β) (l:List α):((l.map f).length:Int)=(l.length:Int):=by rw[bF]
def dM:Mv:=⟨0,0,0,zE,[]⟩
def VA (nl ne nv:Int) (ms:List Mv):Int:=qg (fun k=>Po nl ne nv (ms.getD k dM)) ms.length
def rvE (v:Vr):Int:=bif v.n==nX then 7 else bif v.n==pV then 7 else 0
def rsE (vs:List Vr):Int:=qg (fun k=>rvE (vs.getD k dV)) vs.length
def Nz (al:List Int):Int:=qg (fun k=>bif al.getD k 0 !=(k:Int) then 6 else 0) al.length
def Pq (n:Int):Int:=if (1:Int)>n then 1 else n
def GR (t:Tm):Int:=sq (EK t.es) (sq (EK t.ls) (bif (t.al.length:Int) !=(t.es.length:Int) then 6 else sq (Nz t.al) (bif t.L !=(t.ls.length:Int) then 4 else bif decide (t.I<0) then 2 else bif decide (Pq (t.ls.length:Int)<=t.I) then 2 else sq (Sv t.mr (t.ls.length:Int)) (sq (Jl t.vs) (sq (rsE t.vs) (VA (t.ls.length:Int) (t.es.length:Int) (t.vs.length:Int) t.ms))))))
theorem CB (f:α->Nm) (l:List α) {k:Nat} (hk:k<l.length):aK ((l.take k).map f) ++ ([.str (bs (f l[k]))]:bZZ)=aK ((l.take (k+1)).map f):=by rw[JL hk,qZ,<- a3O]; rfl
theorem iQ {l:bZZ} (h:l.length<=1000):decide (l.length+1<=aO)=true:=aN (by show l.length+1<=1073741824; omega)
theorem PZ {a b:Nat} (h:a<=1000) (h2:b<=1000):decide (a+b<=aO)=true:=aN (by show a+b<=1073741824; omega)
theorem CE (f:α->Nm) (l:List α) (k:Nat) (h:l.length<=1000):(aK ((l.take k).map f)).length<=1000:=by rw[iD,bF,wY]; omega
def a2B (l:List Nm):Int:=qg (fun k=>bif !nameB (l.getD k []) then 7 else 0) l.length
def inE (pre:List Ins) (x:Ins):Int:=sq (wG (pre.map (·.n)) x.n) (a2B (x.t::x.es))
def dI:Ins:=⟨[],[],[]⟩
def Ub (l:List Ins):Int:=qg (fun k=>inE (l.take k) (l.getD k dI)) l.length
theorem YR (l:List Ins) (hn:l.length<=1000):SS.CC 39 [.sl false 3 (l.map fD)] []=some (.sl true 3 (l.map fD),[]):=by
 rw[bE6];refine aRB ?_ fun h => ?_
 .rw[show (false==true)=false from rfl,aC,aQ (by rw[bF]; exact PZ (by decide) hn)]
 simp_all
def lcE (l:Nm×Nm):Int:=bif !nameB l.1 then 7 else bif !nameB l.2 then 7 else 0
def dL:Nm×Nm:=([],[])
def a1M (ls:List (Nm×Nm)):Int:=qg (fun k=>lcE (ls.getD k dL)) ls.length
def exE (pre:List pI) (x:pI):Int:=sq (wG (pre.map (·.n)) x.n) (bif (x.ls.length:Int)==0 then 12 else a1M x.ls)
def dX:pI:=⟨[],[]⟩
def X5 (l:List pI):Int:=qg (fun k=>exE (l.take k) (l.getD k dX)) l.length
def trE (t:Nm×Int):Int:=bif !nameB t.1 then 7 else bif decide (t.2 < -65536) then 2 else bif decide (65536<t.2) then 2 else 0
def dR:Nm×Int:=([],0)
def a3S (ls:List (Nm×Int)):Int:=qg (fun k=>trE (ls.getD k dR)) ls.length
def H7 (b:Int):Int:=bif decide (b < -65536) then 2 else bif decide (65536<b) then 2 else 0
def ctE (pre:List Cst) (x:Cst):Int:=sq (wG (pre.map (·.n)) x.n) (bif (x.ts.length:Int)==0 then 12 else sq (a3S x.ts) (H7 x.b))
def dK:Cst:=⟨[],[],0⟩
def Ul (l:List Cst):Int:=qg (fun k=>ctE (l.take k) (l.getD k dK)) l.length
def tpE (pre:List Tm) (t:Tm):Int:=sq (wG (pre.map (·.n)) t.n) (GR t)
def dT:Tm:=⟨[],[],[],[],0,0,[],[],[]⟩
def WH (l:List Tm):Int:=qg (fun k=>tpE (l.take k) (l.getD k dT)) l.length
def DW (m:Mo):Int:=bif !nameB m.n then 7 else sq (Nw m.es) (bif decide ((16:Int)<(m.ts.length:Int)) then 3 else bif decide ((32:Int)<(m.cs.length:Int)) then 3 else bif decide ((32:Int)<(m.rs.length:Int)) then 3 else bif decide ((32:Int)<(m.xs.length:Int)) then 3 else bif decide ((32:Int)<(m.ks.length:Int)) then 3 else sq (WH m.ts) (sq (Ub (m.cs ++ m.rs)) (sq (X5 m.xs) (Ul m.ks))))
def fnP (f:FuncId×bZZ×Int):PV := .func (.func f.1) [] f.2.1
def QU:List Int->Int
 | []=>0
 | a::l=>sq a (QU l)
theorem aHY (all:List (FuncId×bZZ×Int)) (hn:all.length<=1000) (h:∀ f,f∈all->SS.CC f.1 f.2.1 []=bu f.2.2/\PV.flats f.2.1=true):∀ (l:List (FuncId×bZZ×Int)) (k:Nat),all.drop k=l->a0G (all.map fnP) (k:Int)=bu (QU (l.map (·.2.2)))
 | [],k,e=>by have:all.length<=k:=NC.1 e;rw[aML,aW (by rw[bW]; omega),aC]; rfl
 | f::l,k,e=>by obtain ⟨k1,k2,k3⟩:=drop_cons e;obtain ⟨h1,h2⟩:=h f (by rw[<- k2]; exact dY k1);rw[aML,aN (by rw[bW]; omega),aI,nS (e:=fnP f) (by omega) (by rw[pG,lL,jU k1,k2]; rfl),bU (by omega),aHY all hn h l (k+1) k3];show chk (true&&true) (chk (PV.flats f.2.1) (jO SS.CC f.1 f.2.1 _))=_;rw[Sj,aQ h2,uK h1 (v:=bu (QU ((f::l).map (·.2.2)))) ?_];rw[ui];show _=bu (sq f.2.2 (QU (l.map (·.2.2))));rw[<- SQ (sq _ _),stq,SQ]
theorem OU (all:List (FuncId×bZZ×Int)) (hn:all.length<=1000) (h:∀ f,f∈all->SS.CC f.1 f.2.1 []=bu f.2.2/\PV.flats f.2.1=true):SS.CC 48 [bZW (all.map fnP)] []=bu (QU (all.map (·.2.2))):=(bGJ _).trans (aHY all hn h all 0 rfl)
theorem oQ {L:Nat->R} {n:Nat} (hs:∀ k,k<n->L k=L (k+1)) (he:L n=E):L 0=E:=by
 have:∀ (m k:Nat),k+m=n->L k=E:=by
  intro m;induction m with
  | zero=>simp_all
  | succ m ih=>grind
 simp_all
def Xv (l:List Nm):Bool:=yA (fun k => !nameB (l.getD k [])) l.length
theorem aFO (l:List Nm) (hn:l.length<=2000) (hl:∀ s,s∈l->s.length<=1000):SS.CC 67 [bZW (aK l)] []=some (.bool (!Xv l),[]):=by
 have e:∃ r,TU (aK l) ((0:Nat):Int)=some (bZV r,[])/\decide (0<=r)=Xv l:=by
  refine loopA (L:=fun k=>TU (aK l) (k:Int)) (fun k hk => ?_) ?_
  .rw[aJA,aN (by rw[iD]; omega),aI,zW hk,jT,aZ ((b81 _).trans (aZ (LD _ (hl _ (dY hk))))),bU (by omega),gD hk []]
  grind [aJA,iD,aC]
 obtain ⟨r,e1,e2⟩:=e;rw[bH5,aZ ((bE5 _).trans (cZ ((b4Z _).trans e1))),e2]
theorem bN2 (l:List Nm):a2B l=bif Xv l then 7 else 0:=Xp
theorem bL5 (l:List Nm) (hl:DJ l) {k:Nat} (hk:k<l.length):SS.CC 59 [bZW (aK (l.take (k+1)))] []=bu (wG (l.take k) l[k]):=by
 have hn:=hl.1;have hL:(l.take (k+1)).length=k+1:=by rw[wY]; omega
 have e0:i64.wrap (((aK (l.take (k+1))).length:Int)-1)=(k:Int):=by rw[iD,hL,wrap64 (by omega) (by omega)]; omega
 have hk':k<(l.take (k+1)).length:=by omega
 have e1:(l.take (k+1))[k]=l[k]:=by rw[List.getElem_take]
 rw[bGV,e0,zW hk',e1,jT,aZ (LD _ (hl.2 _ (dY hk))),aN (show (0:Int)<=k by omega),aN (show (k:Int)<=(aK (l.take (k+1))).length by rw[iD]; omega),Sj,pG,aCV,List.take_take,Nat.min_eq_left (by omega)];rw[aZ (a8E _ (by rw[wY]; omega) _),cZ (yg _ _),Ha];rfl
def uh (n:Nat):List Int:=(List.range n).map fun i:Nat=>(i:Int)
theorem aRP (n:Nat) (hn:n<=1000):SS.CC 161 [bZV (n:Int)] []=some (bZW (fA (uh n)),[]):=by
 rw[b7F];refine oQ (n:=n) (L:=fun k=>ZX (n:Int) (fA (uh k)) (k:Int)) (fun k hk => ?_) ?_
 .have hl:(fA (uh k)).length<=1000:=by grind [uh]
  rw[aJ',aN (by omega),aI,aQ (iQ hl),bU (by omega)];grind [uh,List.range_succ]
 grind [aJ',aC]
theorem aC7 (n:Nat):(uh n).length=n:=by grind [uh]
theorem bRC {n k:Nat} (h:k<n):(uh n)[k]'(by rw[aC7]; exact h)=(k:Int):=by unfold uh; simp
theorem a_5 (a:List Int) (n:Nat) (ha:a.length<=1000):SS.CC 88 [bZW (fA a),bZW (fA (uh n))] []=some (.bool (bif (a.length:Int) !=(n:Int) then false else !yA (fun k=>a.getD k 0 !=(k:Int)) a.length),[]):=by
 rw[a6U,bW,bW,aC7];by_cases h:a.length=n
 .have h0:((a.length:Int) !=(n:Int))=false:=by simp[h]
  rw[h0,aC,NH];have:∀ (m k:Nat),k+m=a.length->KC (fA a) (fA (uh n)) (k:Int)=some (.bool (!(List.range' k m).any fun k=>a.getD k 0 !=(k:Int)),[]):=by
   intro m;induction m with
   | zero =>grind [ZB,aC]
   | succ m ih =>
    intro k hk;have hk1:k<a.length:=by omega
    have hk2:k<(uh n).length:=by rw[aC7]; omega
    rw[ZB,aN (by rw[bW]; omega),aI,II hk1,ui,II hk2,ui,bRC (by omega),bU (by omega),ih (k+1) (by omega),aE5,X7,gD hk1 0];cases a[k] !=(k:Int)<;>rfl
  exact this a.length 0 (by omega)
 grind [aI]
theorem aZZ (x:Mv) (nv:Int) (h0:0<=nv) (hl:x.us.length<=1000) (hu:∀ u,u∈x.us->u.2.Len):Tq (sJ x) nv 0=bu (usE nv x.us):=by
 refine EH (L:=fun i=>Tq (sJ x) nv (i:Int)) (fun i hi => ?_) ?_
 .rw[aK3,aN (show (i:Int)<((sJ x).2.2.2.2.2.2.2.1.length:Int) by rw[bW]; omega),aI,FV hi];refine bVF hl hi ?_;rw[b7V,bU (by omega)];exact cZ (aVQ (hu _ (dY hi)) h0 1)
 grind [aK3,aC]
theorem bMK (t:Tm) (x:Mv) (h1:x.g.Len) (hl:x.us.length<=1000) (hu:∀ u,u∈x.us->u.2.Len):SS.CC 174 [A5 (iY t),A9 (sJ x)] []=bu (Po t.L (t.es.length:Int) (t.vs.length:Int) x):=by rw[b80];dsimp only;rw[bW,iD,cZ (aVQ h1 (by omega) 2),aZZ x _ (by omega) hl hu];grind [Po,Ha,sq]
theorem bML (t:Tm) (h:um t):SS.CC 171 [.cst (A6 (lH t)),.cst (A5 (iY t))] []=bu (VA t.L (t.es.length:Int) (t.vs.length:Int) t.ms):=by
 rw[b7O];suffices e:SS.CC 172 [.sl false 8 (lH t).2.2.2.2.2.1,.func (.func 173) [] [.cst (A5 (iY t)),.cst (A6 (lH t))]] []=bu (VA t.L (t.es.length:Int) (t.vs.length:Int) t.ms) from cZ e
 refine (b7S _ _ _ _ _ _ _ _ _ _ _ _ _ _ _ _).trans ?_;rw[bW];refine EH (L:=fun i=>ZY _ _ _ _ _ _ _ _ _ _ _ _ _ _ _ (t.ms.length:Int) (i:Int)) (fun i hi => ?_) ?_
 .obtain ⟨h1,h2,h3⟩:=h.ms.2 _ (dY hi);rw[aK1,aN (by omega),aI,bU (by have:=h.ms.1; omega),gD hi dM];refine cZ ?_;refine (b7U _ _ _).trans ?_;rw[show (lH t).2.2.2.2.2.1=t.ms.map qW from rfl,Ky hi];exact cZ (bMK t _ h1 h2 h3)
 grind [aK1,aC]
theorem QW {b:Bool} {c x:Int} (hc:c≠0):sq (bif b then c else 0) x=bif b then c else x:=by
 cases b with
 | false=>rfl
 | true=>exact aV hc
def a0U (v:Vr):Bool:=v.n==nX||v.n==pV
theorem bRJ (vs:List Vr):rsE vs=bif yA (fun k=>a0U (vs.getD k dV)) vs.length then 7 else 0:=by rw[<- Xp];grind [rsE,rvE,a0U]
theorem bR8 (vs:List Vr) (hn:vs.length<=1000):SS.CC 169 [.sl false 4 (vs.map jI),.func (.func 170) [] []] []=some (.bool (yA (fun k=>a0U (vs.getD k dV)) vs.length),[]):=by
 have e:∃ r,U0 (vs.map jI) ((0:Nat):Int)=some (bZV r,[])/\decide (0<=r)=yA (fun k=>a0U (vs.getD k dV)) vs.length:=by
  refine loopA (L:=fun k=>U0 (vs.map jI) (k:Int)) (fun k hk => ?_) ?_
  .rw[aKK,aN (by rw[bW]; omega),aI,IK hk,aZ ((b7N _).trans (aZ (aT6 _))),bU (by omega),gD hk dV];rfl
  grind [aKK,aC]
 obtain ⟨r,e1,e2⟩:=e;rw[b7L,cZ ((b9' _).trans e1),e2]
def eqA (al:List Int) (n:Nat):Bool:=bif (al.length:Int) !=(n:Int) then false else !yA (fun k=>al.getD k 0 !=(k:Int)) al.length
def iE (L I:Int):Int:=bif decide (I<0) then 2 else bif decide (Pq L<=I) then 2 else 0
def Yz (t:Tm):List (FuncId×bZZ×Int) := [(157,[.cst (A5 (iY t))],EK t.es),(159,[.cst (A5 (iY t))],EK t.ls),(160,[.cst (A6 (lH t)),.cst (A5 (iY t))],bif !eqA t.al t.es.length then 6 else 0),(162,[.cst (A6 (lH t)),.cst (A5 (iY t))],bif t.L !=(t.ls.length:Int) then 4 else 0),(163,[.cst (A6 (lH t))],iE t.L t.I),(164,[.cst (A6 (lH t))],Sv t.mr t.L),(166,[.cst (A6 (lH t))],Jl t.vs),(168,[.cst (A6 (lH t))],rsE t.vs),(171,[.cst (A6 (lH t)),.cst (A5 (iY t))],VA t.L (t.es.length:Int) (t.vs.length:Int) t.ms)]
theorem b0J (t:Tm) (h:um t):∀ f,f∈Yz t->SS.CC f.1 f.2.1 []=bu f.2.2/\PV.flats f.2.1=true:=by
 intro f hf;simp only[Yz,kG,yw,yz] at hf;rcases hf with rfl | rfl | rfl | rfl | rfl | rfl | rfl | rfl | rfl
 .exact ⟨(b74 _).trans (cZ (nsc _ h.es)),rfl⟩
 .exact ⟨(b79 _).trans (cZ (nsc _ h.ls)),rfl⟩
 .refine ⟨(b7A _ _).trans ?_,rfl⟩;rw[iD,uJ (aRP _ h.es.1),aZ (a_5 t.al _ h.al),cZ (yg _ _)];rfl
 .refine ⟨(b7G _ _).trans ?_,rfl⟩;rw[iD,cZ (yg _ _)]
 .refine ⟨(b7H _).trans ?_,rfl⟩;rw[cZ (yg _ _),cZ (yg _ _)];show aA (decide (t.I<0)) (bu 2) (bu (bif decide (Pq t.L<=t.I) then 2 else 0))=_;rw[Ha]; rfl
 .exact ⟨(b7I _).trans (cZ (csc _ h.mr _)),rfl⟩
 .exact ⟨(b7J _).trans (cZ (cvc _ h.vs.1 fun v hv=>(h.vs.2 v hv).1)),rfl⟩
 .refine ⟨(b7K _).trans ?_,rfl⟩;rw[aZ (bR8 t.vs h.vs.1),cZ (yg _ _),bRJ]
 .exact ⟨bML t h,rfl⟩
theorem tmK (t:Tm):QU ((Yz t).map (·.2.2))=GR t:=by
 show sq _ (sq _ (sq _ (sq _ (sq _ (sq _ (sq _ (sq _ (sq _ 0))))))))=_;rw[QV,QW (by decide),QW (by decide)];unfold GR;congr 2
 have ha:∀ X:Int,(bif !eqA t.al t.es.length then 6 else X)=bif (t.al.length:Int) !=(t.es.length:Int) then 6 else sq (Nz t.al) X:=by intro X;unfold eqA Nz;rw[Xp,QW (by decide)];grind
 rw[ha];congr 2
 by_cases hL:t.L=(t.ls.length:Int)
 .rw[hL];have h0:((t.ls.length:Int) !=(t.ls.length:Int))=false:=by simp
  rw[h0,NH,NH];unfold iE;cases decide (t.I<0) with
  | true=>rfl
  | false =>rw[NH,NH,QW (by decide)]
 grind
theorem bTV (t:Tm) (h:um t):SS.CC 61 [A5 (iY t)] []=bu (GR t):=by rw[bGX];have e:=OU (Yz t) (by show 9<=1000; decide) (b0J t h);rw[tmK] at e;exact cZ e
theorem a'3 (l:List Ins) (hn:l.length<=1000):SS.CC 40 [.sl false 3 (l.map fD),.func (.func 41) [] []] []=some (bZW (aK (l.map (·.n))),[]):=by
 rw[bFO];refine oQ (n:=l.length) (L:=fun k=>a09 (l.map fD) (aK ((l.take k).map (·.n))) (k:Int)) (fun k hk => ?_) ?_
 .rw[aME,aN (by rw[bW]; omega),aI,Bh hk,pJ (bFP _),aQ (iQ (CE _ l k hn)),CB (·.n) l hk,bU (by omega)]
 grind [aME,aC]
theorem a'5 (l:List Tm) (hn:l.length<=1000):SS.CC 42 [.sl false 9 (l.map qw),.func (.func 43) [] []] []=some (bZW (aK (l.map (·.n))),[]):=by
 rw[bFX];refine oQ (n:=l.length) (L:=fun k=>a0B (l.map qw) (aK ((l.take k).map (·.n))) (k:Int)) (fun k hk => ?_) ?_
 .rw[aMG,aN (by rw[bW]; omega),aI,FU hk,pJ (bFY _),aQ (iQ (CE _ l k hn)),CB (·.n) l hk,bU (by omega)]
 grind [aMG,aC]
theorem a'6 (l:List pI) (hn:l.length<=1000):SS.CC 44 [.sl false 2 (l.map ru),.func (.func 45) [] []] []=some (bZW (aK (l.map (·.n))),[]):=by
 rw[bG5];refine oQ (n:=l.length) (L:=fun k=>a0D (l.map ru) (aK ((l.take k).map (·.n))) (k:Int)) (fun k hk => ?_) ?_
 .rw[aMI,aN (by rw[bW]; omega),aI,ED hk,pJ (bG6 _),aQ (iQ (CE _ l k hn)),CB (·.n) l hk,bU (by omega)]
 grind [aMI,aC]
theorem a'4 (l:List Cst) (hn:l.length<=1000):SS.CC 46 [.sl false 3 (l.map mJ),.func (.func 47) [] []] []=some (bZW (aK (l.map (·.n))),[]):=by
 rw[bGE];refine oQ (n:=l.length) (L:=fun k=>a0F (l.map mJ) (aK ((l.take k).map (·.n))) (k:Int)) (fun k hk => ?_) ?_
 .rw[aMK,aN (by rw[bW]; omega),aI,FT hk,pJ (bGF _),aQ (iQ (CE _ l k hn)),CB (·.n) l hk,bU (by omega)]
 grind [aMK,aC]
theorem a1L (f:α->Nm) (l:List α) (hn:l.length<=1000) (hs:∀ x,x∈l->(f x).length<=1000) {k:Nat} (hk:k<l.length):
 chk (decide (0<=(i64.wrap ((k:Int)+1)))&&decide ((i64.wrap ((k:Int)+1))<=((aK (l.map f)).length:Int))) (G1 59 [bZW ((aK (l.map f)).take (i64.wrap ((k:Int)+1)).toNat)] fun n1=>some (bZV n1,[]))=bu (wG ((l.take k).map f) (f l[k])):=by
 have hk2:k<(l.map f).length:=by rw[bF]; exact hk
 rw[bU (by omega),aN (by omega),aN (by rw[iD]; omega),Sj,pG,aCV];rw[cZ (bL5 (l.map f) ⟨by rw[bF]; exact hn,fun s hs2=>by grind⟩ hk2),X8,XA]
theorem bU0 (m:Mo) (h:mY m) {k:Nat} (hk:k<m.ts.length):SS.CC 57 [bZV (k:Int),.cst (bZW (aK (m.ts.map (·.n)))),.cst (A0 (aS m))] []=bu (tpE (m.ts.take k) m.ts[k]):=by
 have ht:=h.ts.2 _ (dY hk);rw[bGT];have e:=OU [(58,[.cst (bZW (aK (m.ts.map (·.n)))),.cst (bZV (k:Int))],wG ((m.ts.take k).map (·.n)) (m.ts[k]).n),(60,[.cst (A0 (aS m)),.cst (bZV (k:Int))],GR m.ts[k])] (by simp) (by
  intro f hf;simp only[kG,yw,yz] at hf;rcases hf with rfl | rfl
  .exact ⟨(bGU _ _).trans (a1L (·.n) m.ts h.ts.1 (fun x hx=>(h.ts.2 x hx).1) hk),rfl⟩
  .refine ⟨(bGW _ _).trans ?_,rfl⟩;rw[FU hk];exact cZ (bTV _ ht.2))
 refine (cZ e).trans ?_;show bu (sq _ (sq _ 0))=_;rw[QV]; rfl
theorem tsc (m:Mo) (h:mY m):SS.CC 55 [.cst (A0 (aS m)),.cst (bZW (aK (m.ts.map (·.n))))] []=bu (WH m.ts):=by
 rw[bGO];suffices e:SS.CC 56 [.sl false 9 (aS m).2.2.1,.func (.func 57) [] [.cst (bZW (aK (m.ts.map (·.n)))),.cst (A0 (aS m))]] []=bu (WH m.ts) from cZ e
 refine (bGS _ _ _ _ _ _ _ _ _).trans ?_;rw[bW];refine EH (L:=fun i=>a0H _ _ _ _ _ _ _ _ (m.ts.length:Int) (i:Int)) (fun i hi => ?_) ?_
 .rw[aMM,aN (by omega),bU (by have:=h.ts.1; omega),gD hi dT];exact cZ (bU0 m h hi)
 grind [aMM,aC]
theorem bJE (l:List Ins) (hn:l.length<=1000) (h:∀ x,x∈l->x.n.length<=1000/\x.t.length<=1000/\DJ x.es) {k:Nat} (hk:k<l.length):SS.CC 64 [bZV (k:Int),.cst (bZW (aK (l.map (·.n)))),.cst (.sl false 3 (l.map fD))] []=bu (inE (l.take k) l[k]):=by
 obtain ⟨h1,h2,h4⟩:=h _ (dY hk);rw[bH2];have e:=OU [(65,[.cst (bZW (aK (l.map (·.n)))),.cst (bZV (k:Int))],wG ((l.take k).map (·.n)) (l[k]).n),(66,[.cst (.sl false 3 (l.map fD)),.cst (bZV (k:Int))],a2B ((l[k]).t::(l[k]).es))] (by simp) (by
  intro f hf;simp only[kG,yw,yz] at hf;rcases hf with rfl | rfl
  .exact ⟨(bH3 _ _).trans (a1L (·.n) l hn (fun x hx=>(h x hx).1) hk),rfl⟩
  .refine ⟨(bH4 _ _).trans ?_,rfl⟩;rw[Bh hk,Bh hk];rw[aQ (PZ (by decide) (by rw[iD]; exact h4.1)),show ([.str (bs (l[k]).t)]:bZZ) ++ aK (l[k]).es=aK ((l[k]).t::(l[k]).es) from rfl];rw[aZ (aFO _ (by rw[bM]; omega) (fun s hs=>by grind)),cZ (yg _ _),bN2,Bool.not_not])
 refine (cZ e).trans ?_;show bu (sq _ (sq _ 0))=_;rw[QV]; rfl
theorem bJG (l:List Ins) (hn:l.length<=1000) (h:∀ x,x∈l->x.n.length<=1000/\x.t.length<=1000/\DJ x.es):SS.CC 62 [.cst (.sl false 3 (l.map fD)),.cst (bZW (aK (l.map (·.n))))] []=bu (Ub l):=by
 rw[bGY];suffices e:SS.CC 63 [.sl false 3 (l.map fD),.func (.func 64) [] [.cst (bZW (aK (l.map (·.n)))),.cst (.sl false 3 (l.map fD))]] []=bu (Ub l) from cZ e
 refine (bH1 _ _ _).trans ?_;rw[bW];refine EH (L:=fun i=>a0I _ _ (l.length:Int) (i:Int)) (fun i hi => ?_) ?_
 .rw[aMN,aN (by omega),bU (by omega),gD hi dI];exact cZ (bJE l hn h hi)
 grind [aMN,aC]
theorem bL7 (ls:List (Nm×Nm)):a1M ls=bif yA (fun k => !nameB (ls.getD k dL).1 || !nameB (ls.getD k dL).2) ls.length then 7 else 0:=by rw[<- Xp];grind [a1M,lcE]
theorem aY9 (l:Nm×Nm) (h1:l.1.length<=1000) (h2:l.2.length<=1000):SS.CC 75 [NK (vLc l)] []=some (.bool (!nameB l.1 || !nameB l.2),[]):=by have e:=aFO [l.1,l.2] (by simp) (fun s hs=>by grind);rw[bHG];refine (aZ e).trans ?_;unfold Xv;rw[a5D (fun s => !nameB s) [l.1,l.2] []];simp
theorem bWG (m:Mo) (h:mY m) {k:Nat} (hk:k<m.xs.length):SS.CC 70 [bZV (k:Int),.cst (bZW (aK (m.xs.map (·.n)))),.cst (A0 (aS m))] []=bu (exE (m.xs.take k) m.xs[k]):=by
 obtain ⟨h1,h2,h4⟩:=h.xs.2 _ (dY hk);rw[bHB];have e:=OU [(71,[.cst (bZW (aK (m.xs.map (·.n)))),.cst (bZV (k:Int))],wG ((m.xs.take k).map (·.n)) (m.xs[k]).n),(72,[.cst (A0 (aS m)),.cst (bZV (k:Int))],bif ((m.xs[k]).ls.length:Int)==0 then 12 else 0),(73,[.cst (A0 (aS m)),.cst (bZV (k:Int))],a1M (m.xs[k]).ls)] (by simp) (by
  intro f hf;simp only[kG,yw,yz] at hf;rcases hf with rfl | rfl | rfl
  .exact ⟨(bHC _ _).trans (a1L (·.n) m.xs h.xs.1 (fun x hx=>(h.xs.2 x hx).1) hk),rfl⟩
  .refine ⟨(bHD _ _).trans ?_,rfl⟩;rw[ED hk,bW];exact cZ (yg _ _)
  .refine ⟨(bHE _ _).trans ?_,rfl⟩;rw[ED hk];have e:∃ r,Tt ((m.xs[k]).ls.map qp) ((0:Nat):Int)=some (bZV r,[])/\decide (0<=r)=yA (fun i => !nameB ((m.xs[k]).ls.getD i dL).1 || !nameB ((m.xs[k]).ls.getD i dL).2) (m.xs[k]).ls.length:=by
    refine loopA (L:=fun i=>Tt ((m.xs[k]).ls.map qp) (i:Int)) (fun i hi => ?_) ?_
    .obtain ⟨a1,a2⟩:=h4 _ (dY hi);rw[aK4,aN (by rw[bW]; omega),aI,PW hi,aZ (aY9 _ a1 a2),bU (by omega),gD hi dL]
    grind [aK4,aC]
   obtain ⟨r,e1,e2⟩:=e;rw[aZ ((bHF _).trans (cZ ((b85 _).trans e1))),e2,cZ (yg _ _),bL7])
 refine (cZ e).trans ?_;show bu (sq _ (sq _ (sq _ 0)))=_;rw[QV,QW (by decide)]; rfl
theorem xsc (m:Mo) (h:mY m):SS.CC 68 [.cst (A0 (aS m)),.cst (bZW (aK (m.xs.map (·.n))))] []=bu (X5 m.xs):=by
 rw[bH6];suffices e:SS.CC 69 [.sl false 2 (aS m).2.2.2.2.2.1,.func (.func 70) [] [.cst (bZW (aK (m.xs.map (·.n)))),.cst (A0 (aS m))]] []=bu (X5 m.xs) from cZ e
 refine (bHA _ _ _ _ _ _ _ _ _).trans ?_;rw[bW];refine EH (L:=fun i=>a0J _ _ _ _ _ _ _ _ (m.xs.length:Int) (i:Int)) (fun i hi => ?_) ?_
 .rw[aMO,aN (by omega),bU (by have:=h.xs.1; omega),gD hi dX];exact cZ (bWG m h hi)
 grind [aMO,aC]
theorem ctc (x:Cst) (hn:x.ts.length<=1000) (hl:∀ l,l∈x.ts->l.1.length<=1000):SS.CC 81 [rD (vU x)] []=bu (bif (x.ts.length:Int)==0 then 12 else sq (a3S x.ts) (H7 x.b)):=by
 rw[bHS,bW];have hb:(bif decide (x.b < -65536)||decide (65536<x.b) then (2:Int) else 0)=H7 x.b:=by grind [H7]
 have e:UK (vU x) 0=bu (sq (a3S x.ts) (H7 x.b)):=by
  rw[<- SQ (sq _ _),stq,SQ];refine aQF (L:=fun k=>UK (vU x) (k:Int)) (fun k hk => ?_) ?_
  .rw[aMQ,aN (show (k:Int)<((vU x).2.1.length:Int) by rw[bW]; omega),PX hk,aZ (LD _ (hl _ (dY hk))),aZ (aRX _),bU (by omega),gD hk dR];unfold trE;simp only[st7,st2];cases decide ((x.ts[k]).2 < -65536)<;>rfl
  .rw[aMQ,aW (show ¬ (x.ts.length:Int)<((vU x).2.1.length:Int) by rw[bW]; omega),aC,aZ (aRX _),cZ (yg _ _),hb]
 rw[e,Ha]
theorem bL2 (m:Mo) (h:mY m) {k:Nat} (hk:k<m.ks.length):SS.CC 78 [bZV (k:Int),.cst (bZW (aK (m.ks.map (·.n)))),.cst (A0 (aS m))] []=bu (ctE (m.ks.take k) m.ks[k]):=by
 obtain ⟨h1,h2,h4⟩:=h.ks.2 _ (dY hk);rw[bHM];have e:=OU [(79,[.cst (bZW (aK (m.ks.map (·.n)))),.cst (bZV (k:Int))],wG ((m.ks.take k).map (·.n)) (m.ks[k]).n),(80,[.cst (A0 (aS m)),.cst (bZV (k:Int))],bif ((m.ks[k]).ts.length:Int)==0 then 12 else sq (a3S (m.ks[k]).ts) (H7 (m.ks[k]).b))] (by simp) (by
  intro f hf;simp only[kG,yw,yz] at hf;rcases hf with rfl | rfl
  .exact ⟨(bHN _ _).trans (a1L (·.n) m.ks h.ks.1 (fun x hx=>(h.ks.2 x hx).1) hk),rfl⟩
  .refine ⟨(bHO _ _).trans ?_,rfl⟩;rw[FT hk];exact cZ (ctc _ h2 h4))
 refine (cZ e).trans ?_;show bu (sq _ (sq _ 0))=_;rw[QV]; rfl
theorem ksc (m:Mo) (h:mY m):SS.CC 76 [.cst (A0 (aS m)),.cst (bZW (aK (m.ks.map (·.n))))] []=bu (Ul m.ks):=by
 rw[bHH];suffices e:SS.CC 77 [.sl false 3 (aS m).2.2.2.2.2.2.1,.func (.func 78) [] [.cst (bZW (aK (m.ks.map (·.n)))),.cst (A0 (aS m))]] []=bu (Ul m.ks) from cZ e
 refine (bHL _ _ _ _ _ _ _ _ _).trans ?_;rw[bW];refine EH (L:=fun i=>a0K _ _ _ _ _ _ _ _ (m.ks.length:Int) (i:Int)) (fun i hi => ?_) ?_
 .rw[aMP,aN (by omega),bU (by have:=h.ks.1; omega),gD hi dK];exact cZ (bL2 m h hi)
 grind [aMP,aC]
def V4 (m:Mo):Int:=bif decide ((16:Int)<(m.ts.length:Int)) then 3 else bif decide ((32:Int)<(m.cs.length:Int)) then 3 else bif decide ((32:Int)<(m.rs.length:Int)) then 3 else bif decide ((32:Int)<(m.xs.length:Int)) then 3 else bif decide ((32:Int)<(m.ks.length:Int)) then 3 else 0
theorem lic (m:Mo):SS.CC 54 [.cst (A0 (aS m))] []=bu (V4 m):=by rw[bGN,cZ (yg _ _),cZ (yg _ _)];grind [Ha,V4]
theorem bSV (m:Mo) (x:Int):sq (V4 m) x=bif decide ((16:Int)<(m.ts.length:Int)) then 3 else bif decide ((32:Int)<(m.cs.length:Int)) then 3 else bif decide ((32:Int)<(m.rs.length:Int)) then 3 else bif decide ((32:Int)<(m.xs.length:Int)) then 3 else bif decide ((32:Int)<(m.ks.length:Int)) then 3 else x:=by unfold V4;cases decide ((16:Int)<(m.ts.length:Int))<;>cases decide ((32:Int)<(m.cs.length:Int))<;>cases decide ((32:Int)<(m.rs.length:Int))<;>cases decide ((32:Int)<(m.xs.length:Int))<;>cases decide ((32:Int)<(m.ks.length:Int))<;>rfl
theorem a5T (m:Mo) (h:mY m) (h2:m.cs.length+m.rs.length<=1000):SS.CC 14 [A0 (aS m)] []=bu (DW m):=by
 have hl:(m.cs ++ m.rs).length<=1000:=by rw[aU]; exact h2
 rw[b7T,XP (YR m.cs h.is.1),aQ (by grind [PZ])];rw[<- qZ,uJ (a'3 _ hl),uJ (a'5 _ h.ts.1),uJ (a'6 _ h.xs.1),uJ (a'4 _ h.ks.1)];have e:=OU [(49,[.cst (A0 (aS m))],bif !nameB m.n then 7 else 0),(52,[.cst (A0 (aS m))],Nw m.es),(54,[.cst (A0 (aS m))],V4 m),(55,[.cst (A0 (aS m)),.cst (bZW (aK (m.ts.map (·.n))))],WH m.ts),(62,[.cst (.sl false 3 ((m.cs ++ m.rs).map fD)),.cst (bZW (aK ((m.cs ++ m.rs).map (·.n))))],Ub (m.cs ++ m.rs)),(68,[.cst (A0 (aS m)),.cst (bZW (aK (m.xs.map (·.n))))],X5 m.xs),(76,[.cst (A0 (aS m)),.cst (bZW (aK (m.ks.map (·.n))))],Ul m.ks)] (by simp) (by
  intro f hf;simp only[kG,yw,yz] at hf;rcases hf with rfl | rfl | rfl | rfl | rfl | rfl | rfl
  .refine ⟨(bGK _).trans ?_,rfl⟩;rw[aZ (LD _ h.n),cZ (yg _ _)]
  .exact ⟨(bGM _).trans (cZ (acc _ h.es.1 h.es.2)),rfl⟩
  .exact ⟨lic m,rfl⟩
  .exact ⟨tsc m h,rfl⟩
  .exact ⟨bJG _ hl h.is.2.2,rfl⟩
  .exact ⟨xsc m h,rfl⟩
  .exact ⟨ksc m h,rfl⟩)
 refine (cZ e).trans ?_;show bu (sq _ (sq _ (sq _ (sq _ (sq _ (sq _ (sq _ 0)))))))=_;rw[QV,QW (by decide),bSV];rfl
section
def TZ:KT:=SS.rK Tryz.f26 26 0 []
def b5W:KT:=SS.jK 26 200 0 (cS Tryz.f26 15) TZ
def aJM:KT:=ak 0 b5W
def b6F:KT:=SS.lK 26 200 0 [1,3,25,26,27] 0 (cS Tryz.f26 75) aJM
def b6G:KT:=SS.jK 26 200 0 (cS Tryz.f26 971) b6F
def b6H:KT:=ak 1 b6G
def b6I:KT:=SS.jK 26 200 0 (cS Tryz.f26 15563) b6H
def b6J:KT:=ak 2 b6I
def b6K:KT:=SS.jK 26 200 0 (cS Tryz.f26 31) TZ
def b6L:KT:=ak 4 b6K
def b5X:KT:=SS.jK 26 200 0 (cS Tryz.f26 63) TZ
def aJK:KT:=ak 6 b5X
def b5Y:KT:=SS.lK 26 200 0 [1,3,88,89,90] 0 (cS Tryz.f26 303) aJK
def b5Z:KT:=SS.jK 26 200 0 (cS Tryz.f26 3887) b5Y
def b5':KT:=ak 7 b5Z
def b60:KT:=SS.jK 26 200 0 (cS Tryz.f26 127) TZ
def aJL:KT:=ak 8 b60
def b62:KT:=SS.lK 26 200 0 [1,3,116,117,118] 0 (cS Tryz.f26 607) aJL
def b63:KT:=SS.jK 26 200 0 (cS Tryz.f26 7775) b62
def b65:KT:=ak 9 b63
def b67:KT:=SS.jK 26 200 0 (cS Tryz.f26 124511) b65
def b68:KT:=ak 10 b67
def b69:KT:=SS.jK 26 200 0 (cS Tryz.f26 255) TZ
def aJN:KT:=ak 12 b69
def b6A:KT:=SS.lK 26 200 0 [3,153,154,155] 0 (cS Tryz.f26 1215) aJN
def b6B:KT:=SS.jK 26 200 0 (cS Tryz.f26 15551) b6A
def b6C:KT:=ak 13 b6B
def b6D:KT:=SS.jK 26 200 0 (cS Tryz.f26 249023) b6C
def b6E:KT:=ak 14 b6D
def KG (x1:Sh.V S0) (x3:bZZ) (x27:Int):R:=SS.LL (SS.ae 26 200) 0 [1,3,25,26,27] 0 (cS Tryz.f26 75) aJM ⟨[(1,.cst (A0 x1)),(3,.sl true 1 x3),(25,.sl false 5 x1.2.1),(26,bZV (x1.2.1.length:Int)),(27,bZV x27)],[]⟩
def AU (x1:Sh.V S0) (q0:Sh.V S4) (x3:bZZ) (xu:Int) (x27:Int):R:=SS.LL (SS.ae 26 200) 0 [1,3,5,25,26,27,42,43,44] 1 (cS Tryz.f26 77003) b6J ⟨[(1,.cst (A0 x1)),(3,.sl true 1 x3),(5,bZX),(25,.sl false 5 x1.2.1),(26,bZV (x1.2.1.length:Int)),(27,bZV x27),(42,.sl true 1 [.bool q0.2.1,.bool q0.2.2.1,.bool q0.2.2.2.1]),(43,bZV 3),(44,bZV xu)],[O4 q0]⟩
def KF (x1:Sh.V S0) (x3:bZZ) (iW:Int):R:=SS.LL (SS.ae 26 200) 0 [1,3,72,73,74] 0 (cS Tryz.f26 151) b6L ⟨[(1,.cst (A0 x1)),(3,.sl true 1 x3),(72,.sl false 9 x1.2.2.1),(73,bZV (x1.2.2.1.length:Int)),(74,bZV iW)],[]⟩
def Hr (x1:Sh.V S0) (x88:bZZ) (x89:Int) (x3:bZZ) (x90:Int):R:=SS.LL (SS.ae 26 200) 0 [1,3,88,89,90] 0 (cS Tryz.f26 303) aJK ⟨[(1,.cst (A0 x1)),(3,.sl true 1 x3),(88,.sl true 3 x88),(89,bZV x89),(90,bZV x90)],[]⟩
def ZU (x1:Sh.V S0) (x88:bZZ) (x89:Int) (q0:Sh.V S8) (x12:bZY) (x3:bZZ) (x90:Int):R:=bH (SS.xX 26 200 0) (cS Tryz.f26 62255) b5' ⟨[(1,.cst (A0 x1)),(3,.sl true 1 x3),(11,bZX),(12,.str x12),(88,.sl true 3 x88),(89,bZV x89),(90,bZV x90)],[O8 q0]⟩
def Ht (x1:Sh.V S0) (x3:bZZ) (Au:Int):R:=SS.LL (SS.ae 26 200) 0 [1,3,116,117,118] 0 (cS Tryz.f26 607) aJL ⟨[(1,.cst (A0 x1)),(3,.sl true 1 x3),(116,.sl false 2 x1.2.2.2.2.2.1),(117,bZV (x1.2.2.2.2.2.1.length:Int)),(118,bZV Au)],[]⟩
def Oj (x1:Sh.V S0) (MX:bZZ) (x3:bZZ) (JB:Int) (Au:Int):R:=SS.LL (SS.ae 26 200) 0 [1,3,116,117,118,128,129,130] 0 (cS Tryz.f26 616031) b68 ⟨[(1,.cst (A0 x1)),(3,.sl true 1 x3),(116,.sl false 2 x1.2.2.2.2.2.1),(117,bZV (x1.2.2.2.2.2.1.length:Int)),(118,bZV Au),(128,.sl false 2 MX),(129,bZV (MX.length:Int)),(130,bZV JB)],[]⟩
def Hu (x153:bZZ) (x3:bZZ) (Aw:Int):R:=SS.LL (SS.ae 26 200) 0 [3,153,154,155] 0 (cS Tryz.f26 1215) aJN ⟨[(3,.sl true 1 x3),(153,.sl false 3 x153),(154,bZV (x153.length:Int)),(155,bZV Aw)],[]⟩
def Ol (x153:bZZ) (q0:Sh.V iy) (x3:bZZ) (x167:Int) (Aw:Int):R:=SS.LL (SS.ae 26 200) 0 [3,18,153,154,155,165,166,167] 1 (cS Tryz.f26 1232063) b6E ⟨[(3,.sl true 1 x3),(18,bZX),(153,.sl false 3 x153),(154,bZV (x153.length:Int)),(155,bZV Aw),(165,.sl false 2 q0.2.1),(166,bZV (q0.2.1.length:Int)),(167,bZV x167)],[wu q0]⟩
theorem aJU (x1:Sh.V S0) (x3:bZZ) (x27:Int):KG x1 x3 x27=aA (decide (x27<(x1.2.1.length:Int))) (aj S4 x1.2.1 x27 fun u2=>chk (decide (x3.length+2<=aO)) (AU x1 u2 (x3 ++ ([.str ⟨#[101,118,101,110,116]⟩,.str u2.1]:bZZ)) 0 x27)) (KF x1 x3 0):=ll
theorem ZV (x1:Sh.V S0) (q0:Sh.V S4) (x3:bZZ) (xu:Int) (x27:Int):AU x1 q0 x3 xu x27=aA (decide (xu<3)) (bz [.bool q0.2.1,.bool q0.2.2.1,.bool q0.2.2.2.1] xu fun e1=>vB e1 fun b2=>aA b2 (bz [.str ⟨#[99,111,110,116,114,111,108,108,97,98,108,101]⟩,.str ⟨#[111,98,115,101,114,118,97,98,108,101]⟩,.str ⟨#[102,111,114,99,105,98,108,101]⟩] xu fun e3=>vS e3 fun s4=>chk (decide (x3.length+1<=aO)) (AU x1 q0 (x3 ++ ([.str s4]:bZZ)) (i64.wrap (xu+1)) x27)) (AU x1 q0 x3 (i64.wrap (xu+1)) x27)) (aA (decide (0<q0.2.2.2.2.1)) (G2 123 [bZV q0.2.2.2.2.1] fun s5=>chk (decide (x3.length+2<=aO)) (chk (decide ((x3 ++ ([.str ⟨#[102,97,117,108,116]⟩,.str s5]:bZZ)).length+1<=aO)) (KG x1 ((x3 ++ ([.str ⟨#[102,97,117,108,116]⟩,.str s5]:bZZ)) ++ ([.str ⟨#[59]⟩]:bZZ)) (i64.wrap (x27+1))))) (chk (decide (x3.length+1<=aO)) (KG x1 (x3 ++ ([.str ⟨#[59]⟩]:bZZ)) (i64.wrap (x27+1))))):=ll
theorem aJO (x1:Sh.V S0) (x3:bZZ) (iW:Int):KF x1 x3 iW=aA (decide (iW<(x1.2.2.1.length:Int))) (aj S5 x1.2.2.1 iW fun u2=>G4 124 [A5 u2] fun Ku=>chk (decide (x3.length+Ku.length<=aO)) (KF x1 (x3 ++ Ku) (i64.wrap (iW+1)))) (RP 39 [.sl false 3 x1.2.2.2.1] fun l13=>chk (decide (l13.length+x1.2.2.2.2.1.length<=aO)) (Hr x1 (l13 ++ x1.2.2.2.2.1) ((l13 ++ x1.2.2.2.2.1).length:Int) x3 0)):=ll
theorem aJP (x1:Sh.V S0) (x88:bZZ) (x89:Int) (x3:bZZ) (x90:Int):Hr x1 x88 x89 x3 x90=aA (decide (x90<x89)) (aj S8 x88 x90 fun u2=>aA (decide ((x1.2.2.2.1.length:Int)<=x90)) (ZU x1 x88 x89 u2 ⟨#[114,101,113,117,105,114,101,109,101,110,116]⟩ x3 x90) (ZU x1 x88 x89 u2 ⟨#[99,111,109,112,111,110,101,110,116]⟩ x3 x90)) (Ht x1 x3 0):=ll
theorem b5V (x1:Sh.V S0) (x88:bZZ) (x89:Int) (q0:Sh.V S8) (x12:bZY) (x3:bZZ) (x90:Int):ZU x1 x88 x89 q0 x12 x3 x90=chk (decide (x3.length+5<=aO)) (G4 125 [bZW q0.2.2.1] fun l1=>chk (decide ((x3 ++ ([.str x12,.str q0.1,.str ⟨#[61]⟩,.str q0.2.1,.str ⟨#[40]⟩]:bZZ)).length+l1.length<=aO)) (chk (decide (((x3 ++ ([.str x12,.str q0.1,.str ⟨#[61]⟩,.str q0.2.1,.str ⟨#[40]⟩]:bZZ)) ++ l1).length+2<=aO)) (Hr x1 x88 x89 (((x3 ++ ([.str x12,.str q0.1,.str ⟨#[61]⟩,.str q0.2.1,.str ⟨#[40]⟩]:bZZ)) ++ l1) ++ ([.str ⟨#[41]⟩,.str ⟨#[59]⟩]:bZZ)) (i64.wrap (x90+1))))):=by kernel_rfl
theorem aJQ (x1:Sh.V S0) (x3:bZZ) (Au:Int):Ht x1 x3 Au=aA (decide (Au<(x1.2.2.2.2.2.1.length:Int))) (aj jZ x1.2.2.2.2.2.1 Au fun u2=>chk (decide (x3.length+2<=aO)) (Oj x1 u2.2.1 (x3 ++ ([.str ⟨#[101,120,99,108,117,100,101]⟩,.str u2.1]:bZZ)) 0 Au)) (Hu x1.2.2.2.2.2.2.1 x3 0):=ll
theorem aJR (x1:Sh.V S0) (MX:bZZ) (x3:bZZ) (JB:Int) (Au:Int):Oj x1 MX x3 JB Au=aA (decide (JB<(MX.length:Int))) (aj AB MX JB fun u2=>bz [.str ⟨#[58]⟩,.str ⟨#[44]⟩] (if (1:Int)<JB then (1:Int) else JB) fun e4=>vS e4 fun s5=>chk (decide (x3.length+3<=aO)) (Oj x1 MX (x3 ++ ([.str s5,.str u2.1,.str u2.2.1]:bZZ)) (i64.wrap (JB+1)) Au)) (chk (decide (x3.length+1<=aO)) (Ht x1 (x3 ++ ([.str ⟨#[59]⟩]:bZZ)) (i64.wrap (Au+1)))):=ll
theorem aJS (x153:bZZ) (x3:bZZ) (Aw:Int):Hu x153 x3 Aw=aA (decide (Aw<(x153.length:Int))) (aj iy x153 Aw fun u2=>chk (decide (x3.length+2<=aO)) (Ol x153 u2 (x3 ++ ([.str ⟨#[108,105,109,105,116]⟩,.str u2.1]:bZZ)) 0 Aw)) (some (bZW x3,[])):=ll
theorem aJT (x153:bZZ) (q0:Sh.V iy) (x3:bZZ) (x167:Int) (Aw:Int):Ol x153 q0 x3 x167 Aw=aA (decide (x167<(q0.2.1.length:Int))) (aj BN q0.2.1 x167 fun u2=>bz [.str ⟨#[58]⟩,.str ⟨#[43]⟩] (if (1:Int)<x167 then (1:Int) else x167) fun e4=>vS e4 fun s5=>chk (decide (x3.length+1<=aO)) (G7 126 [bZV u2.2.1] fun l6=>chk (decide ((x3 ++ ([.str s5]:bZZ)).length+l6.length<=aO)) (chk (decide (((x3 ++ ([.str s5]:bZZ)) ++ l6).length+2<=aO)) (Ol x153 q0 (((x3 ++ ([.str s5]:bZZ)) ++ l6) ++ ([.str ⟨#[42]⟩,.str u2.1]:bZZ)) (i64.wrap (x167+1)) Aw)))) (chk (decide (x3.length+1<=aO)) (G7 126 [bZV q0.2.2.1] fun l8=>chk (decide ((x3 ++ ([.str ⟨#[60,61]⟩]:bZZ)).length+l8.length<=aO)) (chk (decide (((x3 ++ ([.str ⟨#[60,61]⟩]:bZZ)) ++ l8).length+1<=aO)) (Hu x153 (((x3 ++ ([.str ⟨#[60,61]⟩]:bZZ)) ++ l8) ++ ([.str ⟨#[59]⟩]:bZZ)) (i64.wrap (Aw+1)))))):=ll
theorem b6M (a0:Sh.V S0):SS.CC 26 [A0 a0] []=KG a0 [.str ⟨#[109,111,100,101,108]⟩,.str a0.1,.str ⟨#[59]⟩] 0:=cc
theorem b7B (a0:Sh.V S0):SS.CC 12 [A0 a0] []=G1 14 [A0 a0] fun n1=>aA (n1 != 0) (some (.tuple [.str ⟨#[]⟩,bZV n1],[])) (ah 30 [bZX,A0 a0] [aF ([],())] fun _ u3=>G0 27 [.sl false 5 u3.1] fun u6=>aA (u6.2.1.1 != 0) (some (.tuple [.str ⟨#[]⟩,bZV u6.2.1.1],[])) (aA (decide (65536<(u6.1.1.size:Int))) (some (.tuple [.str ⟨#[]⟩,bZV 15],[])) (some (.tuple [.str u6.1.1,bZV 0],[])))):=cc
theorem b8D (a0:Sh.V S0):SS.CC 10 [A0 a0] []=G4 26 [A0 a0] fun l1=>G2 25 [bZW l1,.str ⟨#[32]⟩] fun s3=>XQ 24 [.str s3] fun u5=>G0 27 [.sl false 5 u5.1.1] fun u10=>some (.str u10.1.1,[]):=cc
theorem bEB (a1:bZY) (UT:bZ'):SS.CC 121 [bZX,.str a1] [pK (UT,())]=H51 207 [bZX] [pK (UT,())] fun _ u1=>chk (decide (u1.1.length+a1.size<=aO)) (some (.tuple [bZV (a1.size:Int),.raw .nilIface],[pK ((u1.1 ++ a1.data.toList),())])):=cc
def a7S:KT:=SS.rK Tryz.f124 124 0 []
def bEE:KT:=SS.jK 124 170 0 (cS Tryz.f124 15) a7S
def aLX:KT:=ak 0 bEE
def bEJ:KT:=SS.lK 124 170 0 [1,3,23,24,25] 0 (cS Tryz.f124 75) aLX
def bEK:KT:=SS.jK 124 170 0 (cS Tryz.f124 971) bEJ
def bEL:KT:=ak 1 bEK
def bEM:KT:=SS.jK 124 170 0 (cS Tryz.f124 63) a7S
def bEN:KT:=ak 2 bEM
def bEO:KT:=SS.jK 124 170 0 (cS Tryz.f124 127) a7S
def aLY:KT:=ak 4 bEO
def bEF:KT:=SS.lK 124 170 0 [1,3,6,95,96,97] 0 (cS Tryz.f124 607) aLY
def bEG:KT:=SS.jK 124 170 0 (cS Tryz.f124 7775) bEF
def aLW:KT:=ak 5 bEG
def bEH:KT:=SS.jK 124 170 0 (cS Tryz.f124 255583) aLW
def bEI:KT:=ak 6 bEH
def Hy (x1:Sh.V S5) (x3:bZZ) (x25:Int):R:=SS.LL (SS.ae 124 170) 0 [1,3,23,24,25] 0 (cS Tryz.f124 75) aLX ⟨[(1,.cst (A5 x1)),(3,.sl true 1 x3),(23,bZW x1.2.1),(24,bZV (x1.2.1.length:Int)),(25,bZV x25)],[]⟩
def a04 (x1:Sh.V S5) (x3:bZZ) (x4:Int) (x25:Int):R:=bH (SS.xX 124 170 0) (cS Tryz.f124 15563) bEL ⟨[(1,.cst (A5 x1)),(3,.sl true 1 x3),(4,bZV x4),(23,bZW x1.2.1),(24,bZV (x1.2.1.length:Int)),(25,bZV x25)],[]⟩
def KL (x1:Sh.V S5) (x3:bZZ) (x6:bZZ) (Ql:Int):R:=SS.LL (SS.ae 124 170) 0 [1,3,6,56,57,58] 0 (cS Tryz.f124 303) bEN ⟨[(1,.cst (A5 x1)),(3,.sl true 1 x3),(6,.sl true 1 x6),(56,.sl false 4 x1.2.2.2.2.2.2.2.1),(57,bZV (x1.2.2.2.2.2.2.2.1.length:Int)),(58,bZV Ql)],[]⟩
def FB (x1:Sh.V S5) (x3:bZZ) (uk:Int) (x6:bZZ):R:=SS.LL (SS.ae 124 170) 0 [1,3,6,95,96,97] 0 (cS Tryz.f124 607) aLY ⟨[(1,.cst (A5 x1)),(3,.sl true 1 x3),(6,.sl true 1 x6),(95,.sl false 8 x1.2.2.2.2.2.2.2.2.1),(96,bZV (x1.2.2.2.2.2.2.2.2.1.length:Int)),(97,bZV uk)],[]⟩
def a03 (x1:Sh.V S5) (q0:Sh.V S9) (x3:bZZ) (x6:bZZ) (uk:Int):R:=bH (SS.xX 124 170 0) (cS Tryz.f124 124511) aLW ⟨[(1,.cst (A5 x1)),(3,.sl true 1 x3),(6,.sl true 1 x6),(10,bZX),(95,.sl false 8 x1.2.2.2.2.2.2.2.2.1),(96,bZV (x1.2.2.2.2.2.2.2.2.1.length:Int)),(97,bZV uk)],[O9 q0]⟩
def Om (x1:Sh.V S5) (x3:bZZ) (MZ:bZZ) (JC:Int) (x6:bZZ) (uk:Int):R:=SS.LL (SS.ae 124 170) 0 [1,3,6,95,96,97,136,137,138] 0 (cS Tryz.f124 1238623) bEI ⟨[(1,.cst (A5 x1)),(3,.sl true 1 x3),(6,.sl true 1 x6),(95,.sl false 8 x1.2.2.2.2.2.2.2.2.1),(96,bZV (x1.2.2.2.2.2.2.2.2.1.length:Int)),(97,bZV uk),(136,.sl false 5 MZ),(137,bZV (MZ.length:Int)),(138,bZV JC)],[]⟩
theorem aM1 (x1:Sh.V S5) (x3:bZZ) (x25:Int):Hy x1 x3 x25=aA (decide (x25<(x1.2.1.length:Int))) (bz x1.2.1 x25 fun e1=>vS e1 fun s2=>chk (decide (x3.length+2<=aO)) (aA (x25==x1.2.2.2.2.2.1) (chk (decide ((x3 ++ ([.str ⟨#[108,111,99,97,116,105,111,110]⟩,.str s2]:bZZ)).length+1<=aO)) (a04 x1 ((x3 ++ ([.str ⟨#[108,111,99,97,116,105,111,110]⟩,.str s2]:bZZ)) ++ ([.str ⟨#[105,110,105,116,105,97,108]⟩]:bZZ)) x25 x25)) (a04 x1 (x3 ++ ([.str ⟨#[108,111,99,97,116,105,111,110]⟩,.str s2]:bZZ)) x25 x25))) (KL x1 x3 [] 0):=ll
theorem bED (x1:Sh.V S5) (x3:bZZ) (x4:Int) (x25:Int):a04 x1 x3 x4 x25=G3 210 [bZW x1.2.2.2.2.2.2.1,bZV x4] fun b1=>aA b1 (chk (decide (x3.length+1<=aO)) (chk (decide ((x3 ++ ([.str ⟨#[109,97,114,107,101,100]⟩]:bZZ)).length+1<=aO)) (Hy x1 ((x3 ++ ([.str ⟨#[109,97,114,107,101,100]⟩]:bZZ)) ++ ([.str ⟨#[59]⟩]:bZZ)) (i64.wrap (x25+1))))) (chk (decide (x3.length+1<=aO)) (Hy x1 (x3 ++ ([.str ⟨#[59]⟩]:bZZ)) (i64.wrap (x25+1)))):=by kernel_rfl
theorem aLZ (x1:Sh.V S5) (x3:bZZ) (x6:bZZ) (Ql:Int):KL x1 x3 x6 Ql=aA (decide (Ql<(x1.2.2.2.2.2.2.2.1.length:Int))) (aj S7 x1.2.2.2.2.2.2.2.1 Ql fun u2=>chk (decide (x6.length+1<=aO)) (chk (decide (x3.length+3<=aO)) (G7 126 [bZV u2.2.1] fun l6=>chk (decide ((x3 ++ ([.str ⟨#[118,97,114]⟩,.str u2.1,.str ⟨#[58]⟩]:bZZ)).length+l6.length<=aO)) (chk (decide (((x3 ++ ([.str ⟨#[118,97,114]⟩,.str u2.1,.str ⟨#[58]⟩]:bZZ)) ++ l6).length+1<=aO)) (G7 126 [bZV u2.2.2.1] fun l8=>(fun w=>chk (decide (w.length+l8.length<=aO)) (chk (decide ((w ++ l8).length+1<=aO)) (G7 126 [bZV u2.2.2.2.1] fun l10=>chk (decide (((w ++ l8) ++ ([.str ⟨#[61]⟩]:bZZ)).length+l10.length<=aO)) (chk (decide ((((w ++ l8) ++ ([.str ⟨#[61]⟩]:bZZ)) ++ l10).length+1<=aO)) (KL x1 ((((w ++ l8) ++ ([.str ⟨#[61]⟩]:bZZ)) ++ l10) ++ ([.str ⟨#[59]⟩]:bZZ)) (x6 ++ ([.str u2.1]:bZZ)) (i64.wrap (Ql+1))))))) (((x3 ++ ([.str ⟨#[118,97,114]⟩,.str u2.1,.str ⟨#[58]⟩]:bZZ)) ++ l6) ++ ([.str ⟨#[46,46]⟩]:bZZ))))))) (FB x1 x3 0 x6):=ll
theorem aL' (x1:Sh.V S5) (x3:bZZ) (uk:Int) (x6:bZZ):FB x1 x3 uk x6=aA (decide (uk<(x1.2.2.2.2.2.2.2.2.1.length:Int))) (aj S9 x1.2.2.2.2.2.2.2.2.1 uk fun u2=>bz x1.2.1 u2.1 fun e10=>vS e10 fun s11=>bz x1.2.2.1 u2.2.1 fun e12=>vS e12 fun s13=>bz x1.2.1 u2.2.2.1 fun e14=>vS e14 fun s15=>chk (decide (x3.length+4<=aO)) (qM 133 [] fun u16=>G3 83 [A1 (u2.2.2.2.1,u2.2.2.2.2.1,u2.2.2.2.2.2.1,u2.2.2.2.2.2.2.1,()),A1 u16] fun SI=>(fun w=>aA (!SI) (chk (decide (w.length+1<=aO)) (G7 211 [bZW x6,A1 (u2.2.2.2.1,u2.2.2.2.2.1,u2.2.2.2.2.2.1,u2.2.2.2.2.2.2.1,()),bZV 0] fun l23=>chk (decide ((w ++ ([.str ⟨#[119,104,101,110]⟩]:bZZ)).length+l23.length<=aO)) (a03 x1 u2 ((w ++ ([.str ⟨#[119,104,101,110]⟩]:bZZ)) ++ l23) x6 uk))) (a03 x1 u2 w x6 uk)) (x3 ++ ([.str ⟨#[101,100,103,101]⟩,.str s11,.str s13,.str s15]:bZZ)))) (chk (decide (x3.length+1<=aO)) (some (bZW (x3 ++ ([.str ⟨#[125]⟩]:bZZ)),[]))):=ll
theorem bEC (x1:Sh.V S5) (q0:Sh.V S9) (x3:bZZ) (x6:bZZ) (uk:Int):a03 x1 q0 x3 x6 uk=Om x1 x3 q0.2.2.2.2.2.2.2.1 0 x6 uk:=by kernel_rfl
theorem aM0 (x1:Sh.V S5) (x3:bZZ) (MZ:bZZ) (JC:Int) (x6:bZZ) (uk:Int):Om x1 x3 MZ JC x6 uk=aA (decide (JC<(MZ.length:Int))) (aj qO MZ JC fun u2=>bz [.str ⟨#[100,111]⟩,.str ⟨#[44]⟩] (if (1:Int)<JC then (1:Int) else JC) fun e7=>vS e7 fun s8=>bz x6 u2.1 fun e9=>vS e9 fun s10=>chk (decide (x3.length+3<=aO)) (G7 211 [bZW x6,A1 (u2.2.1,u2.2.2.1,u2.2.2.2.1,u2.2.2.2.2.1,()),bZV 0] fun Ku=>chk (decide ((x3 ++ ([.str s8,.str s10,.str ⟨#[58,61]⟩]:bZZ)).length+Ku.length<=aO)) (Om x1 ((x3 ++ ([.str s8,.str s10,.str ⟨#[58,61]⟩]:bZZ)) ++ Ku) MZ (i64.wrap (JC+1)) x6 uk))) (chk (decide (x3.length+1<=aO)) (FB x1 (x3 ++ ([.str ⟨#[59]⟩]:bZZ)) (i64.wrap (uk+1)) x6)):=ll
theorem bEP (a0:Sh.V S5):SS.CC 124 [A5 a0] []=G4 125 [bZW a0.2.2.1] fun l1=>chk (decide (3+l1.length<=aO)) (chk (decide ((([.str ⟨#[116,101,109,112,108,97,116,101]⟩,.str a0.1,.str ⟨#[40]⟩]:bZZ) ++ l1).length+2<=aO)) (Hy a0 ((([.str ⟨#[116,101,109,112,108,97,116,101]⟩,.str a0.1,.str ⟨#[40]⟩]:bZZ) ++ l1) ++ ([.str ⟨#[41]⟩,.str ⟨#[123]⟩]:bZZ)) 0)):=cc
def bEQ:KT:=SS.rK Tryz.f125 125 0 []
def bER:KT:=SS.jK 125 24 0 (cS Tryz.f125 15) bEQ
def bES:KT:=ak 0 bER
def Oo (x6:bZZ) (x3:bZZ) (x8:Int):R:=SS.LL (SS.ae 125 24) 0 [3,6,7,8] 0 (cS Tryz.f125 75) bES ⟨[(3,.sl true 1 x3),(6,bZW x6),(7,bZV (x6.length:Int)),(8,bZV x8)],[]⟩
theorem aM2 (x6:bZZ) (x3:bZZ) (x8:Int):Oo x6 x3 x8=aA (decide (x8<(x6.length:Int))) (bz x6 x8 fun e1=>vS e1 fun s2=>aA (decide (0<x8)) (chk (decide (x3.length+1<=aO)) (chk (decide ((x3 ++ ([.str ⟨#[44]⟩]:bZZ)).length+1<=aO)) (Oo x6 ((x3 ++ ([.str ⟨#[44]⟩]:bZZ)) ++ ([.str s2]:bZZ)) (i64.wrap (x8+1))))) (chk (decide (x3.length+1<=aO)) (Oo x6 (x3 ++ ([.str s2]:bZZ)) (i64.wrap (x8+1))))) (some (bZW x3,[])):=ll
theorem bET (a0:bZZ):SS.CC 125 [bZW a0] []=Oo a0 [] 0:=cc
def UJ:KT:=SS.rK Tryz.f30 30 1 []
def bEV:KT:=SS.jK 30 179 1 (cS Tryz.f30 31) UJ
def aM4:KT:=ak 0 bEV
def bF3:KT:=SS.lK 30 179 1 [2,3,27,28,29] 2 (cS Tryz.f30 151) aM4
def bF4:KT:=SS.jK 30 179 1 (cS Tryz.f30 1943) bF3
def bF5:KT:=ak 1 bF4
def bF6:KT:=SS.jK 30 179 1 (cS Tryz.f30 31127) bF5
def bF7:KT:=ak 2 bF6
def bF8:KT:=SS.jK 30 179 1 (cS Tryz.f30 63) UJ
def bF9:KT:=ak 4 bF8
def bEW:KT:=SS.jK 30 179 1 (cS Tryz.f30 127) UJ
def aM3:KT:=ak 6 bEW
def bEX:KT:=SS.lK 30 179 1 [2,3,86,87] 2 (cS Tryz.f30 607) aM3
def bEY:KT:=SS.jK 30 179 1 (cS Tryz.f30 7775) bEX
def bEZ:KT:=ak 7 bEY
def bE':KT:=ak 8 bEZ
def bF0:KT:=SS.jK 30 179 1 (cS Tryz.f30 255) UJ
def bF1:KT:=ak 10 bF0
def bF2:KT:=ak 12 UJ
def Ov (x3:Sh.V S0) (aJ:bZZ) (x29:Int):R:=SS.LL (SS.ae 30 179) 1 [2,3,27,28,29] 2 (cS Tryz.f30 151) aM4 ⟨[(2,.ptr 1 0),(3,.cst (A0 x3)),(27,.sl false 5 x3.2.1),(28,bZV (x3.2.1.length:Int)),(29,bZV x29)],[aF (aJ,()),some [bZX]]⟩
def kV (x3:Sh.V S0) (aJ:bZZ) (q2:Sh.V S4) (jd:Int) (x29:Int):R:=SS.LL (SS.ae 30 179) 1 [2,3,5,27,28,29,44,45] 3 (cS Tryz.f30 154007) bF7 ⟨[(2,.ptr 1 0),(3,.cst (A0 x3)),(5,.ptr 2 0),(27,.sl false 5 x3.2.1),(28,bZV (x3.2.1.length:Int)),(29,bZV x29),(44,A35 (q2.2.1,q2.2.2.1,q2.2.2.2.1,())),(45,bZV jd)],[aF (aJ,()),some [bZX],O4 q2]⟩
def Oq (x3:Sh.V S0) (aJ:bZZ) (iW:Int):R:=SS.LL (SS.ae 30 179) 1 [2,3,72,73,74] 2 (cS Tryz.f30 303) bF9 ⟨[(2,.ptr 1 0),(3,.cst (A0 x3)),(72,.sl false 9 x3.2.2.1),(73,bZV (x3.2.2.1.length:Int)),(74,bZV iW)],[aF (aJ,()),some [bZX]]⟩
def FC (x3:Sh.V S0) (aJ:bZZ) (x87:Int):R:=SS.LL (SS.ae 30 179) 1 [2,3,86,87] 2 (cS Tryz.f30 607) aM3 ⟨[(2,.ptr 1 0),(3,.cst (A0 x3)),(86,A34 (x3.2.2.2.1,x3.2.2.2.2.1,())),(87,bZV x87)],[aF (aJ,()),some [bZX]]⟩
def zN (x3:Sh.V S0) (aJ:bZZ) (x93:Int) (x91:bZZ) (x10:Int) (x87:Int) (Qn:Int):R:=SS.LL (SS.ae 30 179) 1 [2,3,10,86,87,91,92,93] 2 (cS Tryz.f30 157279) bE' ⟨[(2,.ptr 1 0),(3,.cst (A0 x3)),(10,bZV x10),(86,A34 (x3.2.2.2.1,x3.2.2.2.2.1,())),(87,bZV x87),(91,.sl false 3 x91),(92,bZV Qn),(93,bZV x93)],[aF (aJ,()),some [bZX]]⟩
def Ot (x3:Sh.V S0) (aJ:bZZ) (Qk:Int):R:=SS.LL (SS.ae 30 179) 1 [2,3,123,124,125] 2 (cS Tryz.f30 1215) bF1 ⟨[(2,.ptr 1 0),(3,.cst (A0 x3)),(123,.sl false 2 x3.2.2.2.2.2.1),(124,bZV (x3.2.2.2.2.2.1.length:Int)),(125,bZV Qk)],[aF (aJ,()),some [bZX]]⟩
def Ou (Md:bZZ) (aJ:bZZ) (x150:Int):R:=SS.LL (SS.ae 30 179) 1 [2,148,149,150] 2 (cS Tryz.f30 1279) bF2 ⟨[(2,.ptr 1 0),(148,.sl false 3 Md),(149,bZV (Md.length:Int)),(150,bZV x150)],[aF (aJ,()),some [bZX]]⟩
theorem aM8 (x3:Sh.V S0) (aJ:bZZ) (x29:Int):Ov x3 aJ x29=aA (decide (x29<(x3.2.1.length:Int))) (aj S4 x3.2.1 x29 fun u2=>ah 135 [bZX,bZW [.str ⟨#[101,118,101,110,116]⟩,.str u2.1]] [aF (aJ,())] fun _ u7=>kV x3 u7.1 u2 0 x29) (Oq x3 aJ 0):=ll
theorem a06 (x3:Sh.V S0) (aJ:bZZ) (q2:Sh.V S4) (jd:Int) (x29:Int):kV x3 aJ q2 jd x29=aA (decide (jd<3)) (chk (decide (0<=jd)&&decide (jd<(3:Int))) (aA (jd==0) (aA q2.2.1 (chk (decide (0<=jd)&&decide (jd<(3:Int))) (aA (jd==0) (ah 135 [bZX,bZW [.str ⟨#[99,111,110,116,114,111,108,108,97,98,108,101]⟩]] [aF (aJ,())] fun _ u25=>kV x3 u25.1 q2 (i64.wrap (jd+1)) x29) (aA (jd==1) (ah 135 [bZX,bZW [.str ⟨#[111,98,115,101,114,118,97,98,108,101]⟩]] [aF (aJ,())] fun _ u22=>kV x3 u22.1 q2 (i64.wrap (jd+1)) x29) (aA (jd==2) (ah 135 [bZX,bZW [.str ⟨#[102,111,114,99,105,98,108,101]⟩]] [aF (aJ,())] fun _ uD=>kV x3 uD.1 q2 (i64.wrap (jd+1)) x29) (none))))) (kV x3 aJ q2 (i64.wrap (jd+1)) x29)) (aA (jd==1) (aA q2.2.2.1 (chk (decide (0<=jd)&&decide (jd<(3:Int))) (aA (jd==0) (ah 135 [bZX,bZW [.str ⟨#[99,111,110,116,114,111,108,108,97,98,108,101]⟩]] [aF (aJ,())] fun _ u16=>kV x3 u16.1 q2 (i64.wrap (jd+1)) x29) (aA (jd==1) (ah 135 [bZX,bZW [.str ⟨#[111,98,115,101,114,118,97,98,108,101]⟩]] [aF (aJ,())] fun _ u13=>kV x3 u13.1 q2 (i64.wrap (jd+1)) x29) (aA (jd==2) (ah 135 [bZX,bZW [.str ⟨#[102,111,114,99,105,98,108,101]⟩]] [aF (aJ,())] fun _ u10=>kV x3 u10.1 q2 (i64.wrap (jd+1)) x29) (none))))) (kV x3 aJ q2 (i64.wrap (jd+1)) x29)) (aA (jd==2) (aA q2.2.2.2.1 (chk (decide (0<=jd)&&decide (jd<(3:Int))) (aA (jd==0) (ah 135 [bZX,bZW [.str ⟨#[99,111,110,116,114,111,108,108,97,98,108,101]⟩]] [aF (aJ,())] fun _ u7=>kV x3 u7.1 q2 (i64.wrap (jd+1)) x29) (aA (jd==1) (ah 135 [bZX,bZW [.str ⟨#[111,98,115,101,114,118,97,98,108,101]⟩]] [aF (aJ,())] fun _ u4=>kV x3 u4.1 q2 (i64.wrap (jd+1)) x29) (aA (jd==2) (ah 135 [bZX,bZW [.str ⟨#[102,111,114,99,105,98,108,101]⟩]] [aF (aJ,())] fun _ u1=>kV x3 u1.1 q2 (i64.wrap (jd+1)) x29) (none))))) (kV x3 aJ q2 (i64.wrap (jd+1)) x29)) (none))))) (aA (q2.2.2.2.2.1 != 0) (ah 135 [bZX,bZW [.str ⟨#[102,97,117,108,116]⟩]] [aF (aJ,())] fun _ u28=>ah 137 [bZX,bZV q2.2.2.2.2.1] [aF u28] fun _ u31=>ah 136 [bZX,bZW [.str ⟨#[59]⟩]] [aF u31] fun _ u34=>Ov x3 u34.1 (i64.wrap (x29+1))) (ah 136 [bZX,bZW [.str ⟨#[59]⟩]] [aF (aJ,())] fun _ u37=>Ov x3 u37.1 (i64.wrap (x29+1)))):=ll
theorem aM5 (x3:Sh.V S0) (aJ:bZZ) (iW:Int):Oq x3 aJ iW=aA (decide (iW<(x3.2.2.1.length:Int))) (aj S5 x3.2.2.1 iW fun u2=>ah 138 [bZX,A5 u2] [aF (aJ,())] fun _ u11=>Oq x3 u11.1 (i64.wrap (iW+1))) (FC x3 aJ 0):=ll
theorem a7T (x3:Sh.V S0) (aJ:bZZ) (x87:Int):FC x3 aJ x87=aA (decide (x87<2)) (chk (decide (0<=x87)&&decide (x87<(2:Int))) (aA (x87==0) (zN x3 aJ 0 x3.2.2.2.1 x87 x87 (x3.2.2.2.1.length:Int)) (aA (x87==1) (zN x3 aJ 0 x3.2.2.2.2.1 x87 x87 (x3.2.2.2.2.1.length:Int)) (none)))) (Ot x3 aJ 0):=ll
theorem a05 (x3:Sh.V S0) (aJ:bZZ) (x93:Int) (x91:bZZ) (x10:Int) (x87:Int) (Qn:Int):zN x3 aJ x93 x91 x10 x87 Qn=aA (decide (x93<Qn)) (aj S8 x91 x93 fun u2=>chk (decide (0<=x10)&&decide (x10<(2:Int))) (aA (x10==0) (ah 135 [bZX,bZW [.str ⟨#[99,111,109,112,111,110,101,110,116]⟩,.str u2.1]] [aF (aJ,())] fun _ u20=>ah 136 [bZX,bZW [.str ⟨#[61]⟩]] [aF u20] fun _ u23=>ah 135 [bZX,bZW [.str u2.2.1]] [aF u23] fun _ u26=>ah 139 [bZX,bZW u2.2.2.1] [aF u26] fun _ u29=>ah 136 [bZX,bZW [.str ⟨#[59]⟩]] [aF u29] fun _ u32=>zN x3 u32.1 (i64.wrap (x93+1)) x91 x10 x87 Qn) (aA (x10==1) (ah 135 [bZX,bZW [.str ⟨#[114,101,113,117,105,114,101,109,101,110,116]⟩,.str u2.1]] [aF (aJ,())] fun _ u5=>ah 136 [bZX,bZW [.str ⟨#[61]⟩]] [aF u5] fun _ u8=>ah 135 [bZX,bZW [.str u2.2.1]] [aF u8] fun _ u11=>ah 139 [bZX,bZW u2.2.2.1] [aF u11] fun _ u14=>ah 136 [bZX,bZW [.str ⟨#[59]⟩]] [aF u14] fun _ wV=>zN x3 wV.1 (i64.wrap (x93+1)) x91 x10 x87 Qn) (none)))) (FC x3 aJ (i64.wrap (x87+1))):=ll
theorem aM6 (x3:Sh.V S0) (aJ:bZZ) (Qk:Int):Ot x3 aJ Qk=aA (decide (Qk<(x3.2.2.2.2.2.1.length:Int))) (aj jZ x3.2.2.2.2.2.1 Qk fun u2=>ah 135 [bZX,bZW [.str ⟨#[101,120,99,108,117,100,101]⟩,.str u2.1]] [aF (aJ,())] fun _ u4=>ah 136 [bZX,bZW [.str ⟨#[58]⟩]] [aF u4] fun _ u7=>H28 140 [bZX,bZV (u2.2.1.length:Int),.str ⟨#[44]⟩,.func (.func 141) [] [.ptr 1 0,.ptr 2 0]] [aF u7,some [bZX],y7 u2] fun _ u10 u11=>ah 136 [bZX,bZW [.str ⟨#[59]⟩]] [aF u10] fun _ u15=>Ot x3 u15.1 (i64.wrap (Qk+1))) (Ou x3.2.2.2.2.2.2.1 aJ 0):=ll
theorem aM7 (Md:bZZ) (aJ:bZZ) (x150:Int):Ou Md aJ x150=aA (decide (x150<(Md.length:Int))) (aj iy Md x150 fun u2=>ah 135 [bZX,bZW [.str ⟨#[108,105,109,105,116]⟩,.str u2.1]] [aF (aJ,())] fun _ u5=>ah 136 [bZX,bZW [.str ⟨#[58]⟩]] [aF u5] fun _ u8=>H29 140 [bZX,bZV (u2.2.1.length:Int),.str ⟨#[43]⟩,.func (.func 142) [] [.ptr 1 0,.ptr 2 0]] [aF u8,some [bZX],wu u2] fun _ u11 u12=>ah 136 [bZX,bZW [.str ⟨#[60,61]⟩]] [aF u11] fun _ wV=>ah 137 [bZX,bZV u12.2.2.1] [aF wV] fun _ u20=>ah 136 [bZX,bZW [.str ⟨#[59]⟩]] [aF u20] fun _ u23=>Ou Md u23.1 (i64.wrap (x150+1))) (some (.tuple [],[aF (aJ,())])):=ll
theorem bFA (a1:Sh.V S0) (bf:bZZ):SS.CC 30 [bZX,A0 a1] [aF (bf,())]=ah 135 [bZX,bZW [.str ⟨#[109,111,100,101,108]⟩,.str a1.1]] [aF (bf,())] fun _ u1=>ah 136 [bZX,bZW [.str ⟨#[59]⟩]] [aF u1] fun _ u4=>Ov a1 u4.1 0:=cc
def bFD:KT:=SS.rK Tryz.f27 27 0 []
def bFE:KT:=SS.jK 27 83 0 (cS Tryz.f27 255) bFD
def aM9:KT:=ak 0 bFE
def bFF:KT:=SS.lK 27 83 0 [6,7,8,9,10,23,24,25] 2 (cS Tryz.f27 1215) aM9
def bFG:KT:=SS.jK 27 83 0 (cS Tryz.f27 15551) bFF
def aMA:KT:=ak 1 bFG
def zO (mQ:bZZ) (x7:Int) (x9:bZY) (x25:Int) (qm:bZ') (eQ:Bool):R:=SS.LL (SS.ae 27 83) 0 [6,7,8,9,10,23,24,25] 2 (cS Tryz.f27 1215) aM9 ⟨[(6,bZX),(7,bZV x7),(8,.ptr 1 0),(9,.str x9),(10,.func (.func 127) [] [.ptr 1 0,bZX]),(23,.sl false 5 mQ),(24,bZV (mQ.length:Int)),(25,bZV x25)],[pK (qm,()),nM (eQ,())]⟩
def a07 (mQ:bZZ) (qm:bZ') (eQ:Bool) (q2:Sh.V lm) (x7:Int) (x9:bZY) (x25:Int):R:=bH (SS.xX 27 83 0) (cS Tryz.f27 117951) aMA ⟨[(6,bZX),(7,bZV x7),(8,.ptr 1 0),(9,.str x9),(10,.func (.func 127) [] [.ptr 1 0,bZX]),(12,.ptr 2 0),(23,.sl false 5 mQ),(24,bZV (mQ.length:Int)),(25,bZV x25)],[pK (qm,()),nM (eQ,()),O30 q2]⟩
def FD (mQ:bZZ) (qm:bZ') (eQ:Bool) (q2:Sh.V lm) (x7:Int) (x25:Int):R:=bH (SS.xX 27 83 0) (cS Tryz.f27 249023) aMA ⟨[(6,bZX),(7,bZV x7),(8,.ptr 1 0),(10,.func (.func 127) [] [.ptr 1 0,bZX]),(12,.ptr 2 0),(23,.sl false 5 mQ),(24,bZV (mQ.length:Int)),(25,bZV x25)],[pK (qm,()),nM (eQ,()),O30 q2]⟩
theorem aMB (mQ:bZZ) (x7:Int) (x9:bZY) (x25:Int) (qm:bZ') (eQ:Bool):zO mQ x7 x9 x25 qm eQ=aA (decide (x25<(mQ.length:Int))) (aj lm mQ x25 fun u2=>aA (u2.2.1.toList==(⟨#[125]⟩:bZY).toList) (NW 127 [bZX,.ptr 1 0] [nM (eQ,()),BM (qm,())] fun _ u7 u8=>a07 mQ u8.1 u7.1 u2 (if (0:Int)>(i64.wrap (x7-1)) then (0:Int) else (i64.wrap (x7-1))) x9 x25) (a07 mQ qm eQ u2 x7 x9 x25)) (NW 127 [bZX,.ptr 1 0] [nM (eQ,()),BM (qm,())] fun _ u11 u12=>H31 122 [bZX] [pK u12] fun s15 u16=>some (.tuple [.str s15,bZV 0],[])):=ll
theorem bFB (mQ:bZZ) (qm:bZ') (eQ:Bool) (q2:Sh.V lm) (x7:Int) (x9:bZY) (x25:Int):a07 mQ qm eQ q2 x7 x9 x25=aA eQ (G2 130 [.str ⟨#[32,32]⟩,bZV x7] fun s1=>H32 121 [bZX,.str s1] [pK (qm,())] fun u3 u4=>FD mQ u4.1 eQ q2 x7 x25) (aA (!(q2.2.1.toList==(⟨#[44]⟩:bZY).toList)) (aA (!(q2.2.1.toList==(⟨#[59]⟩:bZY).toList)) (aA (!(q2.2.1.toList==(⟨#[41]⟩:bZY).toList)) (aA (!(x9.toList==(⟨#[40]⟩:bZY).toList)) (H33 128 [bZX,.int .u8 32] [pK (qm,())] fun u7=>FD mQ u7.1 eQ q2 x7 x25) (FD mQ qm eQ q2 x7 x25)) (FD mQ qm eQ q2 x7 x25)) (FD mQ qm eQ q2 x7 x25)) (FD mQ qm eQ q2 x7 x25)):=by kernel_rfl
theorem bFC (mQ:bZZ) (qm:bZ') (eQ:Bool) (q2:Sh.V lm) (x7:Int) (x25:Int):FD mQ qm eQ q2 x7 x25=H32 121 [bZX,.str q2.2.1] [pK (qm,())] fun u1 u2=>aA (q2.2.1.toList==(⟨#[123]⟩:bZY).toList) (NW 127 [bZX,.ptr 1 0] [nM (false,()),BM u2] fun _ u5 u6=>zO mQ (i64.wrap (x7+1)) q2.2.1 (i64.wrap (x25+1)) u6.1 u5.1) (aA (q2.2.1.toList==(⟨#[125]⟩:bZY).toList) (NW 127 [bZX,.ptr 1 0] [nM (false,()),BM u2] fun _ u9 u10=>zO mQ x7 q2.2.1 (i64.wrap (x25+1)) u10.1 u9.1) (aA (q2.2.1.toList==(⟨#[59]⟩:bZY).toList) (NW 127 [bZX,.ptr 1 0] [nM (false,()),BM u2] fun _ u13 u14=>zO mQ x7 q2.2.1 (i64.wrap (x25+1)) u14.1 u13.1) (zO mQ x7 q2.2.1 (i64.wrap (x25+1)) u2.1 false))):=by kernel_rfl
theorem aMC (a0:bZZ):SS.CC 27 [.sl false 5 a0] []=G0 113 [.sl false 5 a0] fun u1=>aA (u1.2.1.1 != 0) (some (.tuple [.str ⟨#[]⟩,bZV u1.2.1.1],[])) (NR 129 [.sl false 5 a0] fun l4=>zO l4 0 ⟨#[]⟩ 0 [] true):=cc
theorem b59 (a0:bZZ) (a1:Int):SS.CC 210 [bZW a0,bZV a1] []=G1 273 [bZW a0,bZV a1] fun n1=>some (.bool (decide (0<=n1)),[]):=cc
def a6X:KT:=SS.rK Tryz.f138 138 1 []
def b5K:KT:=SS.jK 138 157 1 (cS Tryz.f138 255) a6X
def aJF:KT:=ak 0 b5K
def b5N:KT:=SS.lK 138 157 1 [2,3,4,5,30,31,32] 4 (cS Tryz.f138 1215) aJF
def b5O:KT:=SS.jK 138 157 1 (cS Tryz.f138 15551) b5N
def b5P:KT:=ak 1 b5O
def b5Q:KT:=SS.jK 138 157 1 (cS Tryz.f138 511) a6X
def b5R:KT:=ak 2 b5Q
def b5S:KT:=SS.jK 138 157 1 (cS Tryz.f138 1023) a6X
def aJG:KT:=ak 4 b5S
def b5L:KT:=SS.lK 138 157 1 [2,3,5,97,98,99] 4 (cS Tryz.f138 4863) aJG
def b5M:KT:=SS.jK 138 157 1 (cS Tryz.f138 62207) b5L
def aJE:KT:=ak 5 b5M
def KE (x3:bZY) (iZ:bZZ) (jc:bZZ) (q2:Sh.V S6) (aJ:bZZ) (dJ:bZZ) (x32:Int):R:=SS.LL (SS.ae 138 157) 1 [2,3,4,5,30,31,32] 4 (cS Tryz.f138 1215) aJF ⟨[(2,.ptr 1 0),(3,.cst (A5 (x3,iZ,jc,q2.1,q2.2.1,q2.2.2.1,q2.2.2.2.1,q2.2.2.2.2.1,q2.2.2.2.2.2.1,()))),(4,.ptr 2 0),(5,.ptr 3 0),(30,bZW iZ),(31,bZV (iZ.length:Int)),(32,bZV x32)],[aF (aJ,()),some [bZX],O6 q2,iw (dJ,())]⟩
def ZQ (x3:bZY) (iZ:bZZ) (jc:bZZ) (q2:Sh.V S6) (aJ:bZZ) (dJ:bZZ) (x6:Int) (x32:Int):R:=bH (SS.xX 138 157 1) (cS Tryz.f138 249023) b5P ⟨[(2,.ptr 1 0),(3,.cst (A5 (x3,iZ,jc,q2.1,q2.2.1,q2.2.2.1,q2.2.2.2.1,q2.2.2.2.2.1,q2.2.2.2.2.2.1,()))),(4,.ptr 2 0),(5,.ptr 3 0),(6,bZV x6),(30,bZW iZ),(31,bZV (iZ.length:Int)),(32,bZV x32)],[aF (aJ,()),some [bZX],O6 q2,iw (dJ,())]⟩
def Oi (x3:bZY) (iZ:bZZ) (jc:bZZ) (q2:Sh.V S6) (aJ:bZZ) (dJ:bZZ) (Qm:Int):R:=SS.LL (SS.ae 138 157) 1 [2,3,4,5,60,61,62] 4 (cS Tryz.f138 2431) b5R ⟨[(2,.ptr 1 0),(3,.cst (A5 (x3,iZ,jc,q2.1,q2.2.1,q2.2.2.1,q2.2.2.2.1,q2.2.2.2.2.1,q2.2.2.2.2.2.1,()))),(4,.ptr 2 0),(5,.ptr 3 0),(60,.sl false 4 q2.2.2.2.2.1),(61,bZV (q2.2.2.2.2.1.length:Int)),(62,bZV Qm)],[aF (aJ,()),some [bZX],O6 q2,iw (dJ,())]⟩
def F8 (x3:bZY) (iZ:bZZ) (jc:bZZ) (q2:Sh.V S6) (aJ:bZZ) (dJ:bZZ) (x99:Int):R:=SS.LL (SS.ae 138 157) 1 [2,3,5,97,98,99] 4 (cS Tryz.f138 4863) aJG ⟨[(2,.ptr 1 0),(3,.cst (A5 (x3,iZ,jc,q2.1,q2.2.1,q2.2.2.1,q2.2.2.2.1,q2.2.2.2.2.1,q2.2.2.2.2.2.1,()))),(5,.ptr 3 0),(97,.sl false 8 q2.2.2.2.2.2.1),(98,bZV (q2.2.2.2.2.2.1.length:Int)),(99,bZV x99)],[aF (aJ,()),some [bZX],O6 q2,iw (dJ,())]⟩
def ZR (x3:bZY) (iZ:bZZ) (jc:bZZ) (q2:Sh.V S6) (aJ:bZZ) (dJ:bZZ) (q4:Sh.V S9) (x99:Int):R:=bH (SS.xX 138 157 1) (cS Tryz.f138 996095) aJE ⟨[(2,.ptr 1 0),(3,.cst (A5 (x3,iZ,jc,q2.1,q2.2.1,q2.2.2.1,q2.2.2.2.1,q2.2.2.2.2.1,q2.2.2.2.2.2.1,()))),(5,.ptr 3 0),(11,.ptr 4 0),(97,.sl false 8 q2.2.2.2.2.2.1),(98,bZV (q2.2.2.2.2.2.1.length:Int)),(99,bZV x99)],[aF (aJ,()),some [bZX],O6 q2,iw (dJ,()),O9 q4]⟩
def ZT (x3:bZY) (iZ:bZZ) (jc:bZZ) (q2:Sh.V S6) (aJ:bZZ) (dJ:bZZ) (q4:Sh.V S9) (x99:Int):R:=bH (SS.xX 138 157 1) (cS Tryz.f138 2044671) aJE ⟨[(2,.ptr 1 0),(3,.cst (A5 (x3,iZ,jc,q2.1,q2.2.1,q2.2.2.1,q2.2.2.2.1,q2.2.2.2.2.1,q2.2.2.2.2.2.1,()))),(5,.ptr 3 0),(11,.ptr 4 0),(97,.sl false 8 q2.2.2.2.2.2.1),(98,bZV (q2.2.2.2.2.2.1.length:Int)),(99,bZV x99)],[aF (aJ,()),some [bZX],O6 q2,iw (dJ,()),O9 q4]⟩
theorem aJJ (x3:bZY) (iZ:bZZ) (jc:bZZ) (q2:Sh.V S6) (aJ:bZZ) (dJ:bZZ) (x32:Int):KE x3 iZ jc q2 aJ dJ x32=aA (decide (x32<(iZ.length:Int))) (bz iZ x32 fun e1=>vS e1 fun s2=>ah 135 [bZX,bZW [.str ⟨#[108,111,99,97,116,105,111,110]⟩,.str s2]] [aF (aJ,())] fun _ u3=>aA (x32==q2.2.2.1) (ah 135 [bZX,bZW [.str ⟨#[105,110,105,116,105,97,108]⟩]] [aF u3] fun _ u6=>ZQ x3 iZ jc q2 u6.1 dJ x32 x32) (ZQ x3 iZ jc q2 u3.1 dJ x32 x32)) (Oi x3 iZ jc q2 aJ dJ 0):=ll
theorem b5H (x3:bZY) (iZ:bZZ) (jc:bZZ) (q2:Sh.V S6) (aJ:bZZ) (dJ:bZZ) (x6:Int) (x32:Int):ZQ x3 iZ jc q2 aJ dJ x6 x32=G3 210 [bZW q2.2.2.2.1,bZV x6] fun b1=>aA b1 (ah 135 [bZX,bZW [.str ⟨#[109,97,114,107,101,100]⟩]] [aF (aJ,())] fun _ u3=>ah 136 [bZX,bZW [.str ⟨#[59]⟩]] [aF u3] fun _ u6=>KE x3 iZ jc q2 u6.1 dJ (i64.wrap (x32+1))) (ah 136 [bZX,bZW [.str ⟨#[59]⟩]] [aF (aJ,())] fun _ u9=>KE x3 iZ jc q2 u9.1 dJ (i64.wrap (x32+1))):=by kernel_rfl
theorem aJH (x3:bZY) (iZ:bZZ) (jc:bZZ) (q2:Sh.V S6) (aJ:bZZ) (dJ:bZZ) (Qm:Int):Oi x3 iZ jc q2 aJ dJ Qm=aA (decide (Qm<(q2.2.2.2.2.1.length:Int))) (aj S7 q2.2.2.2.2.1 Qm fun u2=>ah 135 [bZX,bZW [.str ⟨#[118,97,114]⟩,.str u2.1]] [aF (aJ,())] fun _ u6=>ah 136 [bZX,bZW [.str ⟨#[58]⟩]] [aF u6] fun _ u9=>ah 137 [bZX,bZV u2.2.1] [aF u9] fun _ u12=>ah 136 [bZX,bZW [.str ⟨#[46,46]⟩]] [aF u12] fun _ u15=>ah 137 [bZX,bZV u2.2.2.1] [aF u15] fun _ lG=>ah 136 [bZX,bZW [.str ⟨#[61]⟩]] [aF lG] fun _ u21=>ah 137 [bZX,bZV u2.2.2.2.1] [aF u21] fun _ u24=>ah 136 [bZX,bZW [.str ⟨#[59]⟩]] [aF u24] fun _ u27=>Oi x3 iZ jc q2 u27.1 dJ (i64.wrap (Qm+1))) (F8 x3 iZ jc q2 aJ dJ 0):=ll
theorem aJI (x3:bZY) (iZ:bZZ) (jc:bZZ) (q2:Sh.V S6) (aJ:bZZ) (dJ:bZZ) (x99:Int):F8 x3 iZ jc q2 aJ dJ x99=aA (decide (x99<(q2.2.2.2.2.2.1.length:Int))) (aj S9 q2.2.2.2.2.2.1 x99 fun u2=>bz iZ u2.1 fun e10=>vS e10 fun s11=>bz jc u2.2.1 fun e12=>vS e12 fun s13=>bz iZ u2.2.2.1 fun e14=>vS e14 fun s15=>ah 135 [bZX,bZW [.str ⟨#[101,100,103,101]⟩,.str s11,.str s13,.str s15]] [aF (aJ,())] fun _ u16=>qM 133 [] fun uD=>G3 83 [A1 (u2.2.2.2.1,u2.2.2.2.2.1,u2.2.2.2.2.2.1,u2.2.2.2.2.2.2.1,()),A1 uD] fun O0=>aA (!O0) (ah 135 [bZX,bZW [.str ⟨#[119,104,101,110]⟩]] [aF u16] fun _ u26=>ah 112 [bZX,bZW dJ,A1 (u2.2.2.2.1,u2.2.2.2.2.1,u2.2.2.2.2.2.1,u2.2.2.2.2.2.2.1,()),bZV 0] [aF u26] fun _ u29=>ZR x3 iZ jc q2 u29.1 dJ u2 x99) (ZR x3 iZ jc q2 u16.1 dJ u2 x99)) (ah 136 [bZX,bZW [.str ⟨#[125]⟩]] [aF (aJ,())] fun _ u32=>some (.tuple [],[aF u32])):=ll
theorem b5I (x3:bZY) (iZ:bZZ) (jc:bZZ) (q2:Sh.V S6) (aJ:bZZ) (dJ:bZZ) (q4:Sh.V S9) (x99:Int):ZR x3 iZ jc q2 aJ dJ q4 x99=aA (decide (0<(q4.2.2.2.2.2.2.2.1.length:Int))) (ah 135 [bZX,bZW [.str ⟨#[100,111]⟩]] [aF (aJ,())] fun _ u1=>ZT x3 iZ jc q2 u1.1 dJ q4 x99) (ZT x3 iZ jc q2 aJ dJ q4 x99):=by kernel_rfl
theorem b5J (x3:bZY) (iZ:bZZ) (jc:bZZ) (q2:Sh.V S6) (aJ:bZZ) (dJ:bZZ) (q4:Sh.V S9) (x99:Int):ZT x3 iZ jc q2 aJ dJ q4 x99=H45 140 [bZX,bZV (q4.2.2.2.2.2.2.2.1.length:Int),.str ⟨#[44]⟩,.func (.func 220) [] [.ptr 1 0,.ptr 2 0,.ptr 3 0]] [aF (aJ,()),some [bZX],iw (dJ,()),O9 q4] fun _ u1 u2 u3=>ah 136 [bZX,bZW [.str ⟨#[59]⟩]] [aF u1] fun _ u13=>F8 x3 iZ jc q2 u13.1 u2.1 (i64.wrap (x99+1)):=by kernel_rfl
theorem b5T (a1:Sh.V S5) (bf:bZZ):SS.CC 138 [bZX,A5 a1] [aF (bf,())]=G7 219 [.sl false 4 a1.2.2.2.2.2.2.2.1] fun l1=>ah 135 [bZX,bZW [.str ⟨#[116,101,109,112,108,97,116,101]⟩,.str a1.1]] [aF (bf,())] fun _ u3=>ah 139 [bZX,bZW a1.2.2.1] [aF u3] fun _ u6=>ah 136 [bZX,bZW [.str ⟨#[123]⟩]] [aF u6] fun _ u9=>KE a1.1 a1.2.1 a1.2.2.1 (a1.2.2.2.1,a1.2.2.2.2.1,a1.2.2.2.2.2.1,a1.2.2.2.2.2.2.1,a1.2.2.2.2.2.2.2.1,a1.2.2.2.2.2.2.2.2.1,()) u9.1 l1 0:=cc
theorem b5U (a1:bZZ) (bf:bZZ):SS.CC 139 [bZX,bZW a1] [aF (bf,())]=ah 136 [bZX,bZW [.str ⟨#[40]⟩]] [aF (bf,())] fun _ u1=>H46 140 [bZX,bZV (a1.length:Int),.str ⟨#[44]⟩,.func (.func 221) [] [.ptr 1 0,.cst (bZW a1)]] [aF u1,some [bZX]] fun _ u4=>ah 136 [bZX,bZW [.str ⟨#[41]⟩]] [aF u4] fun _ u7=>some (.tuple [],[aF u7]):=cc
def b6W:KT:=SS.rK Tryz.f140 140 3 []
def b6X:KT:=ak 0 b6W
def Tn (x2:bZY) (x9:Int) (aJ:bZZ) (q2:Sh.V jZ) (x10:Int):R:=SS.LL (SS.ae 140 23) 3 [0,2,3,9,10] 3 (cS Tryz.f140 9) b6X ⟨[(0,bZX),(2,.str x2),(3,.func (.func 141) [] [.ptr 1 0,.ptr 2 0]),(9,bZV x9),(10,bZV x10)],[aF (aJ,()),some [bZX],y7 q2]⟩
theorem aJY (x2:bZY) (x9:Int) (aJ:bZZ) (q2:Sh.V jZ) (x10:Int):Tn x2 x9 aJ q2 x10=aA (decide (x10<x9)) (aA (decide (0<x10)) (ah 136 [bZX,bZW [.str x2]] [aF (aJ,())] fun _ u1=>H47 141 [bZV x10,bZX,.ptr 1 0] [some [.ptr 2 0],y7 q2,aF u1] fun _ u4 u6=>Tn x2 x9 u6.1 u4 (i64.wrap (x10+1))) (H47 141 [bZV x10,bZX,.ptr 1 0] [some [.ptr 2 0],y7 q2,aF (aJ,())] fun _ u9 u11=>Tn x2 x9 u11.1 u9 (i64.wrap (x10+1)))) (some (.tuple [],[aF (aJ,()),some [bZX],y7 q2])):=ll
theorem b6Y (a1:Int) (a2:bZY) (bf:bZZ) (h2:Sh.V jZ):SS.CC 140 [bZX,bZV a1,.str a2,.func (.func 141) [] [.ptr 1 0,.ptr 2 0]] [aF (bf,()),some [bZX],y7 h2]=Tn a2 a1 bf h2 0:=cc
def b6N:KT:=SS.rK Tryz.f140 140 3 []
def b6O:KT:=ak 0 b6N
def Tf (x2:bZY) (x9:Int) (aJ:bZZ) (q2:Sh.V iy) (x10:Int):R:=SS.LL (SS.ae 140 23) 3 [0,2,3,9,10] 3 (cS Tryz.f140 9) b6O ⟨[(0,bZX),(2,.str x2),(3,.func (.func 142) [] [.ptr 1 0,.ptr 2 0]),(9,bZV x9),(10,bZV x10)],[aF (aJ,()),some [bZX],wu q2]⟩
theorem aJV (x2:bZY) (x9:Int) (aJ:bZZ) (q2:Sh.V iy) (x10:Int):Tf x2 x9 aJ q2 x10=aA (decide (x10<x9)) (aA (decide (0<x10)) (ah 136 [bZX,bZW [.str x2]] [aF (aJ,())] fun _ u1=>H48 142 [bZV x10,bZX,.ptr 1 0] [some [.ptr 2 0],wu q2,aF u1] fun _ u4 u7=>Tf x2 x9 u7.1 u4 (i64.wrap (x10+1))) (H48 142 [bZV x10,bZX,.ptr 1 0] [some [.ptr 2 0],wu q2,aF (aJ,())] fun _ u10 u13=>Tf x2 x9 u13.1 u10 (i64.wrap (x10+1)))) (some (.tuple [],[aF (aJ,()),some [bZX],wu q2])):=ll
theorem b6P (a1:Int) (a2:bZY) (bf:bZZ) (h2:Sh.V iy):SS.CC 140 [bZX,bZV a1,.str a2,.func (.func 142) [] [.ptr 1 0,.ptr 2 0]] [aF (bf,()),some [bZX],wu h2]=Tf a2 a1 bf h2 0:=cc
def b6Q:KT:=SS.rK Tryz.f140 140 4 []
def b6R:KT:=ak 0 b6Q
def Ti (x2:bZY) (x9:Int) (aJ:bZZ) (fB:bZZ) (q3:Sh.V S9) (x10:Int):R:=SS.LL (SS.ae 140 23) 4 [0,2,3,9,10] 4 (cS Tryz.f140 9) b6R ⟨[(0,bZX),(2,.str x2),(3,.func (.func 220) [] [.ptr 1 0,.ptr 2 0,.ptr 3 0]),(9,bZV x9),(10,bZV x10)],[aF (aJ,()),some [bZX],iw (fB,()),O9 q3]⟩
theorem aJW (x2:bZY) (x9:Int) (aJ:bZZ) (fB:bZZ) (q3:Sh.V S9) (x10:Int):Ti x2 x9 aJ fB q3 x10=aA (decide (x10<x9)) (aA (decide (0<x10)) (ah 136 [bZX,bZW [.str x2]] [aF (aJ,())] fun _ u1=>H64 220 [bZV x10,bZX,.ptr 1 0,.ptr 2 0] [some [.ptr 3 0],iw (fB,()),O9 q3,aF u1] fun _ u4 u5 u13=>Ti x2 x9 u13.1 u4.1 u5 (i64.wrap (x10+1))) (H64 220 [bZV x10,bZX,.ptr 1 0,.ptr 2 0] [some [.ptr 3 0],iw (fB,()),O9 q3,aF (aJ,())] fun _ u16 wV u25=>Ti x2 x9 u25.1 u16.1 wV (i64.wrap (x10+1)))) (some (.tuple [],[aF (aJ,()),some [bZX],iw (fB,()),O9 q3])):=ll
theorem b6S (a1:Int) (a2:bZY) (bf:bZZ) (lU:bZZ) (h3:Sh.V S9):SS.CC 140 [bZX,bZV a1,.str a2,.func (.func 220) [] [.ptr 1 0,.ptr 2 0,.ptr 3 0]] [aF (bf,()),some [bZX],iw (lU,()),O9 h3]=Ti a2 a1 bf lU h3 0:=cc
def b6T:KT:=SS.rK Tryz.f140 140 2 []
def b6U:KT:=ak 0 b6T
def Tj (x2:bZY) (x3:bZZ) (x9:Int) (aJ:bZZ) (x10:Int):R:=SS.LL (SS.ae 140 23) 2 [0,2,3,9,10] 2 (cS Tryz.f140 9) b6U ⟨[(0,bZX),(2,.str x2),(3,.func (.func 221) [] [.ptr 1 0,.cst (bZW x3)]),(9,bZV x9),(10,bZV x10)],[aF (aJ,()),some [bZX]]⟩
theorem aJX (x2:bZY) (x3:bZZ) (x9:Int) (aJ:bZZ) (x10:Int):Tj x2 x3 x9 aJ x10=aA (decide (x10<x9)) (aA (decide (0<x10)) (ah 136 [bZX,bZW [.str x2]] [aF (aJ,())] fun _ u1=>eY 221 [bZV x10,bZX,.cst (bZW x3)] [some [.ptr 1 0],aF u1] fun _ u4=>Tj x2 x3 x9 u4.1 (i64.wrap (x10+1))) (eY 221 [bZV x10,bZX,.cst (bZW x3)] [some [.ptr 1 0],aF (aJ,())] fun _ u7=>Tj x2 x3 x9 u7.1 (i64.wrap (x10+1)))) (some (.tuple [],[aF (aJ,()),some [bZX]])):=ll
theorem b6V (a1:Int) (a2:bZY) (a3:bZZ) (bf:bZZ):SS.CC 140 [bZX,bZV a1,.str a2,.func (.func 221) [] [.ptr 1 0,.cst (bZW a3)]] [aF (bf,()),some [bZX]]=Tj a2 a3 a1 bf 0:=cc
theorem b6Z (a0:Int) (h1:Sh.V jZ) (lU:bZZ):SS.CC 141 [bZV a0,bZX,.ptr 1 0] [some [.ptr 2 0],y7 h1,aF (lU,())]=aj AB h1.2.1 a0 fun u2=>aj AB h1.2.1 a0 fun u5=>ah 135 [bZX,bZW [.str u2.1,.str u5.2.1]] [aF (lU,())] fun _ u7=>some (.tuple [],[some [.ptr 2 0],y7 h1,aF u7]):=cc
theorem b6' (a0:Int) (h1:Sh.V iy) (lU:bZZ):SS.CC 142 [bZV a0,bZX,.ptr 1 0] [some [.ptr 2 0],wu h1,aF (lU,())]=aj BN h1.2.1 a0 fun u2=>ah 137 [bZX,bZV u2.2.1] [aF (lU,())] fun _ u4=>ah 136 [bZX,bZW [.str ⟨#[42]⟩]] [aF u4] fun _ u7=>aj BN h1.2.1 a0 fun u11=>ah 135 [bZX,bZW [.str u11.1]] [aF u7] fun _ u13=>some (.tuple [],[some [.ptr 2 0],wu h1,aF u13]):=cc
theorem b70 (bf:Bool) (a8C:bZ'):SS.CC 127 [bZX,.ptr 1 0] [nM (bf,()),BM (a8C,())]=aA (!bf) (H33 128 [bZX,.int .u8 10] [pK (a8C,())] fun u1=>some (.tuple [],[nM (true,()),BM u1])) (some (.tuple [],[nM (bf,()),BM (a8C,())])):=cc
theorem b72 (a1:Int) (UT:bZ'):SS.CC 128 [bZX,.int .u8 a1] [pK (UT,())]=H51 207 [bZX] [pK (UT,())] fun _ u1=>chk (decide (u1.1.length+1<=aO)&&decide ((0:Int)<=a1)&&decide (a1<(256:Int))) (some (.raw .nilIface,[pK ((u1.1 ++ [UInt8.ofNat (Int.toNat a1)]),())])):=cc
def b9K:KT:=SS.rK Tryz.f273 273 0 []
def b9L:KT:=SS.jK 273 19 0 (cS Tryz.f273 7) b9K
def b9M:KT:=ak 0 b9L
def Tu (x0:bZZ) (x1:Int) (x8:Int):R:=SS.LL (SS.ae 273 19) 0 [0,1,7,8] 0 (cS Tryz.f273 37) b9M ⟨[(0,bZW x0),(1,bZV x1),(7,bZV (x0.length:Int)),(8,bZV x8)],[]⟩
theorem aKI (x0:bZZ) (x1:Int) (x8:Int):Tu x0 x1 x8=aA (decide (x8<(x0.length:Int))) (bz x0 x8 fun e1=>vI .i64 e1 fun n2=>aA (x1==n2) (some (bZV x8,[])) (Tu x0 x1 (i64.wrap (x8+1)))) (some (bZV (-1),[])):=ll
theorem b9N (a0:bZZ) (a1:Int):SS.CC 273 [bZW a0,bZV a1] []=Tu a0 a1 0:=cc
theorem b9O (a0:bZZ):SS.CC 219 [.sl false 4 a0] []=G7 282 [.sl false 4 a0,.func (.func 283) [] []] fun l1=>some (.sl true 1 l1,[]):=cc
theorem b9P (a0:Int) (o7:bZZ) (h2:Sh.V S9) (aNA:bZZ):SS.CC 220 [bZV a0,bZX,.ptr 1 0,.ptr 2 0] [some [.ptr 3 0],iw (o7,()),O9 h2,aF (aNA,())]=aj qO h2.2.2.2.2.2.2.2.1 a0 fun u2=>bz o7 u2.1 fun e7=>vS e7 fun s8=>ah 135 [bZX,bZW [.str s8]] [aF (aNA,())] fun _ u9=>ah 136 [bZX,bZW [.str ⟨#[58,61]⟩]] [aF u9] fun _ u12=>aj qO h2.2.2.2.2.2.2.2.1 a0 fun u16=>ah 112 [bZX,bZW o7,A1 (u16.2.1,u16.2.2.1,u16.2.2.2.1,u16.2.2.2.2.1,()),bZV 0] [aF u12] fun _ u21=>some (.tuple [],[some [.ptr 3 0],iw (o7,()),O9 h2,aF u21]):=cc
theorem b9Q (a0:Int) (a2:bZZ) (o7:bZZ):SS.CC 221 [bZV a0,bZX,.cst (bZW a2)] [some [.ptr 1 0],aF (o7,())]=bz a2 a0 fun e1=>vS e1 fun s2=>ah 135 [bZX,bZW [.str s2]] [aF (o7,())] fun _ u3=>some (.tuple [],[some [.ptr 1 0],aF u3]):=cc
def bB':KT:=SS.rK Tryz.f282 282 0 []
def bC0:KT:=SS.jK 282 22 0 (cS Tryz.f282 15) bB'
def bC1:KT:=ak 0 bC0
def Zq (x8:bZZ) (x5:bZZ) (x10:Int):R:=SS.LL (SS.ae 282 22) 0 [1,5,8,9,10] 0 (cS Tryz.f282 75) bC1 ⟨[(1,.func (.func 283) [] []),(5,.sl true 1 x5),(8,.sl false 4 x8),(9,bZV (x8.length:Int)),(10,bZV x10)],[]⟩
theorem aL4 (x8:bZZ) (x5:bZZ) (x10:Int):Zq x8 x5 x10=aA (decide (x10<(x8.length:Int))) (aj S7 x8 x10 fun u2=>G2 283 [A7 u2] fun s6=>chk (decide (x5.length+1<=aO)) (Zq x8 (x5 ++ ([.str s6]:bZZ)) (i64.wrap (x10+1)))) (some (.sl true 1 x5,[])):=ll
theorem bC2 (a0:bZZ):SS.CC 282 [.sl false 4 a0,.func (.func 283) [] []] []=Zq a0 [] 0:=cc
theorem bC3 (a0:Sh.V S7):SS.CC 283 [A7 a0] []=some (.str a0.1,[]):=cc
end
theorem aT' {v:Nat->Int}:∀ (m k:Nat),CX v k m=0->∀ i,k<=i->i<k+m->v i=0
 | 0,k,_,i,a,b=>by omega
 | m+1,k,h,i,a,b=>by
  rw[CX] at h;by_cases hv:v k=0
  .rw[aX hv] at h;by_cases hi:i=k;simp_all
   .exact aT' m (k+1) h i (by omega) (by omega)
  omega
theorem nz {v:Nat->Int} {n:Nat} (h:qg v n=0) {i:Nat} (hi:i<n):v i=0:=aT' n 0 h i (Ee _) (by omega)
theorem kM {a b:Int} (h:sq a b=0):a=0/\b=0:=by grind [sq]
theorem gI {b:Bool} {c x:Int} (hc:c≠0) (h:(bif b then c else x)=0):b=false/\x=0:=by grind
theorem uz {l:List α} {x:α} (h:x∈l):∃ k,∃ hk:k<l.length,l[k]=x:=aE3 h
theorem aVP (hx:x.Len) {n w:Int} (h0:0<=n) (h1:n<=16) (h:zt x n w=0):Fd n x/\fU x<=64:=by grind [zt,a5R,YP]
structure rF (n:Nat) (x:EX):Prop where
 len:x.Len
 fd:Fd (n:Int) x
 sz:fU x<=64
abbrev R16 (v:Int):Prop := -65536<=v/\v<=65536
abbrev Gn (s:Nm):Prop:=nameB s=true
structure a4M (t:Tm) (x:Mv):Prop where
 f:0<=x.f/\x.f<t.ls.length
 e:0<=x.e/\x.e<t.es.length
 d:0<=x.t/\x.t<t.ls.length
 g:rF t.vs.length x.g
 us:∀ u,u∈x.us->(0<=u.1/\u.1<t.vs.length)/\rF t.vs.length u.2
structure BG (t:Tm):Prop where
 ls:∀ s,s∈t.ls->Gn s
 es:∀ s,s∈t.es->Gn s
 vs:∀ v,v∈t.vs->Gn v.n/\R16 v.lo/\R16 v.hi/\R16 v.i
 v16:t.vs.length<=16
 ms:∀ x,x∈t.ms->a4M t x
structure D7 (m:Mo):Prop where
 n:Gn m.n
 es:∀ e,e∈m.es->Gn e.n/\0<=e.k/\e.k<=4
 ts:∀ t,t∈m.ts->Gn t.n/\BG t
 is:∀ x,x∈m.cs ++ m.rs->Gn x.n/\Gn x.t/\∀ s,s∈x.es->Gn s
 xs:∀ x,x∈m.xs->Gn x.n/\x.ls ≠ []/\∀ l,l∈x.ls->Gn l.1/\Gn l.2
 ks:∀ x,x∈m.ks->Gn x.n/\x.ts ≠ []/\R16 x.b/\∀ l,l∈x.ts->Gn l.1/\R16 l.2
theorem bN6 {b:Bool} (h:(!b)=false):b=true:=by cases b<;>simp_all
theorem Dk {l:List Nm} {s:Nm} (h:wG l s=0):Gn s/\s∉l:=by obtain ⟨a,b⟩:=gI (by decide) h;grind
theorem aRK {l:List Nm} (h:EK l=0):∀ s,s∈l->Gn s:=fun s hs=>by obtain ⟨k,hk,e⟩:=uz hs;have:=nz h hk;rw[gD hk,e] at this;exact (Dk this).1
theorem bVN {l:List Vr} {v:Vr} (h:Wn l v=0):Gn v.n/\R16 v.lo/\R16 v.hi/\R16 v.i:=by obtain ⟨a,h⟩:=gI (by decide) h;grind [big]
theorem a'G {l:List Vr} (h:Jl l=0):l.length<=16/\∀ v,v∈l->Gn v.n/\R16 v.lo/\R16 v.hi/\R16 v.i:=by obtain ⟨a,h⟩:=gI (by decide) h;simp only[XJ] at a;refine ⟨by omega,fun v hv => ?_⟩;grind [uz,nz,bVN]
theorem bMP {t:Tm} (h16:t.vs.length<=16) {x:Mv} (hx:x.g.Len) (hu:∀ u,u∈x.us->u.2.Len) (h:Po (t.ls.length:Int) (t.es.length:Int) (t.vs.length:Int) x=0):a4M t x:=by obtain ⟨a,h⟩:=gI (by decide) h;obtain ⟨b,h⟩:=gI (by decide) h;obtain ⟨c,h⟩:=gI (by decide) h;obtain ⟨d,h⟩:=gI (by decide) h;obtain ⟨e,h⟩:=gI (by decide) h;obtain ⟨f,h⟩:=gI (by decide) h;obtain ⟨g,h⟩:=kM h;simp only[XJ] at a b c d e f;obtain ⟨g1,g2⟩:=aVP hx (by omega) (by omega) g;refine ⟨⟨by omega,by omega⟩,⟨by omega,by omega⟩,⟨by omega,by omega⟩,⟨hx,g1,g2⟩,fun u hu2 => ?_⟩;obtain ⟨k,hk,e⟩:=uz hu2;have:=nz h hk;unfold MP at this;rw[gD hk,e] at this;obtain ⟨a,h⟩:=gI (by decide) this;obtain ⟨b,h⟩:=gI (by decide) h;obtain ⟨_,h⟩:=gI (by decide) h;simp only[XJ] at a b;obtain ⟨g1,g2⟩:=aVP (hu u hu2) (by omega) (by omega) h;exact ⟨⟨by omega,by omega⟩,hu u hu2,g1,g2⟩
theorem aMS {t:Tm} (ho:um t) (h:GR t=0):BG t:=by obtain ⟨h1,h⟩:=kM h;obtain ⟨h2,h⟩:=kM h;obtain ⟨_,h⟩:=gI (by decide) h;obtain ⟨_,h⟩:=kM h;obtain ⟨_,h⟩:=gI (by decide) h;obtain ⟨_,h⟩:=gI (by decide) h;obtain ⟨_,h⟩:=gI (by decide) h;obtain ⟨_,h⟩:=kM h;obtain ⟨h3,h⟩:=kM h;obtain ⟨_,h⟩:=kM h;obtain ⟨c1,c2⟩:=a'G h3;refine ⟨aRK h2,aRK h1,c2,c1,fun x hx => ?_⟩;obtain ⟨k,hk,e⟩:=uz hx;have:=nz h hk;obtain ⟨o1,_,o2⟩:=ho.ms.2 x hx;grind [bMP]
theorem aYD {b:Int} (h:H7 b=0):R16 b:=by obtain ⟨a,h⟩:=gI (by decide) h;grind
theorem UM (ho:mY m) (h:DW m=0):D7 m:=by
 obtain ⟨h1,h⟩:=gI (by decide) h;obtain ⟨h2,h⟩:=kM h;obtain ⟨_,h⟩:=gI (by decide) h;obtain ⟨_,h⟩:=gI (by decide) h;obtain ⟨_,h⟩:=gI (by decide) h;obtain ⟨_,h⟩:=gI (by decide) h;obtain ⟨_,h⟩:=gI (by decide) h;obtain ⟨h3,h⟩:=kM h;obtain ⟨h4,h⟩:=kM h;obtain ⟨h5,h6⟩:=kM h;obtain ⟨_,h2⟩:=gI (by decide) h2;refine ⟨bN6 h1,fun e he => ?_,fun t ht => ?_,fun x hx => ?_,fun x hx => ?_,fun x hx => ?_⟩
 .obtain ⟨k,hk,e1⟩:=uz he;have:=nz h2 hk;obtain ⟨a,h⟩:=gI (by decide) this;grind
 .obtain ⟨k,hk,e1⟩:=uz ht;have:=nz h3 hk;rw[gD hk,e1] at this;obtain ⟨a,b⟩:=kM this;exact ⟨(Dk a).1,aMS (ho.ts.2 t ht).2 b⟩
 .obtain ⟨k,hk,e1⟩:=uz hx;have:=nz h4 hk;rw[gD hk,e1] at this;obtain ⟨a,b⟩:=kM this;have b2:∀ s,s∈x.t::x.es->Gn s:=fun s hs=>by obtain ⟨j,hj,e2⟩:=uz hs;have:=nz b hj;grind
  exact ⟨(Dk a).1,b2 _ (by simp),fun s hs=>b2 s (by simp[hs])⟩
 .obtain ⟨k,hk,e1⟩:=uz hx;have:=nz h5 hk;rw[gD hk,e1] at this;obtain ⟨a,b⟩:=kM this;obtain ⟨c,d⟩:=gI (by decide) b;refine ⟨(Dk a).1,fun hc=>by rw[hc] at c; simp at c,fun l hl => ?_⟩;obtain ⟨j,hj,e2⟩:=uz hl;have:=nz d hj;obtain ⟨p,q⟩:=gI (by decide) this;grind
 .obtain ⟨k,hk,e1⟩:=uz hx;have:=nz h6 hk;rw[gD hk,e1] at this;obtain ⟨a,b⟩:=kM this;obtain ⟨c,d⟩:=gI (by decide) b;obtain ⟨d,e⟩:=kM d;refine ⟨(Dk a).1,fun hc=>by rw[hc] at c; simp at c,aYD e,fun l hl => ?_⟩;obtain ⟨j,hj,e2⟩:=uz hl;have:=nz d hj;obtain ⟨p,q⟩:=gI (by decide) this;grind
def ut (ns:List Nm) (x:EX):List Tok:=open Classical in if h:∃ B,PB ns x B/\B.length<=8*fU x then Classical.choose h else []
theorem OO {ns:List Nm} (h:rF ns.length x):PB ns x (ut ns x)/\(ut ns x).length<=512:=by have hx:=bPJ ns h.fd;have hs:=h.sz;grind [ut]
def gq (s:Tok):List (List Tok)->List Tok
 | [] => []
 | [a]=>a
 | a::b::l=>a ++ s::gq s (b::l)
def tV (l:List Nm):List Tok:=tS [40]::(gq (tS [44]) (l.map fun s => [tW s]) ++ [tS [41]])
def ql (e:lM):List Tok := [tW [101,118,101,110,116],tW e.n] ++ (if e.c then [tW [99,111,110,116,114,111,108,108,97,98,108,101]] else []) ++ (if e.o then [tW [111,98,115,101,114,118,97,98,108,101]] else []) ++ (if e.f then [tW [102,111,114,99,105,98,108,101]] else []) ++ (if e.k=0 then [] else tW [102,97,117,108,116]::dO e.k) ++ [tS [59]]
def Ac (I:Int) (mr:List Int) (i:Nat) (s:Nm):List Tok := [tW [108,111,99,97,116,105,111,110],tW s] ++ (if (i:Int)=I then [tW [105,110,105,116,105,97,108]] else []) ++ (if (i:Int)∈mr then [tW [109,97,114,107,101,100]] else []) ++ [tS [59]]
def wI (I:Int) (mr:List Int):Nat->List Nm->List Tok
 | _,[] => []
 | i,s::l=>Ac I mr i s ++ wI I mr (i+1) l
def pF (v:Vr):List Tok := [tW [118,97,114],tW v.n,tS [58]] ++ dO v.lo ++ [tS [46,46]] ++ dO v.hi ++ [tS [61]] ++ dO v.i ++ [tS [59]]
def kY (ns:List Nm) (u:Int×EX):List Tok := [tW (ns.getD u.1.toNat []),tS [58,61]] ++ ut ns u.2
def mF (t:Tm) (x:Mv):List Tok := [tW [101,100,103,101],tW (t.ls.getD x.f.toNat []),tW (t.es.getD x.e.toNat []),tW (t.ls.getD x.t.toNat [])] ++ (if fH x.g tE then [] else tW [119,104,101,110]::ut (t.vs.map (·.n)) x.g) ++ (if x.us = [] then [] else tW [100,111]::gq (tS [44]) (x.us.map (kY (t.vs.map (·.n))))) ++ [tS [59]]
def lF (t:Tm):List Tok := [tW [116,101,109,112,108,97,116,101],tW t.n] ++ tV t.es ++ [tS [123]] ++ wI t.I t.mr 0 t.ls ++ t.vs.flatMap pF ++ t.ms.flatMap (mF t) ++ [tS [125]]
def inT (w:Nm) (x:Ins):List Tok := [tW w,tW x.n,tS [61],tW x.t] ++ tV x.es ++ [tS [59]]
abbrev wC:Nm := [99,111,109,112,111,110,101,110,116]
abbrev wR:Nm := [114,101,113,117,105,114,101,109,101,110,116]
def rC (x:pI):List Tok := [tW [101,120,99,108,117,100,101],tW x.n,tS [58]] ++ gq (tS [44]) (x.ls.map fun l => [tW l.1,tW l.2]) ++ [tS [59]]
def pO (x:Cst):List Tok := [tW [108,105,109,105,116],tW x.n,tS [58]] ++ gq (tS [43]) (x.ts.map fun l=>dO l.2 ++ [tS [42],tW l.1]) ++ [tS [60,61]] ++ dO x.b ++ [tS [59]]
def kz (m:Mo):List Tok := [tW [109,111,100,101,108],tW m.n,tS [59]] ++ m.es.flatMap ql ++ m.ts.flatMap lF ++ m.cs.flatMap (inT wC) ++ m.rs.flatMap (inT wR) ++ m.xs.flatMap rC ++ m.ks.flatMap pO
theorem aRI {l:List α} (h:∀ k (hk:k<l.length),l[k]∉l.take k):l.Nodup:=by rw[List.Nodup,aE4];grind [List.mem_take_iff_getElem]
theorem Pv {l:List α} {f:α->Nm} (h:∀ k (hk:k<l.length),f l[k]∉(l.take k).map f):(l.map f).Nodup:=aRI fun k hk=>by simp_all
theorem aH0 (hx:x.Len) {n w:Int} (h0:0<=n) (h1:n<=16) (h:zt x n w=0):gJ x<=8:=by grind [zt,a5R,YP]
structure Nj (t:Tm):Prop where
 gd:BG t
 ok:um t
 es:t.es.Nodup
 ls:t.ls.Nodup
 vn:(t.vs.map (·.n)).Nodup
 tf:∀ v,v∈t.vs->v.n≠nX/\v.n≠pV
 al:t.al=uh t.es.length
 L:t.L=(t.ls.length:Int)
 I:0<=t.I/\(t.I<(t.ls.length:Int)\/t.I=0)
 mr:t.mr.Pairwise (· < ·)/\∀ i,i∈t.mr->0<=i/\i<(t.ls.length:Int)
 dp:∀ x,x∈t.ms->gJ x.g<=8/\∀ u,u∈x.us->gJ u.2<=8
structure PgM (m:Mo):Prop where
 gd:D7 m
 ok:mY m
 es:(m.es.map (·.n)).Nodup
 ts:(m.ts.map (·.n)).Nodup/\∀ t,t∈m.ts->Nj t
 is:((m.cs ++ m.rs).map (·.n)).Nodup
 xs:(m.xs.map (·.n)).Nodup
 ks:(m.ks.map (·.n)).Nodup
 nt:m.ts.length<=16/\m.cs.length<=32/\m.rs.length<=32/\m.xs.length<=32/\m.ks.length<=32
theorem a'C {l:List Int} {n:Int} (h:Sv l n=0):l.Pairwise (· < ·)/\∀ i,i∈l->0<=i/\i<n:=by
 have hk:∀ k (hk:k<l.length),0<=l[k]/\l[k]<n/\(0<k->∀ (hp:k-1<l.length),l[k-1]<l[k]):=fun k hk=>by have:=nz h hk;rw[gD hk] at this;grind
 refine ⟨?_,fun i hi => ?_⟩
 .rw[aE4];intro i j hi hj hij;have:∀ d i (hi:i<l.length) (hj:i+d+1<l.length),l[i]<l[i+d+1]:=by
   intro d;induction d with
   | zero=>grind
   | succ d ih =>grind
  have h3:=this (j-i-1) i hi (by omega);have e:i+(j-i-1)+1=j:=by omega
  simp_all
 grind [uz]
theorem aXL {al:List Int} {n:Nat} (h1:al.length=n) (h:Nz al=0):al=uh n:=by
 subst h1;apply List.ext_getElem
 .simp[uh]
 .intro k hk hk2;have:=nz h hk;rw[gD hk] at this;grind [uh]
theorem aRJ {l:List Nm} (h:EK l=0):l.Nodup:=aRI fun k hk=>by have:=nz h hk;rw[gD hk] at this;exact (Dk this).2
theorem bPN {t:Tm} (ho:um t) (h:GR t=0):Nj t:=by
 have hg:=aMS ho h;obtain ⟨h1,h⟩:=kM h;obtain ⟨h2,h⟩:=kM h;obtain ⟨a1,h⟩:=gI (by decide) h;obtain ⟨a2,h⟩:=kM h;obtain ⟨a3,h⟩:=gI (by decide) h;obtain ⟨a4,h⟩:=gI (by decide) h;obtain ⟨a5,h⟩:=gI (by decide) h;obtain ⟨a6,h⟩:=kM h;obtain ⟨h3,h⟩:=kM h;obtain ⟨a7,h⟩:=kM h;simp only[XJ] at a4 a5;have a1:t.al.length=t.es.length:=by grind
 have a3:t.L=(t.ls.length:Int):=by grind
 refine ⟨hg,ho,aRJ h1,aRJ h2,?_,fun v hv => ?_,aXL a1 a2,a3,⟨by omega,?_⟩,a'C a6,fun x hx => ?_⟩
 .obtain ⟨_,h3⟩:=gI (by decide) h3;refine Pv fun k hk => ?_
  have:=nz h3 hk;rw[gD hk] at this;obtain ⟨_,h⟩:=gI (by decide) this;grind
 .obtain ⟨k,hk,e⟩:=uz hv;have:=nz a7 hk;rw[gD hk,e] at this;obtain ⟨b,h⟩:=gI (by decide) this;grind
 grind [Pq]
 .obtain ⟨k,hk,e⟩:=uz hx;have:=nz h hk;rw[gD hk,e] at this;obtain ⟨_,h⟩:=gI (by decide) this;obtain ⟨_,h⟩:=gI (by decide) h;obtain ⟨_,h⟩:=gI (by decide) h;obtain ⟨_,h⟩:=gI (by decide) h;obtain ⟨_,h⟩:=gI (by decide) h;obtain ⟨_,h⟩:=gI (by decide) h;obtain ⟨g,h⟩:=kM h;obtain ⟨o1,_,o2⟩:=ho.ms.2 x hx;have h16:=hg.v16;refine ⟨aH0 o1 (by omega) (by omega) g,fun u hu => ?_⟩;obtain ⟨j,hj,e2⟩:=uz hu;have:=nz h hj;unfold MP at this;rw[gD hj,e2] at this;obtain ⟨_,h⟩:=gI (by decide) this;obtain ⟨_,h⟩:=gI (by decide) h;obtain ⟨_,h⟩:=gI (by decide) h;exact aH0 (o2 u hu) (by omega) (by omega) h
theorem bPO (ho:mY m) (h:DW m=0):PgM m:=by
 have hg:=UM ho h;obtain ⟨h1,h⟩:=gI (by decide) h;obtain ⟨h2,h⟩:=kM h;obtain ⟨b1,h⟩:=gI (by decide) h;obtain ⟨b2,h⟩:=gI (by decide) h;obtain ⟨b3,h⟩:=gI (by decide) h;obtain ⟨b4,h⟩:=gI (by decide) h;obtain ⟨b5,h⟩:=gI (by decide) h;obtain ⟨h3,h⟩:=kM h;obtain ⟨h4,h⟩:=kM h;obtain ⟨h5,h6⟩:=kM h;obtain ⟨_,h2⟩:=gI (by decide) h2;simp only[XJ] at b1 b2 b3 b4 b5;refine ⟨hg,ho,Pv fun k hk => ?_,⟨Pv fun k hk => ?_,fun t ht => ?_⟩,Pv fun k hk => ?_,Pv fun k hk => ?_,Pv fun k hk => ?_,by omega⟩
 .have:=nz h2 hk;rw[gD hk] at this;obtain ⟨_,h⟩:=gI (by decide) this;grind
 .have:=nz h3 hk;rw[gD hk] at this;exact (Dk (kM this).1).2
 .obtain ⟨k,hk,e1⟩:=uz ht;have:=nz h3 hk;rw[gD hk,e1] at this;exact bPN (ho.ts.2 t ht).2 (kM this).2
 .have:=nz h4 hk;rw[gD hk] at this;exact (Dk (kM this).1).2
 .have:=nz h5 hk;rw[gD hk] at this;exact (Dk (kM this).1).2
 .have:=nz h6 hk;rw[gD hk] at this;exact (Dk (kM this).1).2
theorem wo {a:bZZ} {x1:Sh.V S1} {y2:Sh.V zD} {K:RS.F (.g S1) (dm [.c zD])} (e:SS.CC g a h=some (A1 x1,[ig y2])):qN g a h K=K x1 y2:=fZ e rfl
theorem aEZ {a:bZZ} {n1:Int} {y2:Sh.V zD} {K:RS.F (.ti .i64) (dm [.c zD])} (e:SS.CC g a h=some (bZV n1,[ig y2])):H79 g a h K=K n1 y2:=fZ e rfl
theorem XT {a:bZZ} {x1:Sh.V S0} {K:RS.F (.g S0) R} (e:SS.CC g a []=some (A0 x1,[])):G8 g a K=K x1:=uK e rfl
theorem aWC {a:bZZ} {x1:Sh.V S5} {K:RS.F (.g S5) R} (e:SS.CC g a []=some (A5 x1,[])):G21 g a K=K x1:=uK e rfl
theorem aWD {a:bZZ} {l1:bZZ} {K:RS.F (.tl false 4) R} (e:SS.CC g a []=some (.sl false 4 l1,[])):JW g a K=K l1:=uK e rfl
section
theorem b0X (a0:Sh.V S2) (a1:Sh.V S2):SS.CC 5 [A2 a0,A2 a1] []=G3 6 [] fun b1=>aA (!b1) (G3 6 [] fun b3=>some (.bool b3,[])) (G3 8 [A2 a0] fun b5=>aA (!b5) (G3 6 [] fun b7=>some (.bool b7,[])) (G3 8 [A2 a1] fun b9=>aA (!b9) (G3 6 [] fun b11=>some (.bool b11,[])) (G8 11 [A2 a0] fun u13=>G0 12 [A0 u13] fun u21=>G9 13 [.str u21.1.1] fun u24=>G1 14 [A0 u13] fun n35=>aA (n35==0) (aA (u21.2.1.1==0) (G2 10 [A0 u13] fun s37=>aA (u21.1.1.toList==s37.toList) (aA (u24.2.2.2.1.1==0) (aA (u24.2.1.1==0) (aA (u24.2.2.1.1==0) (G3 15 [A0 u24.1,A0 u13] fun b39=>aA b39 (G8 11 [A2 a0] fun u41=>G3 15 [A0 u13,A0 u41] fun b49=>aA b49 (G3 16 [A0 u13,A0 u24.1] fun b51=>aA b51 (G8 11 [A2 a1] fun u53=>G3 16 [A0 u13,A0 u53] fun b61=>G8 11 [A2 a1] fun u63=>G3 15 [A0 u13,A0 u63] fun b71=>some (.bool (b61==b71),[])) (some (.bool false,[]))) (some (.bool false,[]))) (some (.bool false,[]))) (some (.bool false,[]))) (some (.bool false,[]))) (some (.bool false,[]))) (some (.bool false,[]))) (some (.bool false,[]))) (some (.bool false,[]))))):=cc
theorem bD2 (a0:Sh.V S2):SS.CC 8 [A2 a0] []=aA (decide (4<(a0.2.2.2.2.2.1.length:Int))) (some (.bool false,[])) (aA (decide (8<(a0.2.2.2.2.2.2.1.length:Int))) (some (.bool false,[])) (aA (decide (4<(a0.2.2.2.2.2.2.2.1.length:Int))) (some (.bool false,[])) (aA (decide (4<(a0.2.2.2.2.2.2.2.2.1.length:Int))) (some (.bool false,[])) (G3 22 [.sl false 7 a0.2.2.2.2.2.1,.func (.func 23) [] []] fun b1=>some (.bool (!b1),[]))))):=cc
def KJ:KT:=SS.rK Tryz.f11 11 0 []
def bDI:KT:=SS.jK 11 215 0 (cS Tryz.f11 15) KJ
def bDR:KT:=ak 0 bDI
def bDS:KT:=SS.jK 11 215 0 (cS Tryz.f11 63) KJ
def aLM:KT:=ak 2 bDS
def bDT:KT:=SS.lK 11 215 0 [1,2,3,6,46,47,48] 2 (cS Tryz.f11 303) aLM
def bDU:KT:=SS.jK 11 215 0 (cS Tryz.f11 3887) bDT
def aLN:KT:=ak 3 bDU
def bDV:KT:=SS.jK 11 215 0 (cS Tryz.f11 127791) aLN
def bDW:KT:=ak 4 bDV
def bDJ:KT:=SS.jK 11 215 0 (cS Tryz.f11 127) KJ
def aLL:KT:=ak 6 bDJ
def bDK:KT:=SS.lK 11 215 0 [1,2,3,6,111,112,113] 2 (cS Tryz.f11 607) aLL
def bDL:KT:=SS.jK 11 215 0 (cS Tryz.f11 7775) bDK
def bDM:KT:=ak 7 bDL
def bDN:KT:=SS.jK 11 215 0 (cS Tryz.f11 255583) bDM
def bDO:KT:=ak 8 bDN
def bDP:KT:=SS.jK 11 215 0 (cS Tryz.f11 255) KJ
def bDQ:KT:=ak 10 bDP
def UH (x1:Sh.V S2) (bG:bZZ) (x24:Int) (bP:bZZ):R:=SS.LL (SS.ae 11 215) 0 [1,2,3,22,23,24] 2 (cS Tryz.f11 75) bDR ⟨[(1,.cst (A2 x1)),(2,bZX),(3,.ptr 1 0),(22,.sl false 7 x1.2.2.2.2.2.1),(23,bZV (x1.2.2.2.2.2.1.length:Int)),(24,bZV x24)],[bJ (⟨#[]⟩,[],[],[],[],[],[],()),DK (⟨#[109,111,100,101,108]⟩,bG,bP,[],[],[],[],())]⟩
def UD (x1:Sh.V S2) (bG:bZZ) (bP:bZZ):R:=bH (SS.xX 11 215 0) (cS Tryz.f11 15) KJ ⟨[(1,.cst (A2 x1)),(2,bZX),(3,.ptr 1 0)],[bJ (⟨#[]⟩,[],[],[],[],[],[],()),DK (⟨#[109,111,100,101,108]⟩,bG,bP,[],[],[],[],())]⟩
def a01 (x1:Sh.V S2) (bG:bZZ) (x6:bZZ) (qy:Int) (gm:bZZ) (gp:bZZ) (bP:bZZ):R:=SS.LL (SS.ae 11 215) 0 [1,2,3,6,46,47,48] 2 (cS Tryz.f11 303) aLM ⟨[(1,.cst (A2 x1)),(2,bZX),(3,.ptr 1 0),(6,.sl true 1 x6),(46,.sl false 3 x1.2.2.2.2.2.2.1),(47,bZV (x1.2.2.2.2.2.2.1.length:Int)),(48,bZV qy)],[bJ (⟨#[]⟩,[],[],[],[],[],[],()),DK (⟨#[109,111,100,101,108]⟩,bG,bP,gm,gp,[],[],())]⟩
def UE (x1:Sh.V S2) (bG:bZZ) (q2:Sh.V wz) (Me:Int) (zh:bZZ) (x6:bZZ) (qy:Int) (bP:bZZ) (gm:bZZ) (gp:bZZ) (dJ:bZY):R:=SS.LL (SS.ae 11 215) 0 [1,2,3,6,8,9,46,47,48,70,71] 4 (cS Tryz.f11 619311) bDW ⟨[(1,.cst (A2 x1)),(2,bZX),(3,.ptr 1 0),(6,.sl true 1 x6),(8,.ptr 2 0),(9,.ptr 3 0),(46,.sl false 3 x1.2.2.2.2.2.2.1),(47,bZV (x1.2.2.2.2.2.2.1.length:Int)),(48,bZV qy),(70,bZV (i64.wrap (Int.tmod q2.2.1 4))),(71,bZV Me)],[bJ (⟨#[]⟩,[],[],[],[],[],[],()),DK (⟨#[109,111,100,101,108]⟩,bG,bP,gm,gp,[],[],()),Xd q2,nK (dJ,(strOf ([.int .u8 116,.int .u8 (IntKind.u8.wrap (48+(Int.tmod q2.1 3)))]:bZZ)),zh,())]⟩
def UB (x1:Sh.V S2) (bG:bZZ) (x6:bZZ) (bP:bZZ) (gm:bZZ) (gp:bZZ):R:=bH (SS.xX 11 215 0) (cS Tryz.f11 63) KJ ⟨[(1,.cst (A2 x1)),(2,bZX),(3,.ptr 1 0),(6,.sl true 1 x6)],[bJ (⟨#[]⟩,[],[],[],[],[],[],()),DK (⟨#[109,111,100,101,108]⟩,bG,bP,gm,gp,[],[],())]⟩
def UA (x1:Sh.V S2) (bG:bZZ) (q2:Sh.V wz) (gm:bZZ) (gp:bZZ) (x6:bZZ) (qy:Int) (bP:bZZ) (dJ:bZY) (zh:bZZ):R:=bH (SS.xX 11 215 0) (cS Tryz.f11 258863) aLN ⟨[(1,.cst (A2 x1)),(2,bZX),(3,.ptr 1 0),(6,.sl true 1 x6),(9,.ptr 3 0),(46,.sl false 3 x1.2.2.2.2.2.2.1),(47,bZV (x1.2.2.2.2.2.2.1.length:Int)),(48,bZV qy)],[bJ (⟨#[]⟩,[],[],[],[],[],[],()),DK (⟨#[109,111,100,101,108]⟩,bG,bP,gm,gp,[],[],()),Xd q2,nK (dJ,(strOf ([.int .u8 116,.int .u8 (IntKind.u8.wrap (48+(Int.tmod q2.1 3)))]:bZZ)),zh,())]⟩
def UF (x1:Sh.V S2) (bG:bZZ) (x113:Int) (oD:bZZ) (x6:bZZ) (bP:bZZ) (gm:bZZ) (gp:bZZ):R:=SS.LL (SS.ae 11 215) 0 [1,2,3,6,111,112,113] 2 (cS Tryz.f11 607) aLL ⟨[(1,.cst (A2 x1)),(2,bZX),(3,.ptr 1 0),(6,.sl true 1 x6),(111,.sl false 4 x1.2.2.2.2.2.2.2.1),(112,bZV (x1.2.2.2.2.2.2.2.1.length:Int)),(113,bZV x113)],[bJ (⟨#[]⟩,[],[],[],[],[],[],()),DK (⟨#[109,111,100,101,108]⟩,bG,bP,gm,gp,oD,[],())]⟩
def UG (x1:Sh.V S2) (bG:bZZ) (q2:Sh.V Gv) (Cm:Int) (x6:bZZ) (x113:Int) (bP:bZZ) (gm:bZZ) (gp:bZZ) (oD:bZZ) (q3:Sh.V sU):R:=SS.LL (SS.ae 11 215) 0 [1,2,3,6,12,13,111,112,113,130,131] 4 (cS Tryz.f11 1238623) bDO ⟨[(1,.cst (A2 x1)),(2,bZX),(3,.ptr 1 0),(6,.sl true 1 x6),(12,.ptr 2 0),(13,.ptr 3 0),(111,.sl false 4 x1.2.2.2.2.2.2.2.1),(112,bZV (x1.2.2.2.2.2.2.2.1.length:Int)),(113,bZV x113),(130,bZV (i64.wrap (1+(i64.wrap (Int.tmod q2.1 3))))),(131,bZV Cm)],[bJ (⟨#[]⟩,[],[],[],[],[],[],()),DK (⟨#[109,111,100,101,108]⟩,bG,bP,gm,gp,oD,[],()),O21 q2,vg q3]⟩
def UC (x1:Sh.V S2) (bG:bZZ) (x6:bZZ) (bP:bZZ) (gm:bZZ) (gp:bZZ) (oD:bZZ):R:=bH (SS.xX 11 215 0) (cS Tryz.f11 127) KJ ⟨[(1,.cst (A2 x1)),(2,bZX),(3,.ptr 1 0),(6,.sl true 1 x6)],[bJ (⟨#[]⟩,[],[],[],[],[],[],()),DK (⟨#[109,111,100,101,108]⟩,bG,bP,gm,gp,oD,[],())]⟩
def a02 (x168:bZZ) (bG:bZZ) (Az:Int) (LM:bZZ) (x6:bZZ) (bP:bZZ) (gm:bZZ) (gp:bZZ) (oD:bZZ):R:=SS.LL (SS.ae 11 215) 0 [2,3,6,168,169,170] 2 (cS Tryz.f11 1215) bDQ ⟨[(2,bZX),(3,.ptr 1 0),(6,.sl true 1 x6),(168,.sl false 3 x168),(169,bZV (x168.length:Int)),(170,bZV Az)],[bJ (⟨#[]⟩,[],[],[],[],[],[],()),DK (⟨#[109,111,100,101,108]⟩,bG,bP,gm,gp,oD,LM,())]⟩
theorem aLT (x1:Sh.V S2) (bG:bZZ) (x24:Int) (bP:bZZ):UH x1 bG x24 bP=aA (decide (x24<(x1.2.2.2.2.2.1.length:Int))) (aj rJ x1.2.2.2.2.2.1 x24 fun u2=>aA (x24==2) (UD x1 bG bP) (chk (sW ([.int .u8 116,.int .u8 (IntKind.u8.wrap (48+(IntKind.u8.wrap x24)))]:bZZ)) (G21 29 [.str (strOf ([.int .u8 116,.int .u8 (IntKind.u8.wrap (48+(IntKind.u8.wrap x24)))]:bZZ)),AA u2] fun u9=>chk (decide (bP.length+1<=aO)) (UH x1 bG (i64.wrap (x24+1)) (bP ++ ([A5 u9]:bZZ)))))) (UD x1 bG bP):=ll
theorem bDH (x1:Sh.V S2) (bG:bZZ) (bP:bZZ):UD x1 bG bP=a01 x1 bG [.str ⟨#[99,48]⟩] 0 [] [] bP:=by kernel_rfl
theorem aLO (x1:Sh.V S2) (bG:bZZ) (x6:bZZ) (qy:Int) (gm:bZZ) (gp:bZZ) (bP:bZZ):a01 x1 bG x6 qy gm gp bP=aA (decide (qy<(x1.2.2.2.2.2.2.1.length:Int))) (aj wz x1.2.2.2.2.2.2.1 qy fun u2=>aA (qy==4) (UB x1 bG x6 bP gm gp) (chk (sW ([.int .u8 99,.int .u8 (IntKind.u8.wrap (48+(IntKind.u8.wrap qy)))]:bZZ)) (chk (sW ([.int .u8 116,.int .u8 (IntKind.u8.wrap (48+(Int.tmod u2.1 3)))]:bZZ)) (UE x1 bG u2 0 [] x6 qy bP gm gp (strOf ([.int .u8 99,.int .u8 (IntKind.u8.wrap (48+(IntKind.u8.wrap qy)))]:bZZ)))))) (UB x1 bG x6 bP gm gp):=ll
theorem aLP (x1:Sh.V S2) (bG:bZZ) (q2:Sh.V wz) (Me:Int) (zh:bZZ) (x6:bZZ) (qy:Int) (bP:bZZ) (gm:bZZ) (gp:bZZ) (dJ:bZY):UE x1 bG q2 Me zh x6 qy bP gm gp dJ=aA (decide (Me<(i64.wrap (Int.tmod q2.2.1 4)))) (chk (sW ([.int .u8 (IntKind.u8.wrap (97+(Int.tmod (IntKind.u8.wrap (q2.2.2.1+(IntKind.u8.wrap Me))) 6)))]:bZZ)) (chk (decide (zh.length+1<=aO)) (UE x1 bG q2 (i64.wrap (Me+1)) (zh ++ ([.str (strOf ([.int .u8 (IntKind.u8.wrap (97+(Int.tmod (IntKind.u8.wrap (q2.2.2.1+(IntKind.u8.wrap Me))) 6)))]:bZZ))]:bZZ)) x6 qy bP gm gp dJ))) (aA (decide (q2.1<128)) (chk (decide (gm.length+1<=aO)) (UA x1 bG q2 (gm ++ ([A8 (dJ,(strOf ([.int .u8 116,.int .u8 (IntKind.u8.wrap (48+(Int.tmod q2.1 3)))]:bZZ)),zh,())]:bZZ)) gp x6 qy bP dJ zh)) (chk (decide (gp.length+1<=aO)) (UA x1 bG q2 gm (gp ++ ([A8 (dJ,(strOf ([.int .u8 116,.int .u8 (IntKind.u8.wrap (48+(Int.tmod q2.1 3)))]:bZZ)),zh,())]:bZZ)) x6 qy bP dJ zh))):=ll
theorem bDF (x1:Sh.V S2) (bG:bZZ) (x6:bZZ) (bP:bZZ) (gm:bZZ) (gp:bZZ):UB x1 bG x6 bP gm gp=UF x1 bG 0 [] x6 bP gm gp:=by kernel_rfl
theorem aLK (x1:Sh.V S2) (bG:bZZ) (q2:Sh.V wz) (gm:bZZ) (gp:bZZ) (x6:bZZ) (qy:Int) (bP:bZZ) (dJ:bZY) (zh:bZZ):UA x1 bG q2 gm gp x6 qy bP dJ zh=chk (decide (x6.length+1<=aO)) (a01 x1 bG (x6 ++ ([.str dJ]:bZZ)) (i64.wrap (qy+1)) gm gp bP):=by kernel_rfl
theorem aLQ (x1:Sh.V S2) (bG:bZZ) (x113:Int) (oD:bZZ) (x6:bZZ) (bP:bZZ) (gm:bZZ) (gp:bZZ):UF x1 bG x113 oD x6 bP gm gp=aA (decide (x113<(x1.2.2.2.2.2.2.2.1.length:Int))) (aj Gv x1.2.2.2.2.2.2.2.1 x113 fun u2=>aA (x113==2) (UC x1 bG x6 bP gm gp oD) (chk (sW ([.int .u8 101,.int .u8 (IntKind.u8.wrap (48+(IntKind.u8.wrap x113)))]:bZZ)) (UG x1 bG u2 0 x6 x113 bP gm gp oD ((strOf ([.int .u8 101,.int .u8 (IntKind.u8.wrap (48+(IntKind.u8.wrap x113)))]:bZZ)),[],())))) (UC x1 bG x6 bP gm gp oD):=ll
theorem aLR (x1:Sh.V S2) (bG:bZZ) (q2:Sh.V Gv) (Cm:Int) (x6:bZZ) (x113:Int) (bP:bZZ) (gm:bZZ) (gp:bZZ) (oD:bZZ) (q3:Sh.V sU):UG x1 bG q2 Cm x6 x113 bP gm gp oD q3=aA (decide (Cm<(i64.wrap (1+(i64.wrap (Int.tmod q2.1 3)))))) (chk (decide (0<=(i64.wrap (1+Cm)))&&decide ((i64.wrap (1+Cm))<(4:Int))) (FW [.int .u8 q2.1,.int .u8 q2.2.1,.int .u8 q2.2.2.1,.int .u8 q2.2.2.2.1] (0+(i64.wrap (1+Cm)).toNat*1) fun e1=>vI .u8 e1 fun n2=>chk (!((x6.length:Int)==0)) (bz x6 (Int.tmod (i64.wrap n2) (x6.length:Int)) fun e3=>vS e3 fun s4=>chk (decide (0<=(i64.wrap (3-Cm)))&&decide ((i64.wrap (3-Cm))<(4:Int))) (FW [.int .u8 q2.1,.int .u8 q2.2.1,.int .u8 q2.2.2.1,.int .u8 q2.2.2.2.1] (0+(i64.wrap (3-Cm)).toNat*1) fun e5=>vI .u8 e5 fun n6=>chk (sW ([.int .u8 108,.int .u8 (IntKind.u8.wrap (48+(Int.tmod n6 5)))]:bZZ)) (chk (decide (q3.2.1.length+1<=aO)) (UG x1 bG q2 (i64.wrap (Cm+1)) x6 x113 bP gm gp oD (q3.1,(q3.2.1 ++ ([NK (s4,(strOf ([.int .u8 108,.int .u8 (IntKind.u8.wrap (48+(Int.tmod n6 5)))]:bZZ)),())]:bZZ)),()))))))) (chk (decide (oD.length+1<=aO)) (UF x1 bG (i64.wrap (x113+1)) (oD ++ ([ve q3]:bZZ)) x6 bP gm gp)):=ll
theorem bDG (x1:Sh.V S2) (bG:bZZ) (x6:bZZ) (bP:bZZ) (gm:bZZ) (gp:bZZ) (oD:bZZ):UC x1 bG x6 bP gm gp oD=a02 x1.2.2.2.2.2.2.2.2.1 bG 0 [] x6 bP gm gp oD:=by kernel_rfl
theorem aLS (x168:bZZ) (bG:bZZ) (Az:Int) (LM:bZZ) (x6:bZZ) (bP:bZZ) (gm:bZZ) (gp:bZZ) (oD:bZZ):a02 x168 bG Az LM x6 bP gm gp oD=aA (decide (Az<(x168.length:Int))) (aj Rn x168 Az fun u2=>aA (Az==2) (some (A0 (⟨#[109,111,100,101,108]⟩,bG,bP,gm,gp,oD,LM,()),[])) (chk (sW ([.int .u8 107,.int .u8 (IntKind.u8.wrap (48+(IntKind.u8.wrap Az)))]:bZZ)) (bz x6 0 fun e5=>vS e5 fun s6=>bz x6 (i64.wrap ((x6.length:Int)-1)) fun e7=>vS e7 fun s8=>chk (decide (0<=(i64.wrap (1+(Int.tmod Az 2))))&&decide ((i64.wrap (1+(Int.tmod Az 2)))<=2)) (chk (decide (LM.length+1<=aO)) (a02 x168 bG (i64.wrap (Az+1)) (LM ++ ([rD ((strOf ([.int .u8 107,.int .u8 (IntKind.u8.wrap (48+(IntKind.u8.wrap Az)))]:bZZ)),(([XL (s6,i64.wrap u2.1,()),XL (s8,i64.wrap u2.2.1,())]:bZZ).take (i64.wrap (1+(Int.tmod Az 2))).toNat),i64.wrap u2.2.2.1,())]:bZZ)) x6 bP gm gp oD))))) (some (A0 (⟨#[109,111,100,101,108]⟩,bG,bP,gm,gp,oD,LM,()),[])):=ll
theorem bDX (a0:Sh.V S2):SS.CC 11 [A2 a0] []=NR 28 [XM (a0.1,a0.2.1,a0.2.2.1,a0.2.2.2.1,a0.2.2.2.2.1,())] fun l1=>UH a0 l1 0 []:=cc
theorem bE3 (a0:Sh.V S0) (a1:Sh.V S0):SS.CC 16 [A0 a0,A0 a1] []=aA (a0.1.toList==a1.1.toList) (G3 92 [.sl false 5 a0.2.1,.sl false 5 a1.2.1] fun b1=>aA b1 (G3 93 [.sl false 9 a0.2.2.1,.sl false 9 a1.2.2.1,.func (.func 102) [] []] fun b3=>aA b3 (G3 94 [.sl false 3 a0.2.2.2.1,.sl false 3 a1.2.2.2.1,.func (.func 101) [] []] fun b5=>aA b5 (G3 94 [.sl false 3 a0.2.2.2.2.1,.sl false 3 a1.2.2.2.2.1,.func (.func 101) [] []] fun b7=>aA b7 (G3 95 [.sl false 2 a0.2.2.2.2.2.1,.sl false 2 a1.2.2.2.2.2.1,.func (.func 103) [] []] fun b9=>aA b9 (G3 98 [.sl false 3 a0.2.2.2.2.2.2.1,.sl false 3 a1.2.2.2.2.2.2.1,.func (.func 104) [] []] fun b11=>some (.bool b11,[])) (some (.bool false,[]))) (some (.bool false,[]))) (some (.bool false,[]))) (some (.bool false,[]))) (some (.bool false,[]))) (some (.bool false,[])):=cc
theorem b1N (a0:bZZ):SS.CC 22 [.sl false 7 a0,.func (.func 23) [] []] []=G1 118 [.sl false 7 a0,.func (.func 23) [] []] fun n1=>some (.bool (decide (0<=n1)),[]):=cc
theorem b1O (a0:Sh.V rJ):SS.CC 23 [AA a0] []=aA (decide (6<(a0.2.2.2.2.1.length:Int))) (some (.bool true,[])) (aA (decide (8<(a0.2.2.2.2.2.1.length:Int))) (some (.bool true,[])) (some (.bool (decide (200<(a0.2.2.2.2.2.2.1.length:Int))),[]))):=cc
def b1P:KT:=SS.rK Tryz.f28 28 0 []
def b1Q:KT:=SS.jK 28 55 0 (cS Tryz.f28 15) b1P
def b1R:KT:=ak 0 b1Q
def Jy (x1:Sh.V Ro) (x3:bZZ) (x4:Int):R:=SS.LL (SS.ae 28 55) 0 [1,3,4] 0 (cS Tryz.f28 75) b1R ⟨[(1,.cst (XM x1)),(3,.sl true 5 x3),(4,bZV x4)],[]⟩
theorem aIJ (x1:Sh.V Ro) (x3:bZZ) (x4:Int):Jy x1 x3 x4=aA (decide (x4<5)) (chk (sW ([.int .u8 (IntKind.u8.wrap (97+(IntKind.u8.wrap x4)))]:bZZ)) (chk (decide (x4<(5:Int))) (bz [.int .u8 x1.1,.int .u8 x1.2.1,.int .u8 x1.2.2.1,.int .u8 x1.2.2.2.1,.int .u8 x1.2.2.2.2.1] x4 fun e1=>vI .u8 e1 fun n2=>aA (decide (48<=n2)) (chk (decide (x4<(5:Int))) (bz [.int .u8 x1.1,.int .u8 x1.2.1,.int .u8 x1.2.2.1,.int .u8 x1.2.2.2.1,.int .u8 x1.2.2.2.2.1] x4 fun e3=>vI .u8 e3 fun n4=>aA (decide (n4<52)) (chk (decide (x4<(5:Int))) (bz [.int .u8 x1.1,.int .u8 x1.2.1,.int .u8 x1.2.2.1,.int .u8 x1.2.2.2.1,.int .u8 x1.2.2.2.2.1] x4 fun e5=>vI .u8 e5 fun n6=>chk (decide (x3.length+1<=aO)) (Jy x1 (x3 ++ ([A4 ((strOf ([.int .u8 (IntKind.u8.wrap (97+(IntKind.u8.wrap x4)))]:bZZ)),false,false,false,i64.wrap ((i64.wrap n6)-47),())]:bZZ)) (i64.wrap (x4+1))))) (chk (decide (x4<(5:Int))) (bz [.int .u8 x1.1,.int .u8 x1.2.1,.int .u8 x1.2.2.1,.int .u8 x1.2.2.2.1,.int .u8 x1.2.2.2.2.1] x4 fun e7=>vI .u8 e7 fun n8=>chk (decide (x4<(5:Int))) (bz [.int .u8 x1.1,.int .u8 x1.2.1,.int .u8 x1.2.2.1,.int .u8 x1.2.2.2.1,.int .u8 x1.2.2.2.2.1] x4 fun e9=>vI .u8 e9 fun n10=>chk (decide (x4<(5:Int))) (bz [.int .u8 x1.1,.int .u8 x1.2.1,.int .u8 x1.2.2.1,.int .u8 x1.2.2.2.1,.int .u8 x1.2.2.2.2.1] x4 fun e11=>vI .u8 e11 fun n12=>chk (decide (x3.length+1<=aO)) (Jy x1 (x3 ++ ([A4 ((strOf ([.int .u8 (IntKind.u8.wrap (97+(IntKind.u8.wrap x4)))]:bZZ)),((IntKind.u8.wrap (BitVec.ofInt 8 n8 &&& BitVec.ofInt 8 1).toNat)==1),((IntKind.u8.wrap (BitVec.ofInt 8 n10 &&& BitVec.ofInt 8 2).toNat)==2),((IntKind.u8.wrap (BitVec.ofInt 8 n12 &&& BitVec.ofInt 8 4).toNat)==4),0,())]:bZZ)) (i64.wrap (x4+1))))))))) (chk (decide (x4<(5:Int))) (bz [.int .u8 x1.1,.int .u8 x1.2.1,.int .u8 x1.2.2.1,.int .u8 x1.2.2.2.1,.int .u8 x1.2.2.2.2.1] x4 fun e13=>vI .u8 e13 fun n14=>chk (decide (x4<(5:Int))) (bz [.int .u8 x1.1,.int .u8 x1.2.1,.int .u8 x1.2.2.1,.int .u8 x1.2.2.2.1,.int .u8 x1.2.2.2.2.1] x4 fun e15=>vI .u8 e15 fun n16=>chk (decide (x4<(5:Int))) (bz [.int .u8 x1.1,.int .u8 x1.2.1,.int .u8 x1.2.2.1,.int .u8 x1.2.2.2.1,.int .u8 x1.2.2.2.2.1] x4 fun e17=>vI .u8 e17 fun n18=>chk (decide (x3.length+1<=aO)) (Jy x1 (x3 ++ ([A4 ((strOf ([.int .u8 (IntKind.u8.wrap (97+(IntKind.u8.wrap x4)))]:bZZ)),((IntKind.u8.wrap (BitVec.ofInt 8 n14 &&& BitVec.ofInt 8 1).toNat)==1),((IntKind.u8.wrap (BitVec.ofInt 8 n16 &&& BitVec.ofInt 8 2).toNat)==2),((IntKind.u8.wrap (BitVec.ofInt 8 n18 &&& BitVec.ofInt 8 4).toNat)==4),0,())]:bZZ)) (i64.wrap (x4+1)))))))))) (some (.sl false 5 x3,[])):=ll
theorem b1S (a0:Sh.V Ro):SS.CC 28 [XM a0] []=Jy a0 [] 0:=cc
def a6S:KT:=SS.rK Tryz.f29 29 0 []
def b1U:KT:=SS.jK 29 166 0 (cS Tryz.f29 63) a6S
def b1X:KT:=ak 0 b1U
def b1Y:KT:=SS.jK 29 166 0 (cS Tryz.f29 127) a6S
def b1Z:KT:=ak 2 b1Y
def b23:KT:=SS.jK 29 166 0 (cS Tryz.f29 255) a6S
def aIK:KT:=ak 4 b23
def b2A:KT:=SS.lK 29 166 0 [3,4,5,6,7,72,73,74] 3 (cS Tryz.f29 1215) aIK
def b2B:KT:=SS.jK 29 166 0 (cS Tryz.f29 15551) b2A
def aIL:KT:=ak 5 b2B
def b1V:KT:=SS.jK 29 166 0 (cS Tryz.f29 2084031) aIL
def b1W:KT:=ak 6 b1V
def Dp (x3:Sh.V rJ) (eQ:bZY) (bG:bZZ) (bP:bZZ) (jV:bZZ) (xu:Int) (fB:bZZ):R:=SS.LL (SS.ae 29 166) 0 [3,4,5,6,7,43,44] 3 (cS Tryz.f29 303) b1X ⟨[(3,.cst (AA x3)),(4,bZX),(5,.ptr 1 0),(6,bZV (bG.length:Int)),(7,.ptr 2 0),(43,bZV (bP.length:Int)),(44,bZV xu)],[fM (⟨#[]⟩,[],[],[],0,0,[],[],[],()),Rj (eQ,bG,bP,[],0,0,[],[],[],()),Rk (fB,(bG.length:Int),Int.tmod (i64.wrap x3.2.2.1) (bG.length:Int),[],jV,[],())]⟩
def Jz (x3:Sh.V rJ) (eQ:bZY) (bG:bZZ) (bP:bZZ) (jV:bZZ) (x55:Int) (mG:bZZ) (fB:bZZ):R:=SS.LL (SS.ae 29 166) 0 [3,4,5,6,7,54,55] 3 (cS Tryz.f29 607) b1Z ⟨[(3,.cst (AA x3)),(4,bZX),(5,.ptr 1 0),(6,bZV (bG.length:Int)),(7,.ptr 2 0),(54,bZV (bG.length:Int)),(55,bZV x55)],[fM (⟨#[]⟩,[],[],[],0,0,[],[],[],()),Rj (eQ,bG,bP,[],0,0,[],[],[],()),Rk (fB,(bG.length:Int),Int.tmod (i64.wrap x3.2.2.1) (bG.length:Int),mG,jV,[],())]⟩
def Hq (x3:Sh.V rJ) (eQ:bZY) (bG:bZZ) (bP:bZZ) (jV:bZZ) (iW:Int) (qo:bZZ) (fB:bZZ) (mG:bZZ):R:=SS.LL (SS.ae 29 166) 0 [3,4,5,6,7,72,73,74] 3 (cS Tryz.f29 1215) aIK ⟨[(3,.cst (AA x3)),(4,bZX),(5,.ptr 1 0),(6,bZV (bG.length:Int)),(7,.ptr 2 0),(72,.sl false 3 x3.2.2.2.2.2.1),(73,bZV (x3.2.2.2.2.2.1.length:Int)),(74,bZV iW)],[fM (⟨#[]⟩,[],[],[],0,0,[],[],[],()),Rj (eQ,bG,bP,[],0,0,[],[],[],()),Rk (fB,(bG.length:Int),Int.tmod (i64.wrap x3.2.2.1) (bG.length:Int),mG,jV,qo,())]⟩
def Z8 (x3:Sh.V rJ) (eQ:bZY) (bG:bZZ) (bP:bZZ) (jV:bZZ) (q3:Sh.V wz) (vH:Int) (vJ:Int) (vK:Int) (vM:bZZ) (x12:bZZ) (iW:Int) (fB:bZZ) (mG:bZZ) (qo:bZZ):R:=bH (SS.xX 29 166 0) (cS Tryz.f29 1035455) aIL ⟨[(3,.cst (AA x3)),(4,bZX),(5,.ptr 1 0),(6,bZV (bG.length:Int)),(7,.ptr 2 0),(11,.ptr 3 0),(12,bZW x12),(13,.ptr 4 0),(72,.sl false 3 x3.2.2.2.2.2.1),(73,bZV (x3.2.2.2.2.2.1.length:Int)),(74,bZV iW)],[fM (⟨#[]⟩,[],[],[],0,0,[],[],[],()),Rj (eQ,bG,bP,[],0,0,[],[],[],()),Rk (fB,(bG.length:Int),Int.tmod (i64.wrap x3.2.2.1) (bG.length:Int),mG,jV,qo,()),Xd q3,sS (Int.tmod (i64.wrap q3.1) (bG.length:Int),Int.tmod (i64.wrap q3.2.1) (bP.length:Int),Int.tmod (i64.wrap q3.2.2.1) (bG.length:Int),vH,vJ,vK,vM,[],())]⟩
def OZ (x3:Sh.V rJ) (eQ:bZY) (bG:bZZ) (bP:bZZ) (jV:bZZ) (q3:Sh.V wz) (vH:Int) (vJ:Int) (vK:Int) (vM:bZZ) (Cj:Int) (LQ:bZZ) (x12:bZZ) (iW:Int) (fB:bZZ) (mG:bZZ) (qo:bZZ):R:=SS.LL (SS.ae 29 166) 0 [3,4,5,6,7,11,12,13,72,73,74,126,127] 5 (cS Tryz.f29 9948351) b1W ⟨[(3,.cst (AA x3)),(4,bZX),(5,.ptr 1 0),(6,bZV (bG.length:Int)),(7,.ptr 2 0),(11,.ptr 3 0),(12,bZW x12),(13,.ptr 4 0),(72,.sl false 3 x3.2.2.2.2.2.1),(73,bZV (x3.2.2.2.2.2.1.length:Int)),(74,bZV iW),(126,bZV (jV.length:Int)),(127,bZV Cj)],[fM (⟨#[]⟩,[],[],[],0,0,[],[],[],()),Rj (eQ,bG,bP,[],0,0,[],[],[],()),Rk (fB,(bG.length:Int),Int.tmod (i64.wrap x3.2.2.1) (bG.length:Int),mG,jV,qo,()),Xd q3,sS (Int.tmod (i64.wrap q3.1) (bG.length:Int),Int.tmod (i64.wrap q3.2.1) (bP.length:Int),Int.tmod (i64.wrap q3.2.2.1) (bG.length:Int),vH,vJ,vK,vM,LQ,())]⟩
theorem aIP (x3:Sh.V rJ) (eQ:bZY) (bG:bZZ) (bP:bZZ) (jV:bZZ) (xu:Int) (fB:bZZ):Dp x3 eQ bG bP jV xu fB=aA (decide (xu<(bP.length:Int))) (chk (decide (fB.length+1<=aO)) (Dp x3 eQ bG bP jV (i64.wrap (xu+1)) (fB ++ ([bZV xu]:bZZ)))) (Jz x3 eQ bG bP jV 0 [] fB):=ll
theorem aIM (x3:Sh.V rJ) (eQ:bZY) (bG:bZZ) (bP:bZZ) (jV:bZZ) (x55:Int) (mG:bZZ) (fB:bZZ):Jz x3 eQ bG bP jV x55 mG fB=aA (decide (x55<(bG.length:Int))) (chk (decide (0<=x55)) (aA ((IntKind.u8.wrap (BitVec.ofInt 8 (Int.fdiv x3.2.2.2.1 (2 ^ min x55.toNat 8)) &&& BitVec.ofInt 8 1).toNat)==1) (chk (decide (mG.length+1<=aO)) (Jz x3 eQ bG bP jV (i64.wrap (x55+1)) (mG ++ ([bZV x55]:bZZ)) fB)) (Jz x3 eQ bG bP jV (i64.wrap (x55+1)) mG fB))) (Hq x3 eQ bG bP jV 0 [] fB mG):=ll
theorem aIN (x3:Sh.V rJ) (eQ:bZY) (bG:bZZ) (bP:bZZ) (jV:bZZ) (iW:Int) (qo:bZZ) (fB:bZZ) (mG:bZZ):Hq x3 eQ bG bP jV iW qo fB mG=nN fun ag=>aA (decide (iW<(x3.2.2.2.2.2.1.length:Int))) (aj wz x3.2.2.2.2.2.1 iW fun u2=>aA (iW==4) (some (A5 (eQ,bG,bP,fB,(bG.length:Int),Int.tmod (i64.wrap x3.2.2.1) (bG.length:Int),mG,jV,qo,()),[])) (aA ((bP.length:Int)==0) (some (A5 (eQ,bG,bP,fB,(bG.length:Int),Int.tmod (i64.wrap x3.2.2.1) (bG.length:Int),mG,jV,qo,()),[])) (chk (decide (0<=(if (i64.wrap (9*iW))<(x3.2.2.2.2.2.2.1.length:Int) then (i64.wrap (9*iW)) else (x3.2.2.2.2.2.2.1.length:Int)))&&decide ((if (i64.wrap (9*iW))<(x3.2.2.2.2.2.2.1.length:Int) then (i64.wrap (9*iW)) else (x3.2.2.2.2.2.2.1.length:Int))<=(x3.2.2.2.2.2.2.1.length:Int))) (qM 133 [] fun u5=>(fun w (c d:R->R)=>(fun z0 z1 z2 z3 z4 z5=>dD z0 (dD (dD z1 (dD z2 (dD z3 z4))) (dD (dD z1 (dD z2 (dD z3 z4))) (dD z5 z4)))) (c ((fun z0 z1 z2 z3=>dD (dD z0 (dD z1 z2)) (dD (dD z0 (dD z1 z2)) (dD z3 z2))) (d (ag 1 (c w))) (c (ag 1 (d w))) (d (c w)) (c ((fun z0 z1=>dD z0 (dD z0 z1)) (ag 1 (d w)) (d w))))) (c (dD (d (ag 1 (c w))) (dD (c (ag 1 (d w))) (d (c w))))) (d ((fun z0 z1=>dD z0 (dD z0 z1)) (c (ag 1 (c w))) (c (c w)))) (c (dD (c (ag 1 (d w))) (dD (d (ag 1 (c w))) (c (d w))))) (c (d (c w))) (c ((fun z0 z1 z2 z3=>dD z0 (dD (dD z1 (dD z2 z3)) (dD (dD z1 (dD z2 z3)) z3))) (c ((fun z0 z1=>dD z0 (dD z0 z1)) (ag 1 (d w)) (d w))) (c (ag 1 (d w))) (d (ag 1 (c w))) (c (d w))))) (aA (decide (128<=u2.1)) (qM 134 [bZW (x3.2.2.2.2.2.2.1.drop (if (i64.wrap (9*iW))<(x3.2.2.2.2.2.2.1.length:Int) then (i64.wrap (9*iW)) else (x3.2.2.2.2.2.2.1.length:Int)).toNat),bZV (jV.length:Int),bZV 2] fun u10=>Z8 x3 eQ bG bP jV u2 u10.1 u10.2.1 u10.2.2.1 u10.2.2.2.1 (x3.2.2.2.2.2.2.1.drop (if (i64.wrap (9*iW))<(x3.2.2.2.2.2.2.1.length:Int) then (i64.wrap (9*iW)) else (x3.2.2.2.2.2.2.1.length:Int)).toNat) iW fB mG qo) (Z8 x3 eQ bG bP jV u2 u5.1 u5.2.1 u5.2.2.1 u5.2.2.2.1 (x3.2.2.2.2.2.2.1.drop (if (i64.wrap (9*iW))<(x3.2.2.2.2.2.2.1.length:Int) then (i64.wrap (9*iW)) else (x3.2.2.2.2.2.2.1.length:Int)).toNat) iW fB mG qo)) (chk (!((bG.length:Int)==0))) (chk (!((bP.length:Int)==0))))))) (some (A5 (eQ,bG,bP,fB,(bG.length:Int),Int.tmod (i64.wrap x3.2.2.1) (bG.length:Int),mG,jV,qo,()),[])):=zF ll
theorem b1T (x3:Sh.V rJ) (eQ:bZY) (bG:bZZ) (bP:bZZ) (jV:bZZ) (q3:Sh.V wz) (vH:Int) (vJ:Int) (vK:Int) (vM:bZZ) (x12:bZZ) (iW:Int) (fB:bZZ) (mG:bZZ) (qo:bZZ):Z8 x3 eQ bG bP jV q3 vH vJ vK vM x12 iW fB mG qo=OZ x3 eQ bG bP jV q3 vH vJ vK vM 0 [] x12 iW fB mG qo:=by kernel_rfl
theorem aIO (x3:Sh.V rJ) (eQ:bZY) (bG:bZZ) (bP:bZZ) (jV:bZZ) (q3:Sh.V wz) (vH:Int) (vJ:Int) (vK:Int) (vM:bZZ) (Cj:Int) (LQ:bZZ) (x12:bZZ) (iW:Int) (fB:bZZ) (mG:bZZ) (qo:bZZ):OZ x3 eQ bG bP jV q3 vH vJ vK vM Cj LQ x12 iW fB mG qo=aA (decide (Cj<(jV.length:Int))) (chk (decide (0<=(i64.wrap (Cj+3)))) (aA ((IntKind.u8.wrap (BitVec.ofInt 8 (Int.fdiv q3.2.2.1 (2 ^ min (i64.wrap (Cj+3)).toNat 8)) &&& BitVec.ofInt 8 1).toNat)==1) ((fun w=>chk (decide (0<=w)&&decide (w<=(x12.length:Int))) (qM 134 [bZW (x12.drop w.toNat),bZV (jV.length:Int),bZV 1] fun u1=>chk (decide (LQ.length+1<=aO)) (OZ x3 eQ bG bP jV q3 vH vJ vK vM (i64.wrap (Cj+1)) (LQ ++ ([BF (Cj,u1.1,u1.2.1,u1.2.2.1,u1.2.2.2.1,())]:bZZ)) x12 iW fB mG qo))) (if (i64.wrap (Cj+1))<(x12.length:Int) then (i64.wrap (Cj+1)) else (x12.length:Int))) (OZ x3 eQ bG bP jV q3 vH vJ vK vM (i64.wrap (Cj+1)) LQ x12 iW fB mG qo))) (chk (decide (qo.length+1<=aO)) (Hq x3 eQ bG bP jV (i64.wrap (iW+1)) (qo ++ ([A9 (Int.tmod (i64.wrap q3.1) (bG.length:Int),Int.tmod (i64.wrap q3.2.1) (bP.length:Int),Int.tmod (i64.wrap q3.2.2.1) (bG.length:Int),vH,vJ,vK,vM,LQ,())]:bZZ)) fB mG)):=ll
theorem b2C (a0:bZY) (a1:Sh.V rJ):SS.CC 29 [.str a0,AA a1] []=nN fun ag=>dD (G4 131 [.int .u8 118,bZV (i64.wrap (Int.tmod a1.1 4))] fun l1=>ag 1 (G4 131 [.int .u8 108,bZV (i64.wrap (1+(i64.wrap (Int.tmod a1.2.1 4))))] fun l3=>dD (chk (!((l3.length:Int)==0)) (ag 1 (JW 132 [.sl false 2 a1.2.2.2.2.1] fun l5=>Dp a1 a0 l3 l1 l5 0 []))) (dD (JW 132 [.sl false 2 a1.2.2.2.2.1] fun l5=>ag 1 (chk (!((l3.length:Int)==0)) (Dp a1 a0 l3 l1 l5 0 []))) (chk (!((l3.length:Int)==0)) (JW 132 [.sl false 2 a1.2.2.2.2.1] fun l5=>Dp a1 a0 l3 l1 l5 0 []))))) ((fun w=>dD (ag 1 w) w) (G4 131 [.int .u8 118,bZV (i64.wrap (Int.tmod a1.1 4))] fun l1=>G4 131 [.int .u8 108,bZV (i64.wrap (1+(i64.wrap (Int.tmod a1.2.1 4))))] fun l3=>dD (chk (!((l3.length:Int)==0)) (ag 1 (JW 132 [.sl false 2 a1.2.2.2.2.1] fun l5=>Dp a1 a0 l3 l1 l5 0 []))) (dD (JW 132 [.sl false 2 a1.2.2.2.2.1] fun l5=>ag 1 (chk (!((l3.length:Int)==0)) (Dp a1 a0 l3 l1 l5 0 []))) (chk (!((l3.length:Int)==0)) (JW 132 [.sl false 2 a1.2.2.2.2.1] fun l5=>Dp a1 a0 l3 l1 l5 0 []))))):=zF cc
def b8M:KT:=SS.rK Tryz.f118 118 0 []
def b8N:KT:=SS.jK 118 19 0 (cS Tryz.f118 7) b8M
def b8O:KT:=ak 0 b8N
def Za (x0:bZZ) (x8:Int):R:=SS.LL (SS.ae 118 19) 0 [0,1,7,8] 0 (cS Tryz.f118 37) b8O ⟨[(0,.sl false 7 x0),(1,.func (.func 23) [] []),(7,bZV (x0.length:Int)),(8,bZV x8)],[]⟩
theorem aKD (x0:bZZ) (x8:Int):Za x0 x8=aA (decide (x8<(x0.length:Int))) (aj rJ x0 x8 fun u2=>G3 23 [AA u2] fun b9=>aA b9 (some (bZV x8,[])) (Za x0 (i64.wrap (x8+1)))) (some (bZV (-1),[])):=ll
theorem b8P (a0:bZZ):SS.CC 118 [.sl false 7 a0,.func (.func 23) [] []] []=Za a0 0:=cc
def b8Q:KT:=SS.rK Tryz.f132 132 0 []
def b8R:KT:=SS.jK 132 60 0 (cS Tryz.f132 15) b8Q
def b8S:KT:=ak 0 b8R
def Zb (x0:bZZ) (x3:bZZ) (x4:Int):R:=SS.LL (SS.ae 132 60) 0 [0,3,4] 0 (cS Tryz.f132 75) b8S ⟨[(0,.sl false 2 x0),(3,.sl true 4 x3),(4,bZV x4)],[]⟩
theorem aKE (x0:bZZ) (x3:bZZ) (x4:Int):Zb x0 x3 x4=aA (decide (x4<(x0.length:Int))) (aA (decide (x4<3)) (aj Nu x0 x4 fun u2=>aj Nu x0 x4 fun u5=>chk (sW ([.int .u8 (IntKind.u8.wrap (48+(IntKind.u8.wrap x4)))]:bZZ)) (chk (decide ((⟨#[120]⟩:bZY).size+(strOf ([.int .u8 (IntKind.u8.wrap (48+(IntKind.u8.wrap x4)))]:bZZ)).size<=aO)) (aj Nu x0 x4 fun u8=>chk (!((i64.wrap ((i64.wrap (Int.tmod (IntKind.u8.wrap u5.2.1) 4))+1))==0)) (chk (decide (x3.length+1<=aO)) (Zb x0 (x3 ++ ([A7 ((⟨#[120]⟩:bZY) ++ (strOf ([.int .u8 (IntKind.u8.wrap (48+(IntKind.u8.wrap x4)))]:bZZ)),i64.wrap (Int.tmod u2.1 5),i64.wrap ((i64.wrap (Int.tmod u2.1 5))+(i64.wrap (Int.tmod (IntKind.u8.wrap u5.2.1) 4))),i64.wrap ((i64.wrap (Int.tmod u2.1 5))+(Int.tmod (i64.wrap (IntKind.u8.wrap (Int.tdiv (IntKind.u8.wrap u8.2.1) 4))) (i64.wrap ((i64.wrap (Int.tmod (IntKind.u8.wrap u5.2.1) 4))+1)))),())]:bZZ)) (i64.wrap (x4+1))))))) (some (.sl false 4 x3,[]))) (some (.sl false 4 x3,[])):=ll
theorem b8T (a0:bZZ):SS.CC 132 [.sl false 2 a0] []=Zb a0 [] 0:=cc
theorem b8U (a0:bZZ) (a1:Int) (a2:Int):SS.CC 134 [bZW a0,bZV a1,bZV a2] []=chk (decide (0<=(if (60:Int)<(a0.length:Int) then (60:Int) else (a0.length:Int)))&&decide ((if (60:Int)<(a0.length:Int) then (60:Int) else (a0.length:Int))<=(a0.length:Int))) (qN 218 [bZX,bZV a2,bZV 5] [ig ((a0.take (if (60:Int)<(a0.length:Int) then (60:Int) else (a0.length:Int)).toNat),a1,0,())] fun u1 u5=>some (A1 u1,[])):=cc
theorem aKW (a1:Int) (a2:Int) (h0:Sh.V zD):SS.CC 218 [bZX,bZV a1,bZV a2] [ig h0]=H79 280 [bZX] [ig (h0.1,h0.2.1,i64.wrap (h0.2.2.1+1),())] fun n1 u2=>aA (a1==1) ((fun w=>aA (decide (a2<=1)) w (aA (decide (12<u2.2.2.1)) w (aA (decide ((Int.tmod n1 8)<4)) w (aA ((Int.tmod n1 8)==4) (qN 218 [bZX,bZV a1,bZV (i64.wrap (a2-1))] [ig u2] fun u7 u11=>some (A1 (5,0,0,[A1 u7],()),[ig u11])) (aA ((Int.tmod n1 8)==5) (qN 218 [bZX,bZV 2,bZV (i64.wrap (a2-1))] [ig u2] fun u16 u20=>qN 218 [bZX,bZV a1,bZV (i64.wrap (a2-1))] [ig u20] fun u25 u29=>qN 218 [bZX,bZV a1,bZV (i64.wrap (a2-1))] [ig u29] fun u34 u38=>some (A1 (13,0,0,[A1 u16,A1 u25,A1 u34],()),[ig u38])) (qN 218 [bZX,bZV a1,bZV (i64.wrap (a2-1))] [ig u2] fun u43 MM=>qN 218 [bZX,bZV a1,bZV (i64.wrap (a2-1))] [ig MM] fun u52 u56=>some (A1 (i64.wrap (2+(Int.tmod (i64.wrap (Int.tdiv n1 8)) 3)),0,0,[A1 u43,A1 u52],()),[ig u56]))))))) (aA ((Int.tmod n1 2)==0) (aA (decide (0<u2.2.1)) (chk (!(u2.2.1==0)) (some (A1 (1,0,Int.tmod (i64.wrap (Int.tdiv n1 8)) u2.2.1,[],()),[ig u2]))) (some (A1 (0,i64.wrap ((i64.wrap (Int.tdiv n1 8))-8),0,[],()),[ig u2]))) (some (A1 (0,i64.wrap ((i64.wrap (Int.tdiv n1 8))-8),0,[],()),[ig u2])))) (aA (decide (a2<=1)) (qM 281 [.bool ((Int.tmod n1 2)==0)] fun u61=>some (A1 u61,[ig u2])) (aA (decide (a2<=2)) (qN 218 [bZX,bZV 1,bZV (i64.wrap (a2-1))] [ig u2] fun u66 u70=>qN 218 [bZX,bZV 1,bZV (i64.wrap (a2-1))] [ig u70] fun u75 We=>some (A1 (i64.wrap (6+(Int.tmod (i64.wrap (Int.tdiv n1 8)) 4)),0,0,[A1 u66,A1 u75],()),[ig We])) (aA (decide (12<u2.2.2.1)) (qN 218 [bZX,bZV 1,bZV (i64.wrap (a2-1))] [ig u2] fun MO u88=>qN 218 [bZX,bZV 1,bZV (i64.wrap (a2-1))] [ig u88] fun u93 u97=>some (A1 (i64.wrap (6+(Int.tmod (i64.wrap (Int.tdiv n1 8)) 4)),0,0,[A1 MO,A1 u93],()),[ig u97])) (aA (decide ((Int.tmod n1 8)<4)) (qN 218 [bZX,bZV 1,bZV (i64.wrap (a2-1))] [ig u2] fun ML WJ=>qN 218 [bZX,bZV 1,bZV (i64.wrap (a2-1))] [ig WJ] fun WL bUB=>some (A1 (i64.wrap (6+(Int.tmod (i64.wrap (Int.tdiv n1 8)) 4)),0,0,[A1 ML,A1 WL],()),[ig bUB])) (aA ((Int.tmod n1 8)==4) (qN 218 [bZX,bZV a1,bZV (i64.wrap (a2-1))] [ig u2] fun WN u124=>some (A1 (10,0,0,[A1 WN],()),[ig u124])) (aA ((Int.tmod n1 8)==5) (qN 218 [bZX,bZV a1,bZV (i64.wrap (a2-1))] [ig u2] fun WP bUD=>qN 218 [bZX,bZV a1,bZV (i64.wrap (a2-1))] [ig bUD] fun u138 bUG=>qN 218 [bZX,bZV a1,bZV (i64.wrap (a2-1))] [ig bUG] fun WU bUJ=>some (A1 (13,0,0,[A1 WP,A1 u138,A1 WU],()),[ig bUJ])) (qN 218 [bZX,bZV a1,bZV (i64.wrap (a2-1))] [ig u2] fun WV bUL=>qN 218 [bZX,bZV a1,bZV (i64.wrap (a2-1))] [ig bUL] fun WX bUN=>some (A1 (i64.wrap (11+(Int.tmod (i64.wrap (Int.tdiv n1 8)) 2)),0,0,[A1 WV,A1 WX],()),[ig bUN])))))))):=cc
theorem bCU (h0:Sh.V zD):SS.CC 280 [bZX] [ig h0]=aA ((h0.1.length:Int)==0) (some (bZV 0,[ig h0])) (bz h0.1 0 fun e1=>vI .u8 e1 fun n2=>chk (decide (0<=1)&&decide (1<=(h0.1.length:Int))) (some (bZV (i64.wrap n2),[ig ((h0.1.drop (1:Int).toNat),h0.2.1,h0.2.2.1,())]))):=cc
def bCV:KT:=SS.rK Tryz.f281 281 0 []
def a7L (x3:Int):R:=bH (SS.xX 281 10 0) (cS Tryz.f281 15) bCV ⟨[(2,bZX),(3,bZV x3)],[Xe (0,0,0,[],())]⟩
theorem aLB (x3:Int):a7L x3=some (A1 (x3,0,0,[A1 (0,0,0,[],()),A1 (0,0,0,[],())],()),[]):=by kernel_rfl
theorem bCW (a0:Bool):SS.CC 281 [.bool a0] []=aA a0 (a7L 6) (a7L 7):=cc
end
inductive Ty (nv:Int):Int->EX->Prop
 | Ez {v:Int} : -8<=v->v<=23->Ty nv 1 (nE v)
 | var {i:Int}:0<=i->i<nv->Ty nv 1 (vE i)
 | neg {a:EX}:Ty nv 1 a->Ty nv 1 (kN 5 a)
 | xR {a:EX}:Ty nv 2 a->Ty nv 2 (kN 10 a)
 | ar {o:Int} {a b:EX}:2<=o->o<=4->Ty nv 1 a->Ty nv 1 b->Ty nv 1 (lS o a b)
 | cmp {o:Int} {a b:EX}:6<=o->o<=9->Ty nv 1 a->Ty nv 1 b->Ty nv 2 (lS o a b)
 | log {o:Int} {a b:EX}:11<=o->o<=12->Ty nv 2 a->Ty nv 2 b->Ty nv 2 (lS o a b)
 | ite {k:Int} {c a b:EX}:Ty nv 2 c->Ty nv k a->Ty nv k b->Ty nv k (.node 13 0 0 [c,a,b])
theorem aVO {nv k:Int} (h:Ty nv k x):k=1\/k=2:=by induction h<;>simp_all
abbrev yE (l:bZ'):bZZ:=l.map fun c => .int .u8 (c.toNat:Int)
abbrev GO (l:bZ') (nv n:Int):aG := [ig (yE l,nv,n,())]
theorem nx (l:bZ') (nv n:Int):∃ b l',SS.CC 280 [bZX] (GO l nv n)=some (bZV b,GO l' nv n)/\0<=b/\b<=255:=by
 rw[bCU];cases l with
 | nil=>simp
 | cons c r =>have hc:=c.toNat_lt;refine ⟨(c.toNat:Int),r,?_,by omega,by omega⟩;rw[nS (by decide) rfl,ui,aQ (by simp; omega),wrap64 (by omega) (by omega)];rfl
def gT:Nat->Int
 | 0=>1
 | n+1=>1+3*gT n
theorem a0L:∀ n,1<=gT n
 | 0=>by decide
 | n+1=>by have:=a0L n; rw[gT]; omega
structure Gr (nv k:Int) (lv:Nat) (n:Int) (x:EX) (n':Int):Prop where
 ty:Ty nv k x
 dp:gJ x<=lv+2
 lo:n+1<=n'
 hi:n'<=n+gT lv
 s1:n'<=12->(fU x:Int)<=3*(n'-n)
 s2:12<n'->(fU x:Int)<=3*(12-min n 12)+3*(1+2*(lv:Int))
 s3:12<=n->(fU x:Int)<=3
 s4:12<=n->k=1->fU x=1
section
variable {nv n:Int} {lv:Nat}
theorem a8B {k:Int} (h:Ty nv k x) (hs:fU x=1) (hd:gJ x=1):Gr nv k lv n x (n+1):=by have:=a0L lv;exact ⟨h,by omega,by omega,by omega,by omega,by omega,by omega,fun _ _=>hs⟩
theorem aN7 {o k k':Int} {n1:Int} (hn:n+1<=12) (h:Ty nv k (kN o a)) (ha:Gr nv k' lv (n+1) a n1):Gr nv k (lv+1) n (kN o a) n1:=by
 obtain ⟨a1,a2,a3,a4,a5,a6,a7,a8⟩:=ha;have e1:gJ (kN o a)=gJ a+1:=by simp[gJ,AP]
 have e2:fU (kN o a)=fU a+1:=by rfl
 refine ⟨h,by omega,by omega,by rw[gT]; omega,fun h => ?_,fun h => ?_,by omega,by omega⟩;omega;omega
theorem a8A {o k k1 k2:Int} {b:EX} {n1 n2:Int} (h:Ty nv k (lS o a b)) (ha:Gr nv k1 lv (n+1) a n1) (hb:Gr nv k2 lv n1 b n2) (hs:12<=n->k=2/\k1=1/\k2=1):Gr nv k (lv+1) n (lS o a b) n2:=by
 obtain ⟨a1,a2,a3,a4,a5,a6,a7,a8⟩:=ha;obtain ⟨b1,b2,b3,b4,b5,b6,b7,b8⟩:=hb;have e1:gJ (lS o a b)=max (gJ a) (gJ b)+1:=by simp[gJ,AP]
 have e2:fU (lS o a b)=fU a+fU b+1:=by rfl
 refine ⟨h,by omega,by omega,by rw[gT]; omega,fun h => ?_,fun h => ?_,fun h => ?_,fun h hk=>by omega⟩;grind
 grind
 omega
theorem aN8 {k k1 k2 k3:Int} {c b:EX} {n1 n2 n3:Int} (hn:n+1<=12) (h:Ty nv k (.node 13 0 0 [c,a,b])) (hc:Gr nv k1 lv (n+1) c n1) (ha:Gr nv k2 lv n1 a n2) (hb:Gr nv k3 lv n2 b n3):Gr nv k (lv+1) n (.node 13 0 0 [c,a,b]) n3:=by
 obtain ⟨a1,a2,a3,a4,a5,a6,a7,a8⟩:=hc;obtain ⟨b1,b2,b3,b4,b5,b6,b7,b8⟩:=ha;obtain ⟨c1,c2,c3,c4,c5,c6,c7,c8⟩:=hb;have e1:gJ (.node 13 0 0 [c,a,b])=max (gJ c) (max (gJ a) (gJ b))+1:=by simp[gJ,AP]
 have e2:fU (.node 13 0 0 [c,a,b])=fU c+(fU a+fU b)+1:=by rfl
 refine ⟨h,by omega,by omega,by rw[gT]; omega,fun h => ?_,fun h => ?_,by omega,by omega⟩;grind
 grind
end
theorem aPX {nv b:Int} (h0:0<=nv) (hb:0<=b/\b<=255) (o:aG):∃ x,aA (Int.tmod b 2==0) (aA (decide (0<nv)) (chk (!(nv==0)) (some (A1 (1,0,Int.tmod (i64.wrap (Int.tdiv b 8)) nv,[],()),o))) (some (A1 (0,i64.wrap (i64.wrap (Int.tdiv b 8)-8),0,[],()),o))) (some (A1 (0,i64.wrap (i64.wrap (Int.tdiv b 8)-8),0,[],()),o))=some (A1 (ev x),o)/\Ty nv 1 x/\fU x=1/\gJ x=1:=by
 have hd:Int.tdiv b 8=b / 8:=Int.tdiv_eq_ediv_of_nonneg hb.1;rw[hd,wrap64 (by omega) (by omega),wrap64 (by omega) (by omega)];have hv:∃ x,(some (A1 (0,b / 8-8,0,[],()),o):R)=some (A1 (ev x),o)/\Ty nv 1 x/\fU x=1/\gJ x=1:=⟨nE (b / 8-8),by rw[Jo],.Ez (by omega) (by omega),rfl,rfl⟩;cases Int.tmod b 2==0 with
 | false=>exact hv
 | true =>
  rw[aI];by_cases h:0<nv
  .rw[aN h,aQ (by simp; omega),a4E (by omega)];have a:=Int.emod_nonneg (b / 8) (show nv≠0 by omega);have c:=Int.emod_lt_of_pos (b / 8) h;exact ⟨vE (b / 8 % nv),by rfl,.var a c,rfl,rfl⟩
  grind [aC]
theorem aN9 {nv:Int} (hv:0<=nv/\nv<=16):∀ (lv:Nat) (k:Int) (l:bZ') (n:Int),(k=1\/k=2)->lv<=10->0<=n->n+gT lv<=1000000 ->
 ∃ x l' n',SS.CC 218 [bZX,bZV k,bZV ((lv:Int)+1)] (GO l nv n)=some (A1 (ev x),GO l' nv n')/\Gr nv k lv n x n'
 | 0,k,l,n,hk,hlv,h0,h1=>by
  have:=a0L 0;obtain ⟨b,l',e,hb⟩:=nx l nv (n+1);rw[aKW];try dsimp only
  rw[wrap64 (n:=n+1) (by omega) (by omega),aEZ e];try dsimp only
  rcases hk with rfl | rfl
  .rw[show ((1:Int)==1)=true from rfl,aI,aN (by decide),aI];obtain ⟨x,e2,t1,t2,t3⟩:=aPX hv.1 hb (GO l' nv (n+1));grind [a8B]
  .rw[show ((2:Int)==1)=false from rfl,aC,aN (by decide),aI];have ht:∀ c:Bool,SS.CC 281 [.bool c] []=some (A1 (ev (if c then tE else fE)),[]):=fun c=>by rw[bCW,aLB,aLB];cases c<;>rfl
   rw[dN (ht _)];refine ⟨_,l',n+1,rfl,?_⟩;have hz:Ty nv 1 (nE 0) := .Ez (by decide) (by decide);cases Int.tmod b 2==0 with
   | true=>exact ⟨.cmp (o:=6) (by decide) (by decide) hz hz,by decide,by omega,by rw[gT]; omega,fun _=>by show (3:Int)<=_; omega,fun _=>by show (3:Int)<=_; omega,fun _=>by decide,fun _ h=>by cases h⟩
   | false=>exact ⟨.cmp (o:=7) (by decide) (by decide) hz hz,by decide,by omega,by rw[gT]; omega,fun _=>by show (3:Int)<=_; omega,fun _=>by show (3:Int)<=_; omega,fun _=>by decide,fun _ h=>by cases h⟩
 | lv+1,k,l,n,hk,hlv,h0,h1=>by
  have hp:=a0L lv;rw[gT] at h1;obtain ⟨b,l0,e,hb⟩:=nx l nv (n+1);have ih:=aN9 hv lv;have et:∀ q:Int,Int.tmod b q=b % q:=fun q=>a4E hb.1
  have ed:i64.wrap (Int.tdiv b 8)=b / 8:=by rw[Int.tdiv_eq_ediv_of_nonneg hb.1,wrap64 (by omega) (by omega)]
  have el:i64.wrap (((lv+1:Nat):Int)+1-1)=(lv:Int)+1:=by rw[wrap64 (by omega) (by omega)]; omega
  have w3:i64.wrap (2+Int.tmod (b / 8) 3)=2+b / 8 % 3:=by rw[a4E (by omega),wrap64 (by omega) (by omega)]
  have w4:i64.wrap (6+Int.tmod (b / 8) 4)=6+b / 8 % 4:=by rw[a4E (by omega),wrap64 (by omega) (by omega)]
  have w2:i64.wrap (11+Int.tmod (b / 8) 2)=11+b / 8 % 2:=by rw[a4E (by omega),wrap64 (by omega) (by omega)]
  have leaf:=aPX hv.1 hb (GO l0 nv (n+1));rw[aKW];try dsimp only
  rw[wrap64 (n:=n+1) (by omega) (by omega),aEZ e];try dsimp only
  rw[el,aW (show ¬ (((lv+1:Nat):Int)+1<=1) by omega)];rcases hk with rfl | rfl
  .rw[show ((1:Int)==1)=true from rfl,aI,aC];by_cases c1:12<n+1
   .rw[aN c1,aI];grind [a8B]
   rw[aW c1,aC];by_cases c2:Int.tmod b 8<4
   .rw[aN c2,aI];grind [a8B]
   rw[aW c2,aC];by_cases c3:Int.tmod b 8=4
   .obtain ⟨x1,l1,n1,e1,g1⟩:=ih 1 l0 (n+1) (.inl rfl) (by omega) (by omega) (by omega);rw[show (Int.tmod b 8==4)=true by grind,aI,wo e1];exact ⟨kN 5 x1,l1,n1,by rw[ev1],aN7 (by omega) (.neg g1.ty) g1⟩
   rw[show (Int.tmod b 8==4)=false by grind,aC];by_cases c4:Int.tmod b 8=5
   .obtain ⟨x1,l1,n1,e1,g1⟩:=ih 2 l0 (n+1) (.inr rfl) (by omega) (by omega) (by omega);obtain ⟨x2,l2,n2,e2,g2⟩:=ih 1 l1 n1 (.inl rfl) (by omega) (by have:=g1.lo; omega) (by have:=g1.hi; omega);obtain ⟨x3,l3,n3,e3,g3⟩:=ih 1 l2 n2 (.inl rfl) (by omega) (by have:=g1.lo; have:=g2.lo; omega) (by have:=g1.hi; have:=g2.hi; omega);rw[show (Int.tmod b 8==5)=true by grind,aI,wo e1];try dsimp only
    rw[wo e2];try dsimp only
    rw[wo e3];exact ⟨.node 13 0 0 [x1,x2,x3],l3,n3,by rw[ev3],aN8 (by omega) (.ite g1.ty g2.ty g3.ty) g1 g2 g3⟩
   rw[show (Int.tmod b 8==5)=false by grind,aC];obtain ⟨x1,l1,n1,e1,g1⟩:=ih 1 l0 (n+1) (.inl rfl) (by omega) (by omega) (by omega);obtain ⟨x2,l2,n2,e2,g2⟩:=ih 1 l1 n1 (.inl rfl) (by omega) (by have:=g1.lo; omega) (by have:=g1.hi; omega);rw[wo e1];try dsimp only
   rw[wo e2];try dsimp only
   rw[ed,w3];exact ⟨lS (2+b / 8 % 3) x1 x2,l2,n2,by rw[Ye],a8A (.ar (by omega) (by omega) g1.ty g2.ty) g1 g2 (by omega)⟩
  .rw[show ((2:Int)==1)=false from rfl,aC,aC];have eqs:∃ x l' n',(qN 218 [bZX,bZV 1,bZV ((lv:Int)+1)] (GO l0 nv (n+1)) fun u66 u70=>qN 218 [bZX,bZV 1,bZV ((lv:Int)+1)] [ig u70] fun u75 We=>some (A1 (i64.wrap (6+(Int.tmod (i64.wrap (Int.tdiv b 8)) 4)),0,0,[A1 u66,A1 u75],()),[ig We]))=some (A1 (ev x),GO l' nv n')/\Gr nv 2 (lv+1) n x n':=by
    obtain ⟨x1,l1,n1,e1,g1⟩:=ih 1 l0 (n+1) (.inl rfl) (by omega) (by omega) (by omega);obtain ⟨x2,l2,n2,e2,g2⟩:=ih 1 l1 n1 (.inl rfl) (by omega) (by have:=g1.lo; omega) (by have:=g1.hi; omega);rw[wo e1];try dsimp only
    rw[wo e2];try dsimp only
    rw[ed,w4];exact ⟨lS (6+b / 8 % 4) x1 x2,l2,n2,by rw[Ye],a8A (.cmp (by omega) (by omega) g1.ty g2.ty) g1 g2 (fun _=>⟨rfl,rfl,rfl⟩)⟩
   by_cases c0:((lv+1:Nat):Int)+1<=2
   .rw[aN c0,aI]; exact eqs
   rw[aW c0,aC];by_cases c1:12<n+1
   .rw[aN c1,aI]; exact eqs
   rw[aW c1,aC];by_cases c2:Int.tmod b 8<4
   .rw[aN c2,aI]; exact eqs
   rw[aW c2,aC];obtain ⟨x1,l1,n1,e1,g1⟩:=ih 2 l0 (n+1) (.inr rfl) (by omega) (by omega) (by omega);by_cases c3:Int.tmod b 8=4
   .rw[show (Int.tmod b 8==4)=true by grind,aI,wo e1];exact ⟨kN 10 x1,l1,n1,by rw[ev1],aN7 (by omega) (.xR g1.ty) g1⟩
   rw[show (Int.tmod b 8==4)=false by grind,aC];obtain ⟨x2,l2,n2,e2,g2⟩:=ih 2 l1 n1 (.inr rfl) (by omega) (by have:=g1.lo; omega) (by have:=g1.hi; omega);by_cases c4:Int.tmod b 8=5
   .obtain ⟨x3,l3,n3,e3,g3⟩:=ih 2 l2 n2 (.inr rfl) (by omega) (by have:=g1.lo; have:=g2.lo; omega) (by have:=g1.hi; have:=g2.hi; omega);rw[show (Int.tmod b 8==5)=true by grind,aI,wo e1];try dsimp only
    rw[wo e2];try dsimp only
    rw[wo e3];exact ⟨.node 13 0 0 [x1,x2,x3],l3,n3,by rw[ev3],aN8 (by omega) (.ite g1.ty g2.ty g3.ty) g1 g2 g3⟩
   rw[show (Int.tmod b 8==5)=false by grind,aC,wo e1];try dsimp only
   rw[wo e2];try dsimp only
   rw[ed,w2];exact ⟨lS (11+b / 8 % 2) x1 x2,l2,n2,by rw[Ye],a8A (.log (by omega) (by omega) g1.ty g2.ty) g1 g2 (by omega)⟩
theorem aEG {nv k:Int} (hv:0<=nv/\nv<=16) (hk:k=1\/k=2) (l:bZ') (hl:l.length<=100000):∃ x,SS.CC 134 [bZW (yE l),bZV nv,bZV k] []=some (A1 (ev x),[])/\Ty nv k x/\gJ x<=6/\fU x<=63:=by
 have ht:((if (60:Int)<((yE l).length:Int) then (60:Int) else ((yE l).length:Int)).toNat)=min 60 l.length:=by rw[bF]; split<;>omega
 obtain ⟨x,l',n',e,g⟩:=aN9 hv 4 k (l.take 60) 0 hk (by decide) (by decide) (by decide);have htk:(yE l).take (min 60 l.length)=yE (l.take 60):=by simp
 refine ⟨x,?_,g.ty,g.dp,?_⟩
 .rw[b8U,aQ (by grind),ht,htk];exact (wo e).trans rfl
 .by_cases h:n'<=12
  .have:=g.s1 h; omega
  .have:=g.s2 (by omega); omega
theorem aX' {o:Int} (h:0<=o/\o<=13):SS.CC 248 [bZV o] []=some (.tuple [bZV (yB o:Int),.bool true],[]):=by
 have:o=0\/o=1\/o=2\/o=3\/o=4\/o=5\/o=6\/o=7\/o=8\/o=9\/o=10\/o=11\/o=12\/o=13:=by omega
 rcases this with rfl | rfl | rfl | rfl | rfl | rfl | rfl | rfl | rfl | rfl | rfl | rfl | rfl | rfl<;>(rw[aK7]; rfl)
def FOk (n:Int) (x:EX):Prop:=∀ d c:Int,0<=d->d+(gJ x:Int)<=9->0<=c->c+(fU x:Int)<=64->SS.CC 183 [A1 (ev x),bZV n,bZV d,bZX] [kQ (c,())]=some (bZV 0,[kQ (c+(fU x:Int),())])
theorem aI7 {n d:Int} (h0:0<=d) (hd:d<=8) (all:List EX) (hn:all.length<=3) (ih:∀ e,e∈all->FOk n e) :
 ∀ (l:List EX) (k:Nat) (c:Int),all.drop k=l->k<=all.length->d+1+(AP l:Int)<=9->0<=c->c+(uB l:Int)<=64->TR n d (lw all) c (k:Int)=some (bZV 0,[kQ (c+(uB l:Int),())])
 | [],k,c,ha,hk,_,_,_=>by have h2:all.length<=k:=NC.1 ha;rw[Z7,aW (by rw[zL]; omega),uB];simp
 | a::l,k,c,ha,hk,h1,h2,h3=>by
  obtain ⟨p1,p2,p3⟩:=drop_cons ha;have hm:a∈all:=by rw[<- p2]; exact dY p1
  rw[uB] at h3;rw[AP] at h1;have e:=ih a hm (d+1) c (by omega) (by omega) h2 (by omega);rw[Z7,aN (by rw[zL]; omega),aI,Bg p1,p2,wrap64 (by omega) (by omega),XW e];rw[show ((0:Int) != 0)=false from rfl,aC,wrap64 (by omega) (by omega),show ((k:Int)+1)=((k+1:Nat):Int) by omega];have:=aI7 h0 hd all hn ih l (k+1) (c+(fU a:Int)) p3 (by omega) (by omega) (by omega) (by omega);rw[this,uB,show c+(fU a:Int)+(uB l:Int)=c+((fU a+uB l:Nat):Int) by omega]
theorem a_T {n:Int} (h:Fd n x):FOk n x:=by
 induction h with
 | @mk o v i l h1 h2 h3 h4 h5 h6 h7 _ ih =>
  intro d c d0 d1 c0 c1;rw[gJ] at d1;rw[fU] at c1;have hl3:l.length<=3:=by grind [yB]
  have go:TQ n d (o,v,i,lw l,()) (i64.wrap (c+1))=some (bZV 0,[kQ (c+((fU (.node o v i l):Nat):Int),())]):=by rw[aIE,wrap64 (by omega) (by omega)];have:=aI7 d0 (by omega) l hl3 ih l 0 (c+1) rfl (Ee _) (by omega) (by omega) (by omega);rw[fU];grind
  rw[aIG,jP];try dsimp only
  rw[show (c==64)=false by simp; omega,aW (by omega),aEE (aX' ⟨h1,h2⟩)];rw[zL,show ((l.length:Int) !=(yB o:Int))=false by simp[h3]];by_cases p0:o=0
  .have hv:SS.CC 242 [bZV v,bZV 65536] []=some (.bool false,[]):=by rw[a9P v,aW (by omega),aW (by omega)]; rfl
   rw[aZ hv];simp_all
  grind [aI,aC]
theorem aVN {n k:Int} (h:Ty n k x):Fd n x:=by
 have nd:∀ {o:Int} {l:List EX},2<=o->o<=13->l.length=yB o->(∀ e,e∈l->Fd n e)->Fd n (.node o 0 0 l):=fun h1 h2 h3 h4 => .mk (by omega) h2 h3 (fun _=>rfl) (fun _=>rfl) (fun h=>by omega) (fun h=>by omega) h4
 have a2:∀ o:Int,(2<=o/\o<=4)\/(6<=o/\o<=9)\/(11<=o/\o<=12)->yB o=2:=fun o h=>by
  have:o=2\/o=3\/o=4\/o=6\/o=7\/o=8\/o=9\/o=11\/o=12:=by omega
  rcases this with rfl | rfl | rfl | rfl | rfl | rfl | rfl | rfl | rfl<;>rfl
 induction h with
 | Ez h1 h2=>exact .mk (by decide) (by decide) rfl (fun h=>absurd rfl h) (fun _=>rfl) (fun _=>by omega) (fun h=>by cases h) (by simp)
 | var h1 h2=>exact .mk (by decide) (by decide) rfl (fun _=>rfl) (fun h=>absurd rfl h) (fun h=>by cases h) (fun _=>⟨h1,h2⟩) (by simp)
 | neg _ ih=>exact nd (by decide) (by decide) rfl (by grind)
 | xR _ ih=>exact nd (by decide) (by decide) rfl (by grind)
 | ar h1 h2 _ _ ia ib=>grind
 | cmp h1 h2 _ _ ia ib=>grind
 | log h1 h2 _ _ ia ib=>grind
 | ite _ _ _ ic ia ib=>exact nd (by decide) (by decide) rfl (by simp_all)
theorem Xu {ks:List Int} {a:Int} (hn:ks.length<=1000) (h:∀ k,k∈ks->k=a):SS.CC 249 [bZV a,bZX] [iw (fA ks,())]=some (.bool true,[iw (fA ks,())]):=by
 have e1:SS.CC 292 [bZW (fA ks),.func (.func 251) [] [.cst (bZV a)]] []=some (bZV (-1),[]):=by
  rw[aKV];refine oQ (n:=ks.length) (L:=fun k=>U4 (fA ks) a (k:Int)) (fun k hk => ?_) ?_
  .rw[Zf,aN (by rw[bF]; omega),aI,II hk,ui,aZ (aKB _ a),show (ks[k] != a)=false by grind [List.getElem_mem],aC,bU (by omega)]
  grind [Zf,aC]
 have e2:SS.CC 250 [bZW (fA ks),.func (.func 251) [] [.cst (bZV a)]] []=some (.bool false,[]):=by rw[aKA,cZ e1]; rfl
 rw[aK9,aZ e2]; rfl
theorem kl {o v i:Int} (all:List EX) (ks:List Int) (hl:ks.length=all.length) (h3:all.length<=3) (hk:∀ j (h:j<all.length),SS.CC 184 [A1 (ev all[j])] []=some (bZV (ks[j]'(by omega)),[])/\ks[j]'(by omega)≠0) :
 SS.CC 184 [A1 (o,v,i,lw all,())] []=OY (o,v,i,lw all,()) (all.length:Int) (fA ks):=by
 rw[aIH];refine oQ (n:=all.length) (L:=fun k=>OY (o,v,i,lw all,()) (k:Int) (fA (ks.take k))) (fun k h => ?_) ?_
 .obtain ⟨e,e2⟩:=hk k h;rw[Jw];rw[aN (by rw[zL]; omega),aI,Bg h,cZ e];grind [aC,aQ,iQ,bU,List.take_succ_eq_append_getElem]
 grind
theorem bU8 {n k:Int} (h:Ty n k x):SS.CC 184 [A1 (ev x)] []=some (bZV k,[]):=by
 have leaf:∀ {o v i:Int},o=0\/o=1->SS.CC 184 [A1 (o,v,i,lw [],())] []=some (bZV 1,[]):=fun {o v i} h=>by rw[kl [] [] rfl (by decide) (fun j h=>by cases h),Jw];rcases h with rfl | rfl<;>rfl
 have one:∀ {o k:Int} {a:EX},(o=5/\k=1)\/(o=10/\k=2)->SS.CC 184 [A1 (ev a)] []=some (bZV k,[])->SS.CC 184 [A1 (ev (kN o a))] []=some (bZV k,[]):=fun {o k a} h e=>by rw[jP,kl [a] [k] rfl (by simp) (fun j hj=>by grind),Jw];rcases h with ⟨rfl,rfl⟩ | ⟨rfl,rfl⟩<;>simp only[Int.reduceBEq,aC]<;>rw[RZ (Xu (by simp) (by simp))]<;>rfl
 have two:∀ {o k r:Int} {a b:EX},(2<=o/\o<=4/\k=1/\r=1)\/(6<=o/\o<=9/\k=1/\r=2)\/(11<=o/\o<=12/\k=2/\r=2)->SS.CC 184 [A1 (ev a)] []=some (bZV k,[])->SS.CC 184 [A1 (ev b)] []=some (bZV k,[])->SS.CC 184 [A1 (ev (lS o a b))] []=some (bZV r,[]):=fun {o k r a b} h e1 e2=>by
  rw[jP,kl [a,b] [k,k] rfl (by simp) (fun j hj=>by grind),Jw];rcases h with ⟨h1,h2,rfl,rfl⟩ | ⟨h1,h2,rfl,rfl⟩ | ⟨h1,h2,rfl,rfl⟩
  .have:o=2\/o=3\/o=4:=by omega
   rcases this with rfl | rfl | rfl<;>simp only[Int.reduceBEq,aI]<;>rw[RZ (Xu (by simp) (by simp))]<;>rfl
  .have:o=6\/o=7\/o=8\/o=9:=by omega
   rcases this with rfl | rfl | rfl | rfl<;>simp only[Int.reduceBEq,aC]<;>rw[RZ (Xu (by simp) (by simp))]<;>rfl
  .have:o=11\/o=12:=by omega
   rcases this with rfl | rfl<;>simp only[Int.reduceBEq,aC]<;>rw[RZ (Xu (by simp) (by simp))]<;>rfl
 induction h with
 | Ez h1 h2=>grind [nE,jP]
 | var h1 h2=>grind [vE,jP]
 | neg _ ih=>simp_all
 | xR _ ih=>simp_all
 | ar h1 h2 _ _ ia ib=>grind
 | cmp h1 h2 _ _ ia ib=>grind
 | log h1 h2 _ _ ia ib=>grind
 | @ite k c a b _ ha _ ic ia ib =>
  have hk:=aVO ha;rw[jP,kl [c,a,b] [2,k,k] rfl (by simp) (fun j hj=>by
   have:j=0\/j=1\/j=2:=by grind
   grind),Jw]
  rcases hk with rfl | rfl<;>simp only[Int.reduceBEq,aI]<;>rfl
theorem a3V {n k:Int} (h:Ty n k x) (hn:n<=16):x.Len:=by
 have nd:∀ {o v i:Int} {l:List EX},0<=o->o<=13 -> -8<=v->v<=23->0<=i->i<=16->l.length<=3->(∀ e,e∈l->e.Len)->(EX.node o v i l).Len:=fun h1 h2 h3 h4 h5 h6 h7 h8 => .mk (by omega) ⟨by omega,by omega⟩ ⟨by omega,by omega⟩ ⟨by omega,by omega⟩ h8
 induction h with
 | Ez h1 h2=>exact nd (by decide) (by decide) h1 h2 (by decide) (by decide) (by decide) (by simp)
 | var h1 h2=>exact nd (by decide) (by decide) (by decide) (by decide) h1 (by omega) (by decide) (by simp)
 | neg _ ih=>simp_all
 | xR _ ih=>simp_all
 | ar h1 h2 _ _ ia ib=>grind
 | cmp h1 h2 _ _ ia ib=>grind
 | log h1 h2 _ _ ia ib=>grind
 | ite _ _ _ ic ia ib=>simp_all
theorem bU9 {n k:Int} (h:Ty n k x) (h0:0<=n) (h1:n<=16) (hd:gJ x<=8) (hs:fU x<=64):zt x n k=0:=by
 have e:SS.CC 111 [A1 (ev x),bZV n] []=some (.tuple [bZV k,bZV 0],[]):=by rw[a7G,aW (by omega),aC,aW (by omega),aC,XW (a_T (aVN h) 1 0 (by decide) (by omega) (by decide) (by omega))];rw[show ((0:Int) != 0)=false from rfl,aC,cZ (bU8 h)];have hk:=aVO h;rw[show (k==0)=false by simp; omega,aC]
 have r3:=YP (a3V h h1) h0;grind [zt]
def eP (F:Nat->List Tok):Nat->Nat->List Tok
 | _,0 => []
 | k,m+1=>F k ++ eP F (k+1) m
theorem aGE {L:List Tok->Nat->R} {F:Nat->List Tok} {n N:Nat} (hs:∀ k,k<n->∀ A:List Tok,A.length+(F k).length<=N->L A k=L (A ++ F k) (k+1)):∀ (m k:Nat) (A:List Tok),k+m=n->A.length+(eP F k m).length<=N->L A k=L (A ++ eP F k m) n
 | 0,k,A,h,_=>by grind [eP]
 | m+1,k,A,h,hN=>by rw[eP,aU] at hN;rw[hs k (by omega) A (by omega),aGE hs m (k+1) _ (by omega) (by rw[aU]; omega),eP,nJ]
theorem oC {L:List Tok->Nat->R} {F:Nat->List Tok} {n:Nat} (N:Nat) {A:List Tok} (hs:∀ k,k<n->∀ A:List Tok,A.length+(F k).length<=N->L A k=L (A ++ F k) (k+1)) (hN:A.length+(eP F 0 n).length<=N):L A 0=L (A ++ eP F 0 n) n:=aGE hs n 0 A (by omega) hN
theorem aGD (l:List α) (d:α) (F:Nat->List Tok) (f:α->List Tok) (h:∀ k,k<l.length->F k=f (l.getD k d)):∀ (m k:Nat),k+m=l.length->eP F k m=(l.drop k).flatMap f
 | 0,k,e=>by rw[JI (by omega)]; rfl
 | m+1,k,e=>by rw[eP,aGD l d F f h m (k+1) (by omega),h k (by omega),D5 (by omega:k<l.length),Qs,gD (by omega:k<l.length)]
theorem vz {l:List α} (d:α) {F:Nat->List Tok} {f:α->List Tok} (h:∀ k,k<l.length->F k=f (l.getD k d)):eP F 0 l.length=l.flatMap f:=aGD l d F f h l.length 0 (by omega)
theorem aGC {F G:Nat->List Tok}:∀ (m k:Nat),(∀ i,k<=i->i<k+m->F i=G i)->eP F k m=eP G k m
 | 0,_,_=>rfl
 | m+1,k,h=>by rw[eP,eP,h k (fK _) (by omega),aGC m (k+1) fun i a b=>h i (by omega) (by omega)]
theorem YN (F:Nat->List Tok):∀ (m k:Nat),eP F (k+1) m=eP (fun i=>F (i+1)) k m
 | 0,_=>rfl
 | m+1,k=>by rw[eP,eP,YN F m (k+1)]
theorem aGG (s:Tok) (d:α) (f:α->List Tok):∀ (l:List α) (a:List Tok),a ++ eP (fun k=>s::f (l.getD k d)) 0 l.length=gq s (a::l.map f)
 | [],a=>by rw[dZ,eP,yl]; rfl
 | b::l,a=>by rw[bM,eP,YN];show a ++ (s::(f b ++ eP (fun k=>s::f (l.getD k d)) 0 l.length))=_;rw[aGG s d f l (f b)]; rfl
theorem YM {l:List α} (s:Tok) (d:α) {F:Nat->List Tok} {f:α->List Tok} (p:List Tok) (hl:l ≠ []) (h0:F 0=p ++ f (l.getD 0 d)) (h:∀ k,F (k+1)=s::f (l.getD (k+1) d)):eP F 0 l.length=p ++ gq s (l.map f):=by
 match l,hl with
 | a::l,_ =>rw[bM,eP,YN,h0,aGC (G:=fun k=>s::f (l.getD k d)) l.length 0 (fun i _ _=>h i),nJ,aGG];rfl
theorem SY {l:List α} (s:Tok) (d:α) {F:Nat->List Tok} {f:α->List Tok} (h0:F 0=f (l.getD 0 d)) (h:∀ k,F (k+1)=s::f (l.getD (k+1) d)):eP F 0 l.length=gq s (l.map f):=by
 by_cases hl:l = []
 .subst hl; rfl
 .exact YM s d [] hl h0 h
theorem a5O (I:Int) (mr:List Int):∀ (l:List Nm) (k:Nat),eP (fun i=>Ac I mr (k+i) (l.getD i [])) 0 l.length=wI I mr k l
 | [],_=>rfl
 | s::l,k=>by rw[bM,eP,YN,wI,<- a5O I mr l (k+1)];grind
theorem iR {A:List Tok} {j:Nat} (h:A.length+j<=200000000):decide ((bV A).length+j<=aO)=true:=aN (by rw[mP]; show A.length+j<=1073741824; omega)
theorem qP (A:List Tok) (b:bZY):bV A ++ ([.str b]:bZZ)=bV (A ++ [tW b.data.toList]):=by rw[sG];rfl
theorem H6 (A:List Tok) (b c:bZY):bV A ++ ([.str b,.str c]:bZZ)=bV (A ++ [tW b.data.toList,tW c.data.toList]):=by rw[sG];rfl
theorem ap3 (A:List Tok) (b c d:bZY):bV A ++ ([.str b,.str c,.str d]:bZZ)=bV (A ++ [tW b.data.toList,tW c.data.toList,tW d.data.toList]):=by rw[sG];rfl
theorem ap4 (A:List Tok) (b c d e:bZY):bV A ++ ([.str b,.str c,.str d,.str e]:bZZ)=bV (A ++ [tW b.data.toList,tW c.data.toList,tW d.data.toList,tW e.data.toList]):=by rw[sG];rfl
theorem ap5 (A:List Tok) (b c d e f:bZY):bV A ++ ([.str b,.str c,.str d,.str e,.str f]:bZZ)=bV (A ++ [tW b.data.toList,tW c.data.toList,tW d.data.toList,tW e.data.toList,tW f.data.toList]):=by rw[sG];rfl
theorem uC {A B:List Tok} (h:A.map (·.text)=B.map (·.text)):bV A=bV B:=by
 have e:∀ T:List Tok,bV T=(T.map (·.text)).map fun s=>PV.str (bs s):=fun T=>by unfold bV; rw[X9]; rfl
 rw[e,e,h]
theorem bd (s:Nm):(bs s).data.toList=s:=by simp[bs]
theorem Uw (v:Int):(dO v).length<=2:=by grind [dO]
theorem aVW (l:List Nm) (hn:l.length<=1000):SS.CC 125 [bZW (aK l)] []=some (bZW (bV (gq (tS [44]) (l.map fun s => [tW s]))),[]):=by
 rw[bET];have e:=oC (L:=fun A k=>Oo (aK l) (bV A) (k:Int)) (F:=fun k=>(if k=0 then [] else [tS [44]]) ++ [tW (l.getD k [])]) (n:=l.length) 100000000 (A := []) (fun k hk A hA=>by
  rw[aM2,aN (by rw[iD]; omega),aI,zW hk,jT,bU (by omega),gD hk []];rw[aU] at hA;by_cases h0:k=0
  .subst h0;rw[aW (by decide),aC,aQ (iR (by omega)),qP];rw[bd];rfl
  .rw[aN (by omega),aI,aQ (iR (by omega)),qP,aQ (iR (by rw[aU,uF]; omega)),qP,bd,aV h0];grind [uC]) (by
  have:∀ (m k:Nat),(eP (fun k=>(if k=0 then [] else [tS [44]]) ++ [tW (l.getD k [])]) k m).length<=2*m:=by
   intro m;induction m with
   | zero=>intro k; exact Ee _
   | succ m ih =>grind [eP]
  have:=this l.length 0;rw[dZ]; omega)
 refine (show Oo (aK l) [] 0=_ from e).trans ?_;rw[aM2,aW (by rw[iD]; omega),aC,XF,SY (tS [44]) [] (f:=fun s => [tW s]) rfl (fun k=>rfl)]
theorem IJ {l:List Nm} {i:Int} (h0:0<=i) (h1:i<l.length) (K:PV->R):bz (aK l) i K=K (.str (bs (l.getD i.toNat []))):=by
 have hk:i.toNat<l.length:=by omega
 have e:=zW hk K;rw[show ((i.toNat:Nat):Int)=i by omega] at e;rw[e,gD hk]
theorem aR2 (l:List Int) (hn:l.length<=1000) (k:Int):SS.CC 210 [bZW (fA l),bZV k] []=some (.bool (decide (k∈l)),[]):=by
 have e:∃ r,Tu (fA l) k ((0:Nat):Int)=some (bZV r,[])/\decide (0<=r)=yA (fun i=>k==l.getD i 0) l.length:=by
  refine loopA (L:=fun i=>Tu (fA l) k (i:Int)) (fun i hi => ?_) ?_
  .rw[aKI,aN (by rw[bW]; omega),aI,II hi,ui,bU (by omega),gD hi 0]
  .rw[aKI,aW (by rw[bW]; omega),aC]
 obtain ⟨r,e1,e2⟩:=e;rw[b59,cZ ((b9N _ _).trans e1),e2,a5D (fun y=>k==y) l 0];have:(l.any fun y=>k==y)=decide (k∈l):=by rw[a4C]; simp
 rw[this]
theorem bVV (t:Tm) (ho:um t) (A:List Tok) (hA:A.length+(wI t.I t.mr 0 t.ls).length<=100000000):Hy (iY t) (bV A) 0=KL (iY t) (bV (A ++ wI t.I t.mr 0 t.ls)) [] 0:=by
 have hc:=a5O t.I t.mr t.ls 0;have e:=oC (L:=fun A k=>Hy (iY t) (bV A) (k:Int)) (F:=fun k=>Ac t.I t.mr (0+k) (t.ls.getD k [])) (n:=t.ls.length) 100000000 (A:=A) (fun k hk A hA=>by
  have hn:=ho.ls.1;rw[aM1,aN (show (k:Int)<((iY t).2.1.length:Int) by rw[iD]; omega),aI,zW hk,jT,aQ (iR (by omega)),H6,gD hk []];dsimp only;have hJ:∀ B:List Tok,B.length<=100000010->a04 (iY t) (bV B) (k:Int) (k:Int)=Hy (iY t) (bV (B ++ (if (k:Int)∈t.mr then [tW [109,97,114,107,101,100]] else []) ++ [tS [59]])) ((k+1:Nat):Int):=fun B hB=>by
   rw[bED,aZ (aR2 t.mr ho.mr _),bU (by omega)];by_cases hm:(k:Int)∈t.mr
   .rw[aN hm,aI,aQ (iR (by omega)),qP,aQ (iR (by rw[aU,uF]; omega)),qP,aX hm];congr 1
    exact uC (by simp)
   .rw[aW hm,aC,aQ (iR (by omega)),qP,aV hm,yl];congr 1
    exact uC (by simp)
  by_cases hI:(k:Int)=t.I
  .rw[YX hI,aI,aQ (iR (by simp only[aU,bM,dZ]; omega)),qP,hJ _ (by simp only[aU,bM,dZ]; omega)];congr 1
   refine uC ?_;unfold Ac;rw[qK,aX hI,bd];simp
  .rw[a5Z hI,aC,hJ _ (by simp only[aU,bM,dZ]; omega)];congr 1
   refine uC ?_;unfold Ac;rw[qK,aV hI,bd];simp) (by rw[hc]; exact hA)
 refine (show Hy (iY t) (bV A) 0=_ from e).trans ?_;rw[hc,aM1,aW (show ¬ (t.ls.length:Int)<((iY t).2.1.length:Int) by rw[iD]; omega),aC]
theorem bW2 (t:Tm) (ho:um t) (hg:BG t) (A:List Tok) (hA:A.length+(t.vs.flatMap pF).length<=100000000):KL (iY t) (bV A) [] 0=FB (iY t) (bV (A ++ t.vs.flatMap pF)) 0 (aK (t.vs.map (·.n))):=by
 have hc:eP (fun k=>pF (t.vs.getD k dV)) 0 t.vs.length=t.vs.flatMap pF:=vz dV fun _ _=>rfl
 have e:=oC (L:=fun A k=>KL (iY t) (bV A) (aK ((t.vs.take k).map (·.n))) (k:Int)) (F:=fun k=>pF (t.vs.getD k dV)) (n:=t.vs.length) 100000000 (A:=A) (fun k hk A hA=>by
  have hn:=ho.vs.1;obtain ⟨_,h1,h2,h3⟩:=hg.vs _ (dY hk);have a1:=Uw (t.vs[k]).lo;have a2:=Uw (t.vs[k]).hi;have a3:=Uw (t.vs[k]).i;rw[aLZ,aN (show (k:Int)<((iY t).2.2.2.2.2.2.2.1.length:Int) by rw[bW]; omega),aI,IK hk,aQ (iQ (CE _ _ k hn)),aQ (iR (by omega))];dsimp only;rw[lN (Py h1.1 h1.2),ap3,CB (·.n) t.vs hk,bU (by omega),gD hk dV];rw[aQ (iR (by rw[aU,mP]; simp only[bM,dZ]; omega)),<- sG];rw[aQ (iR (by simp only[aU,bM,dZ]; omega)),qP,lN (Py h2.1 h2.2)];rw[aQ (iR (by rw[mP]; simp only[aU,bM,dZ]; omega)),<- sG];rw[aQ (iR (by simp only[aU,bM,dZ]; omega)),qP,lN (Py h3.1 h3.2)];rw[aQ (iR (by rw[mP]; simp only[aU,bM,dZ]; omega)),<- sG];rw[aQ (iR (by simp only[aU,bM,dZ]; omega)),qP];congr 1
  refine uC ?_;unfold pF;rw[bd];simp) (by rw[hc]; exact hA)
 refine (show KL (iY t) (bV A) [] 0=_ from e).trans ?_;rw[hc,aLZ,aW (show ¬ (t.vs.length:Int)<((iY t).2.2.2.2.2.2.2.1.length:Int) by rw[bW]; omega),aC,Qw (fK _)]
theorem exw {ns:List Nm} (h:rF ns.length x):SS.CC 211 [bZW (aK ns),A1 (ev x),bZV 0] []=some (.sl true 1 (bV (ut ns x)),[]):=by obtain ⟨h1,h2⟩:=OO h;exact (bPL ns h1 h.len).1 (by omega) 0 (V7 x)
theorem aPZ {ns:List Nm} (h:rF ns.length x):(ut ns x).length<=512:=(OO h).2
theorem JA (t:Tm):(t.vs.map (·.n)).length=t.vs.length:=bF _
theorem aAU {a b:PV} {k:Nat} (K:PV->R):bz [a,b] (if (1:Int)<(k:Int) then (1:Int) else (k:Int)) K=K (if k=0 then a else b):=by
 by_cases h:k=0
 .subst h; rfl
 .rw[aV h,show (if (1:Int)<(k:Int) then (1:Int) else (k:Int))=1 by split<;>omega]; rfl
theorem bW1 (t:Tm) (x:Mv) (hl:x.us.length<=1000) (hg:∀ u,u∈x.us->(0<=u.1/\u.1<t.vs.length)/\rF t.vs.length u.2) (A:List Tok) (k:Int) (hA:A.length+(if x.us = [] then [] else tW [100,111]::gq (tS [44]) (x.us.map (kY (t.vs.map (·.n))))).length<=100001000) :
 Om (iY t) (bV A) (x.us.map pUp) 0 (aK (t.vs.map (·.n))) k=FB (iY t) (bV (A ++ (if x.us = [] then [] else tW [100,111]::gq (tS [44]) (x.us.map (kY (t.vs.map (·.n))))) ++ [tS [59]])) (i64.wrap (k+1)) (aK (t.vs.map (·.n))):=by
 have hc:eP (fun i=>(if i=0 then tW [100,111] else tS [44])::kY (t.vs.map (·.n)) (x.us.getD i dU)) 0 x.us.length=(if x.us = [] then [] else tW [100,111]::gq (tS [44]) (x.us.map (kY (t.vs.map (·.n))))):=by
  by_cases h:x.us = []
  .rw[aX h,h]; rfl
  .rw[aV h];exact YM (tS [44]) dU [tW [100,111]] h rfl fun _=>rfl
 have e:=oC (L:=fun A i=>Om (iY t) (bV A) (x.us.map pUp) (i:Int) (aK (t.vs.map (·.n))) k) (F:=fun i=>(if i=0 then tW [100,111] else tS [44])::kY (t.vs.map (·.n)) (x.us.getD i dU)) (n:=x.us.length) 100001000 (A:=A) (fun i hi B hB=>by
  obtain ⟨⟨u0,u1⟩,u2⟩:=hg _ (dY hi);have u2':rF (t.vs.map (·.n)).length (x.us[i]).2:=by rw[JA]; exact u2
  have u3:=aPZ u2';rw[aM0,aN (by rw[bW]; omega),aI,FV hi,aAU];dsimp only;rw[show (if i=0 then PV.str ⟨#[100,111]⟩ else PV.str ⟨#[44]⟩) = .str (if i=0 then ⟨#[100,111]⟩ else ⟨#[44]⟩) by split<;>rfl,jT,IJ u0 (by rw[JA]; exact u1),jT,aQ (iR (by omega)),lN (exw u2'),ap3,aQ (iR (by rw[mP]; simp only[aU,bM,dZ]; omega)),<- sG,bU (by omega),gD hi dU];congr 1
  refine uC ?_;unfold kY;rw[bd];by_cases h0:i=0
  .rw[aX h0,aX h0]; simp
  .rw[aV h0,aV h0]; simp) (by rw[hc]; exact hA)
 refine (show Om (iY t) (bV A) (x.us.map pUp) 0 (aK (t.vs.map (·.n))) k=_ from e).trans ?_;rw[hc,aM0,aW (by rw[bW]; omega),aC,aQ (iR (by rw[aU]; omega)),qP];congr 1
 exact uC (by simp)
theorem bVY (t:Tm) (ho:um t) (hg:BG t) (A:List Tok) (hA:A.length+(t.ms.flatMap (mF t)).length<=100000000):FB (iY t) (bV A) 0 (aK (t.vs.map (·.n)))=some (bZW (bV (A ++ t.ms.flatMap (mF t) ++ [tS [125]])),[]):=by
 have hc:eP (fun k=>mF t (t.ms.getD k dM)) 0 t.ms.length=t.ms.flatMap (mF t):=vz dM fun _ _=>rfl
 have e:=oC (L:=fun A k=>FB (iY t) (bV A) (k:Int) (aK (t.vs.map (·.n)))) (F:=fun k=>mF t (t.ms.getD k dM)) (n:=t.ms.length) 100000000 (A:=A) (fun k hk B hB=>by
  have hn:=ho.ms.1;obtain ⟨h1,h2,h3,h4,h5⟩:=hg.ms _ (dY hk);obtain ⟨o1,o2,o3⟩:=ho.ms.2 _ (dY hk);have h4':rF (t.vs.map (·.n)).length (t.ms[k]).g:=by rw[JA]; exact h4
  have u3:=aPZ h4';rw[gD hk dM] at hB;unfold mF at hB;simp only[aU,bM,dZ] at hB;rw[aL',aN (show (k:Int)<((iY t).2.2.2.2.2.2.2.2.1.length:Int) by rw[bW]; omega),aI,Ky hk];try dsimp only
  rw[show bz (iY t).2.1 (sJ t.ms[k]).1=bz (aK t.ls) (t.ms[k]).f from rfl,IJ h1.1 h1.2,jT];rw[show bz (iY t).2.2.1 (sJ t.ms[k]).2.1=bz (aK t.es) (t.ms[k]).e from rfl,IJ h2.1 h2.2,jT];rw[show bz (iY t).2.1 (sJ t.ms[k]).2.2.1=bz (aK t.ls) (t.ms[k]).t from rfl,IJ h3.1 h3.2,jT];rw[aQ (iR (by omega)),dN c116,aZ (di o1 tE),ap4,gD hk dM];have hJ:∀ C:List Tok,C.length+(if (t.ms[k]).us = [] then [] else tW [100,111]::gq (tS [44]) ((t.ms[k]).us.map (kY (t.vs.map (·.n))))).length<=100001000->a03 (iY t) (sJ t.ms[k]) (bV C) (aK (t.vs.map (·.n))) (k:Int)=FB (iY t) (bV (C ++ (if (t.ms[k]).us = [] then [] else tW [100,111]::gq (tS [44]) ((t.ms[k]).us.map (kY (t.vs.map (·.n))))) ++ [tS [59]])) ((k+1:Nat):Int) (aK (t.vs.map (·.n))):=fun C hC=>by rw[bEC,<- bU (by omega)];exact bW1 t _ o2 h5 C _ hC
  cases hq:fH (t.ms[k]).g tE with
  | true =>
   rw[hq,aX rfl] at hB;simp only[dZ] at hB;rw[Ed,aC,hJ _ (by simp only[aU,bM,dZ]; omega)];congr 1
   refine uC ?_;unfold mF;rw[hq,aX rfl,bd,bd,bd];simp
  | false =>
   rw[hq,aV Gj] at hB;simp only[bM] at hB;rw[BB,aI,aQ (iR (by simp only[aU,bM,dZ]; omega)),lN (exw h4'),qP,aQ (iR (by rw[mP]; simp only[aU,bM,dZ]; omega)),<- sG,hJ _ (by simp only[aU,bM,dZ]; omega)];congr 1
   refine uC ?_;unfold mF;rw[hq,aV Gj,bd,bd,bd];simp) (by rw[hc]; exact hA)
 refine (show FB (iY t) (bV A) 0 (aK (t.vs.map (·.n)))=_ from e).trans ?_;rw[hc,aL',aW (show ¬ (t.ms.length:Int)<((iY t).2.2.2.2.2.2.2.2.1.length:Int) by rw[bW]; omega),aC,aQ (iR (by rw[aU]; omega)),qP];rw[uC (B:=A ++ t.ms.flatMap (mF t) ++ [tS [125]]) (by simp)]
theorem bVZ (t:Tm) (ho:um t) (hg:BG t) (hA:(lF t).length<=100000000):SS.CC 124 [A5 (iY t)] []=some (bZW (bV (lF t)),[]):=by unfold lF tV at hA;simp only[aU,bM,dZ] at hA;rw[bEP,uJ (aVW t.es ho.es.1),aQ (aN (by rw[mP]; show _<=1073741824; omega))];have e0:([.str ⟨#[116,101,109,112,108,97,116,101]⟩,.str (iY t).1,.str ⟨#[40]⟩]:bZZ)=bV [tW [116,101,109,112,108,97,116,101],tW t.n,tS [40]]:=rfl;rw[e0,<- sG,aQ (iR (by simp only[aU,bM,dZ]; omega)),H6,bVV t ho _ (by simp only[aU,bM,dZ]; omega),bW2 t ho hg _ (by simp only[aU,bM,dZ]; omega),bVY t ho hg _ (by simp only[aU,bM,dZ]; omega)];rw[uC (B:=lF t) (by unfold lF tV; simp)]
theorem bVS (m:Mo) (e:lM) (A:List Tok) (hA:A.length<=100000100) (k:Int):AU (aS m) (nG e) (bV A) 0 k=AU (aS m) (nG e) (bV (A ++ (if e.c then [tW [99,111,110,116,114,111,108,108,97,98,108,101]] else []) ++ (if e.o then [tW [111,98,115,101,114,118,97,98,108,101]] else []) ++ (if e.f then [tW [102,111,114,99,105,98,108,101]] else []))) 3 k:=by
 have s0:∀ B:List Tok,B.length<=100000200->AU (aS m) (nG e) (bV B) 0 k=AU (aS m) (nG e) (bV (B ++ (if e.c then [tW [99,111,110,116,114,111,108,108,97,98,108,101]] else []))) 1 k:=fun B hB=>by
  rw[ZV,aN (by decide),aI,nS (e := .bool e.c) (by decide) rfl,zu,wrap64 (by decide) (by decide)];cases e.c with
  | true=>rw[aI,nS (e := .str ⟨#[99,111,110,116,114,111,108,108,97,98,108,101]⟩) (by decide) rfl,jT,aQ (iR (by omega)),qP]; congr 1
  | false=>rw[aC,aV Gj,yl]; rfl
 have s1:∀ B:List Tok,B.length<=100000200->AU (aS m) (nG e) (bV B) 1 k=AU (aS m) (nG e) (bV (B ++ (if e.o then [tW [111,98,115,101,114,118,97,98,108,101]] else []))) 2 k:=fun B hB=>by
  rw[ZV,aN (by decide),aI,nS (e := .bool e.o) (by decide) rfl,zu,wrap64 (by decide) (by decide)];cases e.o with
  | true=>rw[aI,nS (e := .str ⟨#[111,98,115,101,114,118,97,98,108,101]⟩) (by decide) rfl,jT,aQ (iR (by omega)),qP]; congr 1
  | false=>rw[aC,aV Gj,yl]; rfl
 have s2:∀ B:List Tok,B.length<=100000200->AU (aS m) (nG e) (bV B) 2 k=AU (aS m) (nG e) (bV (B ++ (if e.f then [tW [102,111,114,99,105,98,108,101]] else []))) 3 k:=fun B hB=>by
  rw[ZV,aN (by decide),aI,nS (e := .bool e.f) (by decide) rfl,zu,wrap64 (by decide) (by decide)];cases e.f with
  | true=>rw[aI,nS (e := .str ⟨#[102,111,114,99,105,98,108,101]⟩) (by decide) rfl,jT,aQ (iR (by omega)),qP]; congr 1
  | false=>rw[aC,aV Gj,yl]; rfl
 have l1:∀ (b:Bool) (w:Nm),(if b then [tW w] else []).length<=1:=fun b w=>by cases b<;>simp
 have q1:=l1 e.c [99,111,110,116,114,111,108,108,97,98,108,101];have q2:=l1 e.o [111,98,115,101,114,118,97,98,108,101];rw[s0 A (by omega),s1 _ (by rw[aU]; omega),s2 _ (by rw[aU,aU]; omega)]
theorem bVR (m:Mo) (ho:mY m) (hg:D7 m) (A:List Tok) (hA:A.length+(m.es.flatMap ql).length<=100000000):KG (aS m) (bV A) 0=KF (aS m) (bV (A ++ m.es.flatMap ql)) 0:=by
 have hc:eP (fun k=>ql (m.es.getD k dE)) 0 m.es.length=m.es.flatMap ql:=vz dE fun _ _=>rfl
 have e:=oC (L:=fun A k=>KG (aS m) (bV A) (k:Int)) (F:=fun k=>ql (m.es.getD k dE)) (n:=m.es.length) 100000000 (A:=A) (fun k hk B hB=>by
  have hn:=ho.es.1;obtain ⟨_,k0,k4⟩:=hg.es _ (dY hk);rw[gD hk dE] at hB;rw[aJU,aN (show (k:Int)<((aS m).2.1.length:Int) by rw[bW]; omega),aI,PU hk,aQ (iR (by omega)),H6,bVS m _ _ (by simp only[aU,bM,dZ]; omega),gD hk dE];rw[ZV,aW (by decide),aC,bU (by omega)];dsimp only;generalize hC:B ++ _ ++ _ ++ _ ++ _=C;have hCl:C.length<=B.length+5:=by rw[<- hC];simp only[aU,bM,dZ];cases (m.es[k]).c<;>cases (m.es[k]).o<;>cases (m.es[k]).f<;>simp
  have hf:ql (m.es[k]) = [tW [101,118,101,110,116],tW (m.es[k]).n] ++ (if (m.es[k]).c then [tW [99,111,110,116,114,111,108,108,97,98,108,101]] else []) ++ (if (m.es[k]).o then [tW [111,98,115,101,114,118,97,98,108,101]] else []) ++ (if (m.es[k]).f then [tW [102,111,114,99,105,98,108,101]] else []) ++ (if (m.es[k]).k=0 then [] else tW [102,97,117,108,116]::dO (m.es[k]).k) ++ [tS [59]]:=rfl;by_cases hk0:(m.es[k]).k=0
  .rw[aW (by omega),aC,aQ (iR (by omega)),qP];congr 1
   refine uC ?_;rw[hf,aX hk0,<- hC,bd];simp
  .have e3:dO (m.es[k]).k = [tN (m.es[k]).k.toNat]:=aV (by omega);have e4:SS.CC 123 [bZV (m.es[k]).k] []=some (.str (bs (Lib.decDigits (m.es[k]).k.toNat)),[]):=by have:=a0X (m.es[k]).k.toNat (by omega);rwa [show (((m.es[k]).k.toNat:Nat):Int)=(m.es[k]).k by omega] at this
   rw[aN (by omega),aI,pJ e4,aQ (iR (by omega)),H6,aQ (iR (by simp only[aU,bM,dZ]; omega)),qP];congr 1
   refine uC ?_;rw[hf,aV hk0,e3,<- hC,bd,bd];simp) (by rw[hc]; exact hA)
 refine (show KG (aS m) (bV A) 0=_ from e).trans ?_;rw[hc,aJU,aW (show ¬ (m.es.length:Int)<((aS m).2.1.length:Int) by rw[bW]; omega),aC]
theorem bW0 (m:Mo) (ho:mY m) (hg:D7 m) (A:List Tok) (hA:A.length+(m.ts.flatMap lF).length<=100000000):KF (aS m) (bV A) 0=Hr (aS m) ((m.cs ++ m.rs).map fD) (((m.cs ++ m.rs).map fD).length:Int) (bV (A ++ m.ts.flatMap lF)) 0:=by
 have hc:eP (fun k=>lF (m.ts.getD k dT)) 0 m.ts.length=m.ts.flatMap lF:=vz dT fun _ _=>rfl
 have e:=oC (L:=fun A k=>KF (aS m) (bV A) (k:Int)) (F:=fun k=>lF (m.ts.getD k dT)) (n:=m.ts.length) 100000000 (A:=A) (fun k hk B hB=>by have hn:=ho.ts.1;rw[gD hk dT] at hB;rw[aJO,aN (show (k:Int)<((aS m).2.2.1.length:Int) by rw[bW]; omega),aI,FU hk,uJ (bVZ _ (ho.ts.2 _ (dY hk)).2 (hg.ts _ (dY hk)).2 (by omega)),aQ (iR (by rw[mP]; omega)),<- sG,bU (by omega),gD hk dT]) (by rw[hc]; exact hA);refine (show KF (aS m) (bV A) 0=_ from e).trans ?_;rw[hc,aJO,aW (show ¬ (m.ts.length:Int)<((aS m).2.2.1.length:Int) by rw[bW]; omega),aC,XP (YR m.cs ho.is.1),aQ (by rw[bF]; exact PZ ho.is.1 (by rw[bF]; exact ho.is.2.1))];dsimp only;rw[<- qZ]
theorem aGB (F:Nat->List Tok):∀ (a k b:Nat),eP F k (a+b)=eP F k a ++ eP F (k+a) b
 | 0,k,b=>by rw[qK,eP,XF,NE]
 | a+1,k,b=>by rw[show a+1+b=(a+b)+1 by omega,eP,aGB F a (k+1) b,eP,nJ,show k+1+a=k+(a+1) by omega]
theorem aGF (F:Nat->List Tok) (a:Nat):∀ (m k:Nat),eP F (k+a) m=eP (fun i=>F (i+a)) k m
 | 0,_=>rfl
 | m+1,k=>by rw[eP,eP,show k+a+1=(k+1)+a by omega,aGF F a m (k+1)]
theorem aZK (cs rs:List Ins):eP (fun k=>inT (if k<cs.length then wC else wR) ((cs ++ rs).getD k dI)) 0 (cs ++ rs).length=cs.flatMap (inT wC) ++ rs.flatMap (inT wR):=by
 rw[aU,aGB,qK];congr 1
 .refine vz dI fun k hk => ?_
  rw[aX hk,gD (by rw[aU]; omega),gD hk,List.getElem_append_left hk]
 .have:=aGF (fun k=>inT (if k<cs.length then wC else wR) ((cs ++ rs).getD k dI)) cs.length rs.length 0;rw[qK] at this;rw[this];refine vz dI fun k hk => ?_
  rw[aV (by omega),gD (by rw[aU]; omega),gD hk,List.getElem_append_right (by omega)];congr 2
  omega
theorem bVT (m:Mo) (ho:mY m) (h2:m.cs.length+m.rs.length<=1000) (A:List Tok) (hA:A.length+(m.cs.flatMap (inT wC) ++ m.rs.flatMap (inT wR)).length<=100000000):Hr (aS m) ((m.cs ++ m.rs).map fD) (((m.cs ++ m.rs).map fD).length:Int) (bV A) 0=Ht (aS m) (bV (A ++ (m.cs.flatMap (inT wC) ++ m.rs.flatMap (inT wR)))) 0:=by
 have hn:(m.cs ++ m.rs).length<=1000:=by rw[aU]; exact h2
 have hc:=aZK m.cs m.rs;have e:=oC (L:=fun A k=>Hr (aS m) ((m.cs ++ m.rs).map fD) (((m.cs ++ m.rs).map fD).length:Int) (bV A) (k:Int)) (F:=fun k=>inT (if k<m.cs.length then wC else wR) ((m.cs ++ m.rs).getD k dI)) 100000000 (fun k hk B hB=>by
  obtain ⟨_,_,h4⟩:=ho.is.2.2 _ (dY hk);rw[gD hk dI] at hB;have hJ:∀ w:Nm,B.length+(inT w (m.cs ++ m.rs)[k]).length<=100000000->ZU (aS m) ((m.cs ++ m.rs).map fD) (((m.cs ++ m.rs).map fD).length:Int) (vIn (m.cs ++ m.rs)[k]) (bs w) (bV B) (k:Int)=Hr (aS m) ((m.cs ++ m.rs).map fD) (((m.cs ++ m.rs).map fD).length:Int) (bV (B ++ inT w (m.cs ++ m.rs)[k])) ((k+1:Nat):Int):=fun w hw=>by
   unfold inT tV at hw;simp only[aU,bM] at hw;rw[b5V,aQ (iR (by omega)),uJ (aVW _ h4.1),ap5];rw[aQ (iR (by rw[mP]; simp only[aU,bM,dZ]; omega)),<- sG,aQ (iR (by simp only[aU,bM,dZ]; omega)),H6,bU (by omega)];congr 1
   refine uC ?_;unfold inT tV;rw[bd,bd,bd];simp
  rw[aJP,aN (by rw[bW]; omega),aI,Bh hk,bW,gD hk dI];by_cases hw:k<m.cs.length
  .rw[aW (by omega),aC,aX hw];exact hJ wC hB
  .rw[aN (by omega),aI,aV hw];exact hJ wR hB) (by rw[hc]; exact hA)
 refine (show Hr (aS m) ((m.cs ++ m.rs).map fD) (((m.cs ++ m.rs).map fD).length:Int) (bV A) 0=_ from e).trans ?_;rw[hc,aJP,aW (by rw[bW]; omega),aC]
theorem aSH {a b:bZY} {k:Nat}:(if k=0 then PV.str a else PV.str b) = .str (if k=0 then a else b):=by split<;>rfl
theorem bVW (m:Mo) (x:pI) (hn:x.ls.length<=1000) (hx:x.ls ≠ []) (A:List Tok) (k:Int) (hA:A.length+(gq (tS [44]) (x.ls.map fun l => [tW l.1,tW l.2])).length<=100000100):Oj (aS m) (x.ls.map qp) (bV A) 0 k=Ht (aS m) (bV (A ++ tS [58]::gq (tS [44]) (x.ls.map fun l => [tW l.1,tW l.2]) ++ [tS [59]])) (i64.wrap (k+1)):=by
 have hc:eP (fun i=>(if i=0 then tS [58] else tS [44]) :: [tW (x.ls.getD i dL).1,tW (x.ls.getD i dL).2]) 0 x.ls.length = [tS [58]] ++ gq (tS [44]) (x.ls.map fun l => [tW l.1,tW l.2]):=YM (tS [44]) dL [tS [58]] hx rfl fun _=>rfl
 have e:=oC (L:=fun A i=>Oj (aS m) (x.ls.map qp) (bV A) (i:Int) k) (F:=fun i=>(if i=0 then tS [58] else tS [44]) :: [tW (x.ls.getD i dL).1,tW (x.ls.getD i dL).2]) (n:=x.ls.length) 100000200 (A:=A) (fun i hi B hB=>by
  rw[aJR,aN (by rw[bW]; omega),aI,PW hi,aAU,aSH,jT,aQ (iR (by omega)),ap3,bU (by omega),gD hi dL];congr 1
  refine uC ?_;rw[bd,bd];by_cases h0:i=0
  .rw[aX h0,aX h0]; simp
  .rw[aV h0,aV h0]; simp) (by rw[hc,aU,uF]; omega)
 refine (show Oj (aS m) (x.ls.map qp) (bV A) 0 k=_ from e).trans ?_;rw[hc,aJR,aW (by rw[bW]; omega),aC,aQ (iR (by simp only[aU,bM,dZ]; omega)),qP];congr 1
 exact uC (by simp)
theorem bW3 (m:Mo) (ho:mY m) (hg:D7 m) (A:List Tok) (hA:A.length+(m.xs.flatMap rC).length<=100000000):Ht (aS m) (bV A) 0=Hu (m.ks.map mJ) (bV (A ++ m.xs.flatMap rC)) 0:=by
 have hc:eP (fun k=>rC (m.xs.getD k dX)) 0 m.xs.length=m.xs.flatMap rC:=vz dX fun _ _=>rfl
 have e:=oC (L:=fun A k=>Ht (aS m) (bV A) (k:Int)) (F:=fun k=>rC (m.xs.getD k dX)) 100000000 (fun k hk B hB=>by have hn:=ho.xs.1;obtain ⟨_,o2,_⟩:=ho.xs.2 _ (dY hk);obtain ⟨_,g2,_⟩:=hg.xs _ (dY hk);rw[gD hk dX] at hB;unfold rC at hB;simp only[aU,bM] at hB;rw[aJQ,aN (show (k:Int)<((aS m).2.2.2.2.2.1.length:Int) by rw[bW]; omega),ED hk,aQ (iR (by omega)),H6];refine (bVW m _ o2 g2 _ _ (by simp only[aU,bM,dZ]; omega)).trans ?_;rw[bU (by omega),gD hk dX];unfold rC;rw[bd];simp) (by rw[hc]; exact hA);refine (show Ht (aS m) (bV A) 0=_ from e).trans ?_;rw[hc,aJQ,aW (show ¬ (m.xs.length:Int)<((aS m).2.2.2.2.2.1.length:Int) by rw[bW]; omega),aC]
theorem bV' (P:bZZ) (x:Cst) (hn:x.ts.length<=1000) (hx:x.ts ≠ []) (hb:R16 x.b) (hr:∀ l,l∈x.ts->R16 l.2) (A:List Tok) (k:Int) (hA:A.length+(gq (tS [43]) (x.ts.map fun l=>dO l.2 ++ [tS [42],tW l.1])).length<=100000100):Ol P (vU x) (bV A) 0 k=Hu P (bV (A ++ tS [58]::gq (tS [43]) (x.ts.map fun l=>dO l.2 ++ [tS [42],tW l.1]) ++ [tS [60,61]] ++ dO x.b ++ [tS [59]])) (i64.wrap (k+1)):=by
 have hc:eP (fun i=>(if i=0 then tS [58] else tS [43])::(dO (x.ts.getD i dR).2 ++ [tS [42],tW (x.ts.getD i dR).1])) 0 x.ts.length = [tS [58]] ++ gq (tS [43]) (x.ts.map fun l=>dO l.2 ++ [tS [42],tW l.1]):=YM (tS [43]) dR [tS [58]] hx rfl fun _=>rfl
 have e:=oC (L:=fun A i=>Ol P (vU x) (bV A) (i:Int) k) (F:=fun i=>(if i=0 then tS [58] else tS [43])::(dO (x.ts.getD i dR).2 ++ [tS [42],tW (x.ts.getD i dR).1])) 100000200 (A:=A) (fun i hi B hB=>by
  have r1:=hr _ (dY hi);rw[gD hi dR] at hB;simp only[aU,bM] at hB;rw[aJT,aN (show (i:Int)<((vU x).2.1.length:Int) by rw[bW]; omega),aI,PX hi,aAU,aSH,jT,aQ (iR (by omega))];rw[lN (Py r1.1 r1.2),qP,aQ (iR (by rw[mP]; simp only[aU,bM,dZ]; omega)),<- sG,aQ (iR (by simp only[aU,bM,dZ]; omega)),H6,bU (by omega),gD hi dR];congr 1
  refine uC ?_;rw[bd];by_cases h0:i=0
  .rw[aX h0,aX h0]; simp
  .rw[aV h0,aV h0]; simp) (by rw[hc,aU,uF]; omega)
 have hq:=Uw x.b;refine (show Ol P (vU x) (bV A) 0 k=_ from e).trans ?_;rw[hc,aJT,aW (show ¬ (x.ts.length:Int)<((vU x).2.1.length:Int) by rw[bW]; omega),aC,aQ (iR (by simp only[aU,bM,dZ]; omega)),qP];rw[lN (Py hb.1 hb.2),aQ (iR (by rw[mP]; simp only[aU,bM,dZ]; omega)),<- sG,aQ (iR (by simp only[aU,bM,dZ]; omega)),qP];congr 1
 exact uC (by simp)
theorem bVU (l:List Cst) (hn:l.length<=1000) (ho:∀ x,x∈l->x.ts.length<=1000) (hg:∀ x,x∈l->x.ts ≠ []/\R16 x.b/\∀ t,t∈x.ts->R16 t.2) (A:List Tok) (hA:A.length+(l.flatMap pO).length<=100000000):Hu (l.map mJ) (bV A) 0=some (bZW (bV (A ++ l.flatMap pO)),[]):=by
 have hc:eP (fun k=>pO (l.getD k dK)) 0 l.length=l.flatMap pO:=vz dK fun _ _=>rfl
 have e:=oC (L:=fun A k=>Hu (l.map mJ) (bV A) (k:Int)) (F:=fun k=>pO (l.getD k dK)) 100000000 (fun k hk B hB=>by have o2:=ho _ (dY hk);obtain ⟨g2,g3,g4⟩:=hg _ (dY hk);rw[gD hk dK] at hB;unfold pO at hB;simp only[aU,bM] at hB;rw[aJS,aN (by rw[bW]; omega),FT hk,aQ (iR (by omega)),H6];refine (bV' _ _ o2 g2 g3 g4 _ _ (by simp only[aU,bM,dZ]; omega)).trans ?_;rw[bU (by omega),gD hk dK];unfold pO;rw[bd];simp) (by rw[hc]; exact hA);refine (show Hu (l.map mJ) (bV A) 0=_ from e).trans ?_;rw[hc,aJS,aW (by rw[bW]; omega),aC]
theorem bVX (m:Mo) (ho:mY m) (hg:D7 m) (h2:m.cs.length+m.rs.length<=1000) (hA:(kz m).length<=100000000):SS.CC 26 [A0 (aS m)] []=some (bZW (bV (kz m)),[]):=by unfold kz at hA;simp only[aU,bM] at hA;rw[b6M];have e0:([.str ⟨#[109,111,100,101,108]⟩,.str (aS m).1,.str ⟨#[59]⟩]:bZZ)=bV [tW [109,111,100,101,108],tW m.n,tS [59]]:=rfl;rw[e0,bVR m ho hg _ (by simp only[bM,dZ]; omega),bW0 m ho hg _ (by simp only[aU,bM,dZ]; omega),bVT m ho h2 _ (by simp only[aU,bM,dZ]; omega),bW3 m ho hg _ (by simp only[aU,bM,dZ]; omega),bVU m.ks ho.ks.1 (fun x hx=>(ho.ks.2 x hx).2.1) (fun x hx=>⟨(hg.ks x hx).2.1,(hg.ks x hx).2.2.1,fun t ht=>((hg.ks x hx).2.2.2 t ht).2⟩) _ (by simp only[aU,bM,dZ]; omega)];unfold kz;simp only[nJ]
abbrev GZ (A:List Tok):R:=some (.tuple [],[aF (dh A)])
theorem Qj (xs:bZZ) (s:bZY) (k:Nat) (A:List Tok) (hk:xs[k]? = some (.str s)) (hk2:k<1000) (h:A.length+1<=1000000):Oh xs (A.map bK) (k:Int)=Oh xs ((A ++ [tW s.data.toList]).map bK) ((k+1:Nat):Int):=by
 have hlt:k<xs.length:=by grind
 rw[ZO,aN (by omega),aI,nS (e := .str s) (by omega) (by rw[pG]; exact hk),jT,aQ (aN (by rw[bF]; show _<=1073741824; omega)),bU (by omega),qZ,show [tW s.data.toList].map bK = [oK (1,bs s.data.toList,0,0,0,())] from rfl,YE]
theorem aV' (xs:bZZ) (k:Nat) (A:List Tok) (hk:xs.length=k):Oh xs (A.map bK) (k:Int)=GZ A:=by rw[ZO,aW (by omega),aC]
theorem Gf (s r:bZY) (A:List Tok) (h:A.length+2<=1000000):SS.CC 135 [bZX,bZW [.str s,.str r]] [aF (dh A)]=GZ (A ++ [tW s.data.toList,tW r.data.toList]):=by rw[a6V];refine (Qj _ s 0 A rfl (by decide) (by omega)).trans ?_;refine (Qj _ r 1 _ rfl (by decide) (by simp; omega)).trans ?_;rw[aV' _ 2 _ rfl,nJ]; rfl
theorem wo4 (s r u v:bZY) (A:List Tok) (h:A.length+4<=1000000):SS.CC 135 [bZX,bZW [.str s,.str r,.str u,.str v]] [aF (dh A)]=GZ (A ++ [tW s.data.toList,tW r.data.toList,tW u.data.toList,tW v.data.toList]):=by rw[a6V];refine (Qj _ s 0 A rfl (by decide) (by omega)).trans ?_;refine (Qj _ r 1 _ rfl (by decide) (by simp; omega)).trans ?_;refine (Qj _ u 2 _ rfl (by decide) (by simp; omega)).trans ?_;refine (Qj _ v 3 _ rfl (by decide) (by simp; omega)).trans ?_;rw[aV' _ 4 _ rfl];simp
theorem aRC (l:List Nm) {k:Nat} (hk:k<l.length) (A:List Tok) (h:A.length+1<=1000000):SS.CC 221 [bZV (k:Int),bZX,.cst (bZW (aK l))] [some [.ptr 1 0],aF (dh A)]=some (.tuple [],[some [.ptr 1 0],aF (dh (A ++ [tW l[k]]))]):=by rw[b9Q,zW hk,jT,bQ (xq _ A h),bd]
theorem aR4 (l:List Nm) (hn:l.length<=1000) (A:List Tok) (hA:A.length+(tV l).length<=1000000):SS.CC 139 [bZX,bZW (aK l)] [aF (dh A)]=GZ (A ++ tV l):=by
 unfold tV at hA;simp only[aU,bM,dZ] at hA;have hc:eP (fun k=>(if k=0 then [] else [tS [44]]) ++ [tW (l.getD k [])]) 0 l.length=gq (tS [44]) (l.map fun s => [tW s]):=SY (tS [44]) [] (f:=fun s => [tW s]) rfl (fun _=>rfl);have e:=oC (L:=fun A k=>Tj ⟨#[44]⟩ (aK l) (l.length:Int) (A.map bK) (k:Int)) (F:=fun k=>(if k=0 then [] else [tS [44]]) ++ [tW (l.getD k [])]) (n:=l.length) 1000000 (A:=A ++ [tS [40]]) (fun k hk B hB=>by
  rw[aU] at hB;simp only[bM,dZ] at hB;rw[aJX,aN (by omega),aI,bU (by omega),gD hk []];by_cases h0:k=0
  .rw[aW (by omega),aC,oM (aRC l hk B (by omega)),aX h0];try rfl
  .rw[aV h0] at hB ⊢;simp only[bM,dZ] at hB;rw[aN (by omega),aI,bQ (kF _ B (by omega)),oM (aRC l hk _ (by simp; omega)),nJ]) (by rw[hc]; grind)
 rw[hc] at e;have e2:SS.CC 140 [bZX,bZV ((aK l).length:Int),.str ⟨#[44]⟩,.func (.func 221) [] [.ptr 1 0,.cst (bZW (aK l))]] [aF (dh (A ++ [tS [40]])),some [bZX]]=some (.tuple [],[aF (dh (A ++ [tS [40]] ++ gq (tS [44]) (l.map fun s => [tW s]))),some [bZX]]):=by rw[b6V,iD];grind [aJX,aC]
 rw[b5U,bQ (kF ⟨#[40]⟩ A (by omega))];refine (aWQ e2).trans ?_;rw[bQ (kF ⟨#[41]⟩ _ (by grind))];grind [tV]
theorem exC {ns:List Nm} (h:rF ns.length x) (A:List Tok) (hA:A.length+(ut ns x).length+1<=1000000):SS.CC 112 [bZX,bZW (aK ns),A1 (ev x),bZV 0] [aF (dh A)]=GZ (A ++ ut ns x):=by
 obtain ⟨h1,h2⟩:=OO h;obtain ⟨a,b,c⟩:=bPM ns h1 h.len;have e:=Gh h.len b c a 0;have e2:wp x 0 (ut ns x)=ut ns x:=by unfold wp;rw[aV (by have:=V7 x; omega)]
 rw[e2] at e;exact e A hA
theorem aDO (l:List Vr) (hn:l.length<=1000):SS.CC 219 [.sl false 4 (l.map jI)] []=some (.sl true 1 (aK (l.map (·.n))),[]):=by
 have e:SS.CC 282 [.sl false 4 (l.map jI),.func (.func 283) [] []] []=some (.sl true 1 (aK (l.map (·.n))),[]):=by
  rw[bC2];refine oQ (n:=l.length) (L:=fun k=>Zq (l.map jI) (aK ((l.take k).map (·.n))) (k:Int)) (fun k hk => ?_) ?_
  .rw[aL4,aN (by rw[bW]; omega),aI,IK hk,pJ (bC3 _),aQ (iQ (CE _ l k hn)),CB (·.n) l hk,bU (by omega)]
  grind [aL4,aC]
 rw[b9O,lN e]
theorem aZ4 (t:Tm) (ho:um t) (P3:bZZ) (A:List Tok) (hA:A.length+(wI t.I t.mr 0 t.ls).length<=1000000):KE (bs t.n) (aK t.ls) (aK t.es) (lH t) (A.map bK) P3 0=Oi (bs t.n) (aK t.ls) (aK t.es) (lH t) ((A ++ wI t.I t.mr 0 t.ls).map bK) P3 0:=by
 have hc:=a5O t.I t.mr t.ls 0;have e:=oC (L:=fun A k=>KE (bs t.n) (aK t.ls) (aK t.es) (lH t) (A.map bK) P3 (k:Int)) (F:=fun k=>Ac t.I t.mr (0+k) (t.ls.getD k [])) (n:=t.ls.length) 1000000 (A:=A) (fun k hk B hB=>by
  have hn:=ho.ls.1;rw[gD hk []] at hB;unfold Ac at hB;rw[qK] at hB;simp only[aU,bM,dZ] at hB;rw[aJJ,aN (by rw[iD]; omega),aI,zW hk,jT,bQ (Gf _ _ B (by omega)),gD hk []];have hJ:∀ C:List Tok,C.length+(if (k:Int)∈t.mr then [tW [109,97,114,107,101,100]] else []).length+1<=1000000->ZQ (bs t.n) (aK t.ls) (aK t.es) (lH t) (C.map bK) P3 (k:Int) (k:Int)=KE (bs t.n) (aK t.ls) (aK t.es) (lH t) ((C ++ (if (k:Int)∈t.mr then [tW [109,97,114,107,101,100]] else []) ++ [tS [59]]).map bK) P3 ((k+1:Nat):Int):=fun C hC=>by
   rw[b5H,aZ (aR2 t.mr ho.mr _),bU (by omega)];by_cases hm:(k:Int)∈t.mr
   .rw[aX hm] at hC ⊢;simp only[bM,dZ] at hC;rw[aN hm,aI,bQ (xq ⟨#[109,97,114,107,101,100]⟩ C (by omega)),bQ (kF ⟨#[59]⟩ _ (by simp; omega))]
   .rw[aV hm] at hC ⊢;simp only[dZ] at hC;rw[aW hm,aC,bQ (kF ⟨#[59]⟩ C (by omega)),yl]
  by_cases hI:(k:Int)=t.I
  .rw[aX hI] at hB;simp only[bM,dZ] at hB;rw[show ((k:Int)==(lH t).2.2.1)=true from YX hI,aI,bQ (xq _ _ (by simp; omega)),hJ _ (by grind)];grind [Ac,bd]
  grind [aC,Ac,bd]) (by rw[hc]; exact hA)
 grind [aJJ,iD,aC]
theorem aZC (t:Tm) (ho:um t) (hg:BG t) (P3:bZZ) (A:List Tok) (hA:A.length+(t.vs.flatMap pF).length<=1000000):Oi (bs t.n) (aK t.ls) (aK t.es) (lH t) (A.map bK) P3 0=F8 (bs t.n) (aK t.ls) (aK t.es) (lH t) ((A ++ t.vs.flatMap pF).map bK) P3 0:=by
 have hc:eP (fun k=>pF (t.vs.getD k dV)) 0 t.vs.length=t.vs.flatMap pF:=vz dV fun _ _=>rfl
 have e:=oC (L:=fun A k=>Oi (bs t.n) (aK t.ls) (aK t.es) (lH t) (A.map bK) P3 (k:Int)) (F:=fun k=>pF (t.vs.getD k dV)) (n:=t.vs.length) 1000000 (A:=A) (fun k hk B hB=>by have hn:=ho.vs.1;obtain ⟨_,h1,h2,h3⟩:=hg.vs _ (dY hk);rw[gD hk dV] at hB;unfold pF at hB;simp only[aU,bM,dZ] at hB;rw[aJH,aN (show (k:Int)<((lH t).2.2.2.2.1.length:Int) by rw[bW]; omega),aI,IK hk,bQ (Gf _ _ B (by omega))];dsimp only;rw[bQ (kF _ _ (by grind))];rw[bQ (IZ h1.1 h1.2 _ (by grind))];rw[bQ (kF _ _ (by grind))];rw[bQ (IZ h2.1 h2.2 _ (by grind))];rw[bQ (kF _ _ (by grind))];rw[bQ (IZ h3.1 h3.2 _ (by grind))];rw[bQ (kF _ _ (by grind)),bU (by omega),gD hk dV];grind [pF,bd]) (by rw[hc]; exact hA);grind [aJH,aC]
theorem aZB (t:Tm) (x:Mv) (hl:x.us.length<=1000) (hg:∀ u,u∈x.us->(0<=u.1/\u.1<t.vs.length)/\rF t.vs.length u.2) (A:List Tok) (hA:A.length+(gq (tS [44]) (x.us.map (kY (t.vs.map (·.n))))).length+1<=1000000) :
 SS.CC 140 [bZX,bZV (x.us.length:Int),.str ⟨#[44]⟩,.func (.func 220) [] [.ptr 1 0,.ptr 2 0,.ptr 3 0]] [aF (dh A),some [bZX],iw (aK (t.vs.map (·.n)),()),O9 (sJ x)]=some (.tuple [],[aF (dh (A ++ gq (tS [44]) (x.us.map (kY (t.vs.map (·.n)))))),some [bZX],iw (aK (t.vs.map (·.n)),()),O9 (sJ x)]):=by
 have hc:eP (fun i=>(if i=0 then [] else [tS [44]]) ++ kY (t.vs.map (·.n)) (x.us.getD i dU)) 0 x.us.length=gq (tS [44]) (x.us.map (kY (t.vs.map (·.n)))):=SY (tS [44]) dU (f:=kY (t.vs.map (·.n))) rfl (fun _=>rfl);have one:∀ (i:Nat) (hi:i<x.us.length) (B:List Tok),B.length+(kY (t.vs.map (·.n)) x.us[i]).length+1<=1000000->SS.CC 220 [bZV (i:Int),bZX,.ptr 1 0,.ptr 2 0] [some [.ptr 3 0],iw (aK (t.vs.map (·.n)),()),O9 (sJ x),aF (dh B)]=some (.tuple [],[some [.ptr 3 0],iw (aK (t.vs.map (·.n)),()),O9 (sJ x),aF (dh (B ++ kY (t.vs.map (·.n)) x.us[i]))]):=fun i hi B hB=>by
  obtain ⟨⟨u0,u1⟩,u2⟩:=hg _ (dY hi);have u2':rF (t.vs.map (·.n)).length (x.us[i]).2:=by rw[JA]; exact u2
  unfold kY at hB;simp only[aU,bM,dZ] at hB;rw[b9P,show (sJ x).2.2.2.2.2.2.2.1=x.us.map pUp from rfl,FV hi];dsimp only;rw[IJ u0 (by rw[JA]; exact u1),jT,bQ (xq _ B (by omega)),bQ (kF _ _ (by grind)),FV hi];refine (bQ (exC u2' _ (by grind))).trans ?_;grind [kY,bd]
 have e:=oC (L:=fun A i=>Ti ⟨#[44]⟩ (x.us.length:Int) (A.map bK) (aK (t.vs.map (·.n))) (sJ x) (i:Int)) (F:=fun i=>(if i=0 then [] else [tS [44]]) ++ kY (t.vs.map (·.n)) (x.us.getD i dU)) (n:=x.us.length) 999999 (A:=A) (fun i hi B hB=>by
  rw[gD hi dU,aU] at hB;rw[aJW,aN (by omega),aI,bU (by omega),gD hi dU];by_cases h0:i=0
  .rw[aW (by omega),aC,aEY (one i hi B (by omega)),aX h0];rfl
  .rw[aV h0] at hB ⊢;simp only[bM,dZ] at hB;rw[aN (by omega),aI,bQ (kF _ B (by omega)),aEY (one i hi _ (by grind)),nJ]) (by rw[hc]; omega)
 rw[hc] at e;rw[b6S];grind [aJW,aC]
theorem aZ7 (t:Tm) (ho:um t) (hg:BG t) (A:List Tok) (hA:A.length+(t.ms.flatMap (mF t)).length+2<=1000000):F8 (bs t.n) (aK t.ls) (aK t.es) (lH t) (A.map bK) (aK (t.vs.map (·.n))) 0=GZ (A ++ t.ms.flatMap (mF t) ++ [tS [125]]):=by
 have hc:eP (fun k=>mF t (t.ms.getD k dM)) 0 t.ms.length=t.ms.flatMap (mF t):=vz dM fun _ _=>rfl
 have e:=oC (L:=fun A k=>F8 (bs t.n) (aK t.ls) (aK t.es) (lH t) (A.map bK) (aK (t.vs.map (·.n))) (k:Int)) (F:=fun k=>mF t (t.ms.getD k dM)) (n:=t.ms.length) 999998 (A:=A) (fun k hk B hB=>by
  have hn:=ho.ms.1;obtain ⟨h1,h2,h3,h4,h5⟩:=hg.ms _ (dY hk);obtain ⟨o1,o2,o3⟩:=ho.ms.2 _ (dY hk);have h4':rF (t.vs.map (·.n)).length (t.ms[k]).g:=by rw[JA]; exact h4
  rw[gD hk dM] at hB;unfold mF at hB;simp only[aU,bM,dZ] at hB;rw[aJI,aN (show (k:Int)<((lH t).2.2.2.2.2.1.length:Int) by rw[bW]; omega),aI,Ky hk];dsimp only;rw[IJ h1.1 h1.2,jT,IJ h2.1 h2.2,jT,IJ h3.1 h3.2,jT];rw[bQ (wo4 _ _ _ _ B (by omega)),dN c116,aZ (di o1 tE),gD hk dM];have hJ:∀ C:List Tok,C.length+(if (t.ms[k]).us = [] then [] else tW [100,111]::gq (tS [44]) ((t.ms[k]).us.map (kY (t.vs.map (·.n))))).length+2<=1000000->ZR (bs t.n) (aK t.ls) (aK t.es) (lH t) (C.map bK) (aK (t.vs.map (·.n))) (sJ t.ms[k]) (k:Int)=F8 (bs t.n) (aK t.ls) (aK t.es) (lH t) ((C ++ (if (t.ms[k]).us = [] then [] else tW [100,111]::gq (tS [44]) ((t.ms[k]).us.map (kY (t.vs.map (·.n))))) ++ [tS [59]]).map bK) (aK (t.vs.map (·.n))) ((k+1:Nat):Int):=fun C hC=>by
   have hK:∀ D:List Tok,D.length+(gq (tS [44]) ((t.ms[k]).us.map (kY (t.vs.map (·.n))))).length+2<=1000000->ZT (bs t.n) (aK t.ls) (aK t.es) (lH t) (D.map bK) (aK (t.vs.map (·.n))) (sJ t.ms[k]) (k:Int)=F8 (bs t.n) (aK t.ls) (aK t.es) (lH t) ((D ++ gq (tS [44]) ((t.ms[k]).us.map (kY (t.vs.map (·.n)))) ++ [tS [59]]).map bK) (aK (t.vs.map (·.n))) ((k+1:Nat):Int):=fun D hD=>by rw[b5J,show (((sJ t.ms[k]).2.2.2.2.2.2.2.1.length:Nat):Int)=((t.ms[k]).us.length:Int) from bW _ _,aWP (aZB t _ o2 h5 D (by omega)),bU (by omega)];dsimp only;rw[bQ (kF _ _ (by grind))]
   rw[b5I,show (((sJ t.ms[k]).2.2.2.2.2.2.2.1.length:Nat):Int)=((t.ms[k]).us.length:Int) from bW _ _];by_cases hu:(t.ms[k]).us = []
   .rw[aX hu] at hC ⊢;simp only[dZ] at hC;have hl0:(t.ms[k]).us.length=0:=by rw[hu]; rfl
    rw[aW (by omega),aC,hK C (by rw[hu]; show C.length+0+2<=1000000; omega),hu];rfl
   .rw[aV hu] at hC ⊢;simp only[bM] at hC;have hl0:0<(t.ms[k]).us.length:=List.length_pos_iff.2 hu;rw[aN (by omega),aI,bQ (xq _ C (by omega)),hK _ (by simp only[aU,bM,dZ]; omega)];congr 2
    simp
  cases hq:fH (t.ms[k]).g tE with
  | true =>
   rw[hq,aX rfl] at hB;simp only[dZ] at hB;rw[Ed,aC,hJ _ (by simp only[aU,bM,dZ]; omega)];congr 2
   unfold mF;rw[hq,aX rfl,bd,bd,bd];simp
  | false =>
   rw[hq,aV Gj] at hB;simp only[bM] at hB;rw[BB,aI,bQ (xq _ _ (by simp only[aU,bM,dZ]; omega)),bQ (exC h4' _ (by simp only[aU,bM,dZ]; omega)),hJ _ (by simp only[aU,bM,dZ]; omega)];congr 2
   unfold mF;rw[hq,aV Gj,bd,bd,bd];simp) (by rw[hc]; omega)
 refine (show F8 (bs t.n) (aK t.ls) (aK t.es) (lH t) (A.map bK) (aK (t.vs.map (·.n))) 0=_ from e).trans ?_;rw[hc,aJI,aW (show ¬ (t.ms.length:Int)<((lH t).2.2.2.2.2.1.length:Int) by rw[bW]; omega),aC,bQ (kF ⟨#[125]⟩ _ (by simp only[aU]; omega))]
theorem aZ8 (t:Tm) (ho:um t) (hg:BG t) (A:List Tok) (hA:A.length+(lF t).length+2<=1000000):SS.CC 138 [bZX,A5 (iY t)] [aF (dh A)]=GZ (A ++ lF t):=by
 unfold lF at hA;simp only[aU,bM,dZ] at hA;rw[b5T];dsimp only;rw[lN (aDO t.vs ho.vs.1),bQ (Gf _ _ A (by omega)),bQ (aR4 t.es ho.es.1 _ (by simp only[aU,bM,dZ]; omega)),bQ (kF _ _ (by simp only[aU,bM,dZ]; omega))];rw[aZ4 t ho _ _ (by simp only[aU,bM,dZ]; omega),aZC t ho hg _ _ (by simp only[aU,bM,dZ]; omega),aZ7 t ho hg _ (by simp only[aU,bM,dZ]; omega)];have e4:A ++ [tW (⟨#[116,101,109,112,108,97,116,101]⟩:bZY).data.toList,tW (bs t.n).data.toList] ++ tV t.es ++ [tS (⟨#[123]⟩:bZY).data.toList] ++ wI t.I t.mr 0 t.ls ++ t.vs.flatMap pF ++ t.ms.flatMap (mF t) ++ [tS [125]]=A ++ lF t:=by unfold lF;rw[bd];simp
 rw[<- e4]
abbrev fC (e:lM):List Tok:=if e.c then [tW [99,111,110,116,114,111,108,108,97,98,108,101]] else []
abbrev fO (e:lM):List Tok:=if e.o then [tW [111,98,115,101,114,118,97,98,108,101]] else []
abbrev fF (e:lM):List Tok:=if e.f then [tW [102,111,114,99,105,98,108,101]] else []
theorem aY' (m:Mo) (e:lM) (A:List Tok) (hA:A.length+3<=1000000) (k:Int):kV (aS m) (A.map bK) (nG e) 0 k=kV (aS m) ((A ++ fC e ++ fO e ++ fF e).map bK) (nG e) 3 k:=by
 have s0:∀ B:List Tok,B.length+1<=1000000->kV (aS m) (B.map bK) (nG e) 0 k=kV (aS m) ((B ++ fC e).map bK) (nG e) 1 k:=fun B hB=>by
  have q:kV (aS m) (B.map bK) (nG e) 0 k=aA e.c (ah 135 [bZX,bZW [.str ⟨#[99,111,110,116,114,111,108,108,97,98,108,101]⟩]] [aF (dh B)] fun _ u=>kV (aS m) u.1 (nG e) 1 k) (kV (aS m) (B.map bK) (nG e) 1 k):=(a06 _ _ _ _ _).trans (by kernel_rfl);rw[q];unfold fC;cases e.c with
  | true=>rw[bQ (xq _ B hB)]; rfl
  | false=>rw[aC,aV Gj,yl]
 have s1:∀ B:List Tok,B.length+1<=1000000->kV (aS m) (B.map bK) (nG e) 1 k=kV (aS m) ((B ++ fO e).map bK) (nG e) 2 k:=fun B hB=>by
  have q:kV (aS m) (B.map bK) (nG e) 1 k=aA e.o (ah 135 [bZX,bZW [.str ⟨#[111,98,115,101,114,118,97,98,108,101]⟩]] [aF (dh B)] fun _ u=>kV (aS m) u.1 (nG e) 2 k) (kV (aS m) (B.map bK) (nG e) 2 k):=(a06 _ _ _ _ _).trans (by kernel_rfl);rw[q];unfold fO;cases e.o with
  | true=>rw[bQ (xq _ B hB)]; rfl
  | false=>rw[aC,aV Gj,yl]
 have s2:∀ B:List Tok,B.length+1<=1000000->kV (aS m) (B.map bK) (nG e) 2 k=kV (aS m) ((B ++ fF e).map bK) (nG e) 3 k:=fun B hB=>by
  have q:kV (aS m) (B.map bK) (nG e) 2 k=aA e.f (ah 135 [bZX,bZW [.str ⟨#[102,111,114,99,105,98,108,101]⟩]] [aF (dh B)] fun _ u=>kV (aS m) u.1 (nG e) 3 k) (kV (aS m) (B.map bK) (nG e) 3 k):=(a06 _ _ _ _ _).trans (by kernel_rfl);rw[q];unfold fF;cases e.f with
  | true=>rw[bQ (xq _ B hB)]; rfl
  | false=>rw[aC,aV Gj,yl]
 have q1:(fC e).length<=1:=by unfold fC; cases e.c<;>simp
 have q2:(fO e).length<=1:=by unfold fO; cases e.o<;>simp
 rw[s0 A (by omega),s1 _ (by rw[aU]; omega),s2 _ (by rw[aU,aU]; omega)]
theorem aYZ (m:Mo) (ho:mY m) (hg:D7 m) (A:List Tok) (hA:A.length+(m.es.flatMap ql).length<=900000):Ov (aS m) (A.map bK) 0=Oq (aS m) ((A ++ m.es.flatMap ql).map bK) 0:=by
 have hc:eP (fun k=>ql (m.es.getD k dE)) 0 m.es.length=m.es.flatMap ql:=vz dE fun _ _=>rfl
 have e:=oC (L:=fun A k=>Ov (aS m) (A.map bK) (k:Int)) (F:=fun k=>ql (m.es.getD k dE)) (n:=m.es.length) 900000 (A:=A) (fun k hk B hB=>by
  have hn:=ho.es.1;obtain ⟨_,k0,k4⟩:=hg.es _ (dY hk);have hf:ql (m.es[k]) = [tW [101,118,101,110,116],tW (m.es[k]).n] ++ fC m.es[k] ++ fO m.es[k] ++ fF m.es[k] ++ (if (m.es[k]).k=0 then [] else tW [102,97,117,108,116]::dO (m.es[k]).k) ++ [tS [59]]:=rfl;rw[gD hk dE] at hB ⊢;rw[hf] at hB ⊢;simp only[aU,bM,dZ] at hB;have q1:(fC m.es[k]).length<=1:=by grind
  have q2:(fO m.es[k]).length<=1:=by grind
  have q3:(fF m.es[k]).length<=1:=by grind
  rw[aM8,aN (show (k:Int)<((aS m).2.1.length:Int) by rw[bW]; omega),aI,PU hk,bQ (Gf _ _ B (by omega))];refine (aY' m m.es[k] _ (by grind) _).trans ?_;rw[a06,aW (by decide),aC,bU (by omega)];dsimp only;by_cases hk0:(m.es[k]).k=0
  .rw[show ((m.es[k]).k != 0)=false from DU hk0,aC,bQ (kF _ _ (by grind)),aX hk0];grind [bd]
  .rw[aV hk0] at hB ⊢;simp only[bM] at hB;rw[show ((m.es[k]).k != 0)=true from SL hk0,aI,bQ (xq _ _ (by grind)),bQ (IZ (by omega) (by omega) _ (by grind)),bQ (kF _ _ (by grind))];grind [bd]) (by rw[hc]; exact hA)
 grind [aM8,aC]
theorem aZA (m:Mo) (ho:mY m) (hg:D7 m) (A:List Tok) (hA:A.length+(m.ts.flatMap lF).length<=900000):Oq (aS m) (A.map bK) 0=FC (aS m) ((A ++ m.ts.flatMap lF).map bK) 0:=by
 have hc:eP (fun k=>lF (m.ts.getD k dT)) 0 m.ts.length=m.ts.flatMap lF:=vz dT fun _ _=>rfl
 have e:=oC (L:=fun A k=>Oq (aS m) (A.map bK) (k:Int)) (F:=fun k=>lF (m.ts.getD k dT)) 900000 (fun k hk B hB=>by have hn:=ho.ts.1;rw[gD hk dT] at hB;rw[aM5,aN (show (k:Int)<((aS m).2.2.1.length:Int) by rw[bW]; omega),aI,FU hk,bQ (aZ8 _ (ho.ts.2 _ (dY hk)).2 (hg.ts _ (dY hk)).2 B (by omega)),bU (by omega),gD hk dT]) (by rw[hc]; exact hA);grind [aM5,aC]
theorem aNT (w:bZY) (x:Ins) (hx:DJ x.es) (B:List Tok) (K:Sh.V gu->R) (hB:B.length+(inT w.data.toList x).length<=900000):(ah 135 [bZX,bZW [.str w,.str (bs x.n)]] [aF (dh B)] fun _ u20=>ah 136 [bZX,bZW [.str ⟨#[61]⟩]] [aF u20] fun _ u23=>ah 135 [bZX,bZW [.str (bs x.t)]] [aF u23] fun _ u26=>ah 139 [bZX,bZW (aK x.es)] [aF u26] fun _ u29=>ah 136 [bZX,bZW [.str ⟨#[59]⟩]] [aF u29] fun _ u32=>K u32)=K (dh (B ++ inT w.data.toList x)):=by unfold inT at hB;rw[bQ (Gf _ _ B (by omega)),bQ (kF _ _ (by grind)),bQ (xq _ _ (by grind)),bQ (aR4 _ hx.1 _ (by grind)),bQ (kF _ _ (by grind))];grind [inT,bd]
theorem aZ1 (m:Mo) (l:List Ins) (hn:l.length<=1000) (hl:∀ x,x∈l->DJ x.es) (A:List Tok) (hA:A.length+(l.flatMap (inT wC)).length<=900000):zN (aS m) (A.map bK) 0 (l.map fD) 0 0 ((l.map fD).length:Int)=FC (aS m) ((A ++ l.flatMap (inT wC)).map bK) 1:=by
 have hc:eP (fun k=>inT wC (l.getD k dI)) 0 l.length=l.flatMap (inT wC):=vz dI fun _ _=>rfl
 have e:=oC (L:=fun A k=>zN (aS m) (A.map bK) (k:Int) (l.map fD) 0 0 ((l.map fD).length:Int)) (F:=fun k=>inT wC (l.getD k dI)) 900000 (fun k hk B hB=>by rw[gD hk dI] at hB ⊢;rw[a05,aN (by rw[bW]; omega),Bh hk,bU (by omega)];exact aNT ⟨#[99,111,109,112,111,110,101,110,116]⟩ _ (hl _ (dY hk)) B _ hB) (by rw[hc]; exact hA);refine (show zN (aS m) (A.map bK) 0 (l.map fD) 0 0 ((l.map fD).length:Int)=_ from e).trans ?_;rw[hc,a05,aW (by rw[bW]; omega)];rfl
theorem aZ2 (m:Mo) (l:List Ins) (hn:l.length<=1000) (hl:∀ x,x∈l->DJ x.es) (A:List Tok) (hA:A.length+(l.flatMap (inT wR)).length<=900000):zN (aS m) (A.map bK) 0 (l.map fD) 1 1 ((l.map fD).length:Int)=FC (aS m) ((A ++ l.flatMap (inT wR)).map bK) 2:=by
 have hc:eP (fun k=>inT wR (l.getD k dI)) 0 l.length=l.flatMap (inT wR):=vz dI fun _ _=>rfl
 have e:=oC (L:=fun A k=>zN (aS m) (A.map bK) (k:Int) (l.map fD) 1 1 ((l.map fD).length:Int)) (F:=fun k=>inT wR (l.getD k dI)) 900000 (fun k hk B hB=>by rw[gD hk dI] at hB ⊢;rw[a05,aN (by rw[bW]; omega),Bh hk,bU (by omega)];exact aNT ⟨#[114,101,113,117,105,114,101,109,101,110,116]⟩ _ (hl _ (dY hk)) B _ hB) (by rw[hc]; exact hA);refine (show zN (aS m) (A.map bK) 0 (l.map fD) 1 1 ((l.map fD).length:Int)=_ from e).trans ?_;rw[hc,a05,aW (by rw[bW]; omega)];rfl
theorem aZ0 (m:Mo) (ho:mY m) (A:List Tok) (hA:A.length+(m.cs.flatMap (inT wC)).length+(m.rs.flatMap (inT wR)).length<=900000):FC (aS m) (A.map bK) 0=Ot (aS m) ((A ++ m.cs.flatMap (inT wC) ++ m.rs.flatMap (inT wR)).map bK) 0:=by
 have q0:FC (aS m) (A.map bK) 0=zN (aS m) (A.map bK) 0 (m.cs.map fD) 0 0 ((m.cs.map fD).length:Int):=(a7T _ _ _).trans (by kernel_rfl);have q1:∀ B:List Tok,FC (aS m) (B.map bK) 1=zN (aS m) (B.map bK) 0 (m.rs.map fD) 1 1 ((m.rs.map fD).length:Int):=fun B=>(a7T _ _ _).trans (by kernel_rfl)
 rw[q0,aZ1 m m.cs ho.is.1 (fun x hx=>(ho.is.2.2 x (XB _ hx)).2.2) A (by omega),q1,aZ2 m m.rs ho.is.2.1 (fun x hx=>(ho.is.2.2 x (XC _ hx)).2.2) _ (by rw[aU]; omega),a7T,aW (by decide),aC]
theorem aZ5 (x:pI) (hn:x.ls.length<=1000) (A:List Tok) (hA:A.length+(gq (tS [44]) (x.ls.map fun l => [tW l.1,tW l.2])).length<=900000):SS.CC 140 [bZX,bZV (x.ls.length:Int),.str ⟨#[44]⟩,.func (.func 141) [] [.ptr 1 0,.ptr 2 0]] [aF (dh A),some [bZX],y7 (MR x)]=some (.tuple [],[aF (dh (A ++ gq (tS [44]) (x.ls.map fun l => [tW l.1,tW l.2]))),some [bZX],y7 (MR x)]):=by
 have hc:eP (fun i=>(if i=0 then [] else [tS [44]]) ++ [tW (x.ls.getD i dL).1,tW (x.ls.getD i dL).2]) 0 x.ls.length=gq (tS [44]) (x.ls.map fun l => [tW l.1,tW l.2]):=SY (tS [44]) dL rfl (fun _=>rfl);have one:∀ (i:Nat) (hi:i<x.ls.length) (B:List Tok),B.length+2<=1000000->SS.CC 141 [bZV (i:Int),bZX,.ptr 1 0] [some [.ptr 2 0],y7 (MR x),aF (dh B)]=some (.tuple [],[some [.ptr 2 0],y7 (MR x),aF (dh (B ++ [tW (x.ls[i]).1,tW (x.ls[i]).2]))]):=fun i hi B hB=>by rw[b6Z,PW hi,PW hi,bQ (Gf _ _ B hB),bd,bd]
 have e:=oC (L:=fun A i=>Tn ⟨#[44]⟩ (x.ls.length:Int) (A.map bK) (MR x) (i:Int)) (F:=fun i=>(if i=0 then [] else [tS [44]]) ++ [tW (x.ls.getD i dL).1,tW (x.ls.getD i dL).2]) (n:=x.ls.length) 900000 (fun i hi B hB=>by
  rw[aJY,aN (by omega),aI,bU (by omega),gD hi dL];by_cases h0:i=0
  .rw[aW (by omega),aEU (one i hi B (by omega)),aX h0];rfl
  .rw[aV h0];rw[aN (by omega),aI,bQ (kF _ B (by omega)),aEU (one i hi _ (by grind)),nJ]) (by rw[hc]; exact hA)
 rw[b6Y];grind [aJY,aC]
theorem aZ9 (x:Cst) (hn:x.ts.length<=1000) (hr:∀ l,l∈x.ts->R16 l.2) (A:List Tok) (hA:A.length+(gq (tS [43]) (x.ts.map fun l=>dO l.2 ++ [tS [42],tW l.1])).length<=900000):SS.CC 140 [bZX,bZV (x.ts.length:Int),.str ⟨#[43]⟩,.func (.func 142) [] [.ptr 1 0,.ptr 2 0]] [aF (dh A),some [bZX],wu (vU x)]=some (.tuple [],[aF (dh (A ++ gq (tS [43]) (x.ts.map fun l=>dO l.2 ++ [tS [42],tW l.1]))),some [bZX],wu (vU x)]):=by
 have hc:eP (fun i=>(if i=0 then [] else [tS [43]]) ++ (dO (x.ts.getD i dR).2 ++ [tS [42],tW (x.ts.getD i dR).1])) 0 x.ts.length=gq (tS [43]) (x.ts.map fun l=>dO l.2 ++ [tS [42],tW l.1]):=SY (tS [43]) dR rfl (fun _=>rfl);have one:∀ (i:Nat) (hi:i<x.ts.length) (B:List Tok),B.length+4<=1000000->SS.CC 142 [bZV (i:Int),bZX,.ptr 1 0] [some [.ptr 2 0],wu (vU x),aF (dh B)]=some (.tuple [],[some [.ptr 2 0],wu (vU x),aF (dh (B ++ (dO (x.ts[i]).2 ++ [tS [42],tW (x.ts[i]).1])))]):=fun i hi B hB=>by have r1:=hr _ (dY hi);have l1:=Uw (x.ts[i]).2;rw[b6',PX hi];rw[bQ (IZ r1.1 r1.2 B (by omega)),bQ (kF _ _ (by grind)),PX hi,bQ (xq _ _ (by grind)),bd];simp
 have e:=oC (L:=fun A i=>Tf ⟨#[43]⟩ (x.ts.length:Int) (A.map bK) (vU x) (i:Int)) (F:=fun i=>(if i=0 then [] else [tS [43]]) ++ (dO (x.ts.getD i dR).2 ++ [tS [42],tW (x.ts.getD i dR).1])) (n:=x.ts.length) 900000 (fun i hi B hB=>by
  rw[aJV,aN (by omega),aI,bU (by omega),gD hi dR];by_cases h0:i=0
  .rw[aW (by omega),aEV (one i hi B (by omega)),aX h0];rfl
  .rw[aV h0];rw[aN (by omega),aI,bQ (kF _ B (by omega)),aEV (one i hi _ (by grind)),nJ]) (by rw[hc]; exact hA)
 rw[b6P];grind [aJV,aC]
theorem aZD (m:Mo) (ho:mY m) (A:List Tok) (hA:A.length+(m.xs.flatMap rC).length<=900000):Ot (aS m) (A.map bK) 0=Ou (m.ks.map mJ) ((A ++ m.xs.flatMap rC).map bK) 0:=by
 have hc:eP (fun k=>rC (m.xs.getD k dX)) 0 m.xs.length=m.xs.flatMap rC:=vz dX fun _ _=>rfl
 have e:=oC (L:=fun A k=>Ot (aS m) (A.map bK) (k:Int)) (F:=fun k=>rC (m.xs.getD k dX)) 900000 (fun k hk B hB=>by have hn:=ho.xs.1;obtain ⟨_,o2,_⟩:=ho.xs.2 _ (dY hk);unfold rC at hB;rw[aM6,aN (show (k:Int)<((aS m).2.2.2.2.2.1.length:Int) by rw[bW]; omega),aI,ED hk,bQ (Gf _ _ B (by omega)),bQ (kF _ _ (by grind)),bW,aWM (aZ5 _ o2 _ (by grind)),bQ (kF _ _ (by grind)),bU (by omega)];grind [rC,bd]) (by rw[hc]; exact hA);grind [aM6,aC]
theorem aZ3 (l:List Cst) (hn:l.length<=1000) (ho:∀ x,x∈l->x.ts.length<=1000) (hg:∀ x,x∈l->R16 x.b/\∀ t,t∈x.ts->R16 t.2) (A:List Tok) (hA:A.length+(l.flatMap pO).length<=900000):Ou (l.map mJ) (A.map bK) 0=GZ (A ++ l.flatMap pO):=by
 have hc:eP (fun k=>pO (l.getD k dK)) 0 l.length=l.flatMap pO:=vz dK fun _ _=>rfl
 have e:=oC (L:=fun A k=>Ou (l.map mJ) (A.map bK) (k:Int)) (F:=fun k=>pO (l.getD k dK)) 900000 (fun k hk B hB=>by have o2:=ho _ (dY hk);obtain ⟨g3,g4⟩:=hg _ (dY hk);unfold pO at hB;rw[aM7,aN (by rw[bW]; omega),aI,FT hk,bQ (Gf _ _ B (by omega)),bQ (kF _ _ (by grind)),bW,aWN (aZ9 _ o2 g4 _ (by grind)),bQ (kF _ _ (by grind))];rw[bQ (IZ g3.1 g3.2 _ (by grind)),bQ (kF _ _ (by grind)),bU (by omega)];grind [pO,bd]) (by rw[hc]; exact hA);grind [aM7,aC]
theorem aZ6 (m:Mo) (ho:mY m) (hg:D7 m) (hA:(kz m).length<=900000):SS.CC 30 [bZX,A0 (aS m)] [aF (dh [])]=GZ (kz m):=by unfold kz at hA;simp only[aU,bM] at hA;rw[bFA,bQ (Gf _ _ [] (by decide)),bQ (kF _ _ (by simp))];rw[aYZ m ho hg _ (by grind),aZA m ho hg _ (by grind),aZ0 m ho _ (by grind),aZD m ho _ (by grind),aZ3 m.ks ho.ks.1 (fun x hx=>(ho.ks.2 x hx).2.1) (fun x hx=>⟨(hg.ks x hx).2.2.1,fun t ht=>((hg.ks x hx).2.2.2 t ht).2⟩) _ (by grind)];rfl
structure lg where
 d:Nat
 last:Nm
 out:Nm
 fr:Bool
variable {st:lg}
def ry (st:lg) (s:Nm):lg:=if s = [125] then ⟨st.d-1,st.last,if st.fr then st.out else st.out ++ [10],true⟩ else st
def pq (st:lg) (s:Nm):Nm:=(if st.fr then st.out ++ Lib.repeatL [32,32] st.d else if s = [44]\/s = [59]\/s = [41]\/st.last = [40] then st.out else st.out ++ [32]) ++ s
def pend (d:Nat) (s o:Nm):lg:=if s = [123] then ⟨d+1,s,o ++ [10],true⟩ else if s = [125]\/s = [59] then ⟨d,s,o ++ [10],true⟩ else ⟨d,s,o,false⟩
def jf (st:lg) (s:Nm):lg:=pend (ry st s).d s (pq (ry st s) s)
def EO (st:lg):Nm:=if st.fr then st.out else st.out ++ [10]
theorem aGH (l:Nm):SS.CC 207 [bZX] [pK (l,())]=some (.tuple [],[pK (l,())]):=RH rfl
theorem wby (c:Int) (l:Nm) (hl:l.length<=1000000000) (h0:0<=c) (h1:c<256):SS.CC 128 [bZX,.int .u8 c] [pK (l,())]=some (.raw .nilIface,[pK (l ++ [UInt8.ofNat c.toNat],())]):=by rw[b72,aEW (aGH l)];rw[aN (show l.length+1<=aO by show _<=1073741824; omega),aN h0,aN h1];rfl
theorem wst (s l:Nm) (hl:l.length+s.length<=1000000000):SS.CC 121 [bZX,.str (bs s)] [pK (l,())]=some (.tuple [bZV (s.length:Int),.raw .nilIface],[pK (l ++ s,())]):=by rw[bEB,aEW (aGH l)];grind [mf,aO,aQ,bd]
theorem Sz (fr:Bool) (l:Nm) (hl:l.length<=1000000000):SS.CC 127 [bZX,.ptr 1 0] [nM (fr,()),BM (l,())]=some (.tuple [],[nM (true,()),BM (if fr then l else l ++ [10],())]):=by
 rw[b70];cases fr with
 | true=>rfl
 | false=>rw[aES (wby 10 l hl (by decide) (by decide))]; rfl
theorem bQZ (k:Nat) (hk:k<=1000000):SS.CC 130 [.str ⟨#[32,32]⟩,bZV (k:Int)] []=some (.str (bs (Lib.repeatL [32,32] k)),[]):=by
 refine RH ?_;show (match decide (0<=(k:Int))&&(Nat.ble (k:Int).toNat 9223372036854775807&&Nat.ble ((⟨#[32,32]⟩:bZY).size*(k:Int).toNat) 140737488355328) with
  | true=>some (PV.str ⟨(Lib.repeatL [32,32] (k:Int).toNat).toArray⟩,([]:aG))
  | false=>none)=_
 rw[pG,show (⟨#[32,32]⟩:bZY).size=2 from rfl,show Nat.ble k 9223372036854775807=true from XH (by omega),show Nat.ble (2*k) 140737488355328=true from XH (by omega)];rfl
theorem aSY (k:Nat):(Lib.repeatL ([32,32]:bZ') k).length=2*k:=by rw[Lib.repeatL_length]; simp; omega
theorem H8 (s r:Nm):((bs s).toList==(bs r).toList)=decide (s=r):=aG6 s r
theorem aAR (X:bZZ) (d:Nat) (hd:d<=100000) (q:Sh.V lm) (s:Nm) (hq:q.2.1=bs s) (o:Nm) (ho:o.length+s.length<=900000000) (fr:Bool) (k:Nat) (hk:k<1000000):FD X o fr q (d:Int) (k:Int)=zO X ((pend d s (o ++ s)).d:Int) (bs (pend d s (o ++ s)).last) ((k+1:Nat):Int) (pend d s (o ++ s)).out (pend d s (o ++ s)).fr:=by
 have hl:(o ++ s).length<=1000000000:=by rw[aU]; omega
 rw[bFC,hq,aER (wst s o (by omega)),bU (k:=k) (by omega)];have e1:((bs s).toList==(⟨#[123]⟩:bZY).toList)=decide (s = [123]):=H8 s [123];have e2:((bs s).toList==(⟨#[125]⟩:bZY).toList)=decide (s = [125]):=H8 s [125];have e3:((bs s).toList==(⟨#[59]⟩:bZY).toList)=decide (s = [59]):=H8 s [59];rw[e1,e2,e3];unfold pend;by_cases h1:s = [123]
 .rw[aN h1,aX h1];refine (RY (Sz false (o ++ s) hl)).trans ?_;rw[bU (by omega)];rfl
 .rw[aW h1,aV h1];by_cases h2:s = [125]
  .rw[aN h2,aX (.inl h2)];exact RY (Sz false (o ++ s) hl)
  .rw[aW h2];by_cases h3:s = [59]
   .rw[aN h3,aX (.inr h3)];exact RY (Sz false (o ++ s) hl)
   simp_all
theorem aSF (X:bZZ) (st:lg) (hd:st.d<=100000) (q:Sh.V lm) (s:Nm) (hq:q.2.1=bs s) (ho:st.out.length<=800000000) (hs:s.length<=1000) (k:Nat) (hk:k<1000000):a07 X st.out st.fr q (st.d:Int) (bs st.last) (k:Int)=zO X ((pend st.d s (pq st s)).d:Int) (bs (pend st.d s (pq st s)).last) ((k+1:Nat):Int) (pend st.d s (pq st s)).out (pend st.d s (pq st s)).fr:=by
 rw[bFB,hq];have e1:((bs s).toList==(⟨#[44]⟩:bZY).toList)=decide (s = [44]):=H8 s [44];have e2:((bs s).toList==(⟨#[59]⟩:bZY).toList)=decide (s = [59]):=H8 s [59];have e3:((bs s).toList==(⟨#[41]⟩:bZY).toList)=decide (s = [41]):=H8 s [41];have e4:((bs st.last).toList==(⟨#[40]⟩:bZY).toList)=decide (st.last = [40]):=H8 st.last [40];rw[e1,e2,e3,e4];unfold pq;cases hf:st.fr with
 | true =>have hr:=aSY st.d;rw[pJ (bQZ st.d (by omega))];refine (aER (wst _ _ (by omega))).trans ?_;grind [aAR]
 | false =>
  rw[aC];have yes:∀ (_:s = [44]\/s = [59]\/s = [41]\/st.last = [40]),FD X st.out false q (st.d:Int) (k:Int)=zO X ((pend st.d s ((if s = [44]\/s = [59]\/s = [41]\/st.last = [40] then st.out else st.out ++ [32]) ++ s)).d:Int) (bs (pend st.d s ((if s = [44]\/s = [59]\/s = [41]\/st.last = [40] then st.out else st.out ++ [32]) ++ s)).last) ((k+1:Nat):Int) (pend st.d s ((if s = [44]\/s = [59]\/s = [41]\/st.last = [40] then st.out else st.out ++ [32]) ++ s)).out (pend st.d s ((if s = [44]\/s = [59]\/s = [41]\/st.last = [40] then st.out else st.out ++ [32]) ++ s)).fr:=fun h=>by grind [aAR]
  by_cases h1:s = [44]
  .simp_all
  rw[aW h1,BB,aI];by_cases h2:s = [59]
  .simp_all
  rw[aW h2,BB,aI];by_cases h3:s = [41]
  .simp_all
  rw[aW h3,BB,aI];by_cases h4:st.last = [40]
  .simp_all
  rw[aW h4,BB,aI,aES (wby 32 _ (by omega) (by decide) (by decide))];grind [aAR]
theorem bP9 (T:List Tok) (hn:T.length<=900000) {k:Nat} (hk:k<T.length) (st:lg) (hd:st.d<=100000) (ho:st.out.length<=700000000) (hs:(T[k]).text.length<=1000):zO (T.map bK) (st.d:Int) (bs st.last) (k:Int) st.out st.fr=zO (T.map bK) ((jf st (T[k]).text).d:Int) (bs (jf st (T[k]).text).last) ((k+1:Nat):Int) (jf st (T[k]).text).out (jf st (T[k]).text).fr:=by
 have e2:((bs (T[k]).text).toList==(⟨#[125]⟩:bZY).toList)=decide ((T[k]).text = [125]):=H8 _ [125];rw[aMB,aN (by rw[bF]; omega),aI,V3 hk];rw[e2];unfold jf ry;by_cases h:(T[k]).text = [125]
 .rw[aN h,aX h];refine (RY (Sz st.fr st.out (by omega))).trans ?_;have hz:(if (0:Int)>i64.wrap ((st.d:Int)-1) then (0:Int) else i64.wrap ((st.d:Int)-1))=((st.d-1:Nat):Int):=by rw[wrap64 (by omega) (by omega)];split<;>omega
  rw[hz];exact aSF (T.map bK) ⟨st.d-1,st.last,if st.fr then st.out else st.out ++ [10],true⟩ (by grind) _ _ rfl (by grind) hs k (by omega)
 grind [aC,aSF]
def eU (st:lg) (T:List Tok):lg:=T.foldl (fun st t=>jf st t.text) st
abbrev nV:lg:=⟨0,[],[],true⟩
theorem bQF (T:List Tok) {k:Nat} (hk:k<T.length) (st:lg):eU st (T.take (k+1))=jf (eU st (T.take k)) (T[k]).text:=by grind [eU,List.take_succ_eq_append_getElem]
theorem aSE (T:List Tok) (hn:T.length<=900000) (hs:∀ t,t∈T->t.text.length<=1000) (hb:∀ k,k<=T.length->(eU nV (T.take k)).d<=100000/\(eU nV (T.take k)).out.length<=700000000):zO (T.map bK) 0 ⟨#[]⟩ 0 [] true=some (.tuple [.str (bs (EO (eU nV T))),bZV 0],[]):=by
 refine oQ (n:=T.length) (L:=fun k=>zO (T.map bK) ((eU nV (T.take k)).d:Int) (bs (eU nV (T.take k)).last) (k:Int) (eU nV (T.take k)).out (eU nV (T.take k)).fr) (fun k hk => ?_) ?_;grind [bQF,bP9]
 .have:=hb T.length (fK _);rw[Qw (fK _)] at this ⊢;rw[aMB,aW (by rw[bF]; omega)];refine (RY (Sz _ _ (by omega))).trans ?_;refine (aWO (y2:=(nO (EO (eU nV T)),())) (RH rfl)).trans rfl
def Kt (ss:List Nm) (t:Tok):Prop:=(∃ s,Gn s/\t=tW s)\/(∃ n,n<=65536/\t=tN n)\/(∃ s,s∈ss/\t=tS s)
def sP:List Nm := [[45],[40],[41],[33],[63],[58],[43],[42],[61,61],[33,61],[60],[60,61],[38,38],[124,124],[44],[46,46],[61],[58,61]]
def sA:List Nm := [59] :: [123] :: [125]::sP
abbrev Pl (T:List Tok):Prop:=∀ t,t∈T->Kt sP t
theorem aTP:∀ s,s∈sA->s∈jS:=by decide
theorem bS3:∀ s,s∈sP->s∈sA:=by decide
theorem aF2 {t:Tok} (h:Kt sP t):Kt sA t:=by
 rcases h with h | h | ⟨s,hs,e⟩
 .exact .inl h
 .exact .inr (.inl h)
 .exact .inr (.inr ⟨s,bS3 s hs,e⟩)
theorem Nc {t:Tok} (h:Kt sA t):Tv t:=by
 rcases h with ⟨s,hs,rfl⟩ | ⟨n,hn,rfl⟩ | ⟨s,hs,rfl⟩
 .exact a3U hs
 .exact a3T hn
 grind [MJ,aTP]
theorem bHW {s:Nm} (h:Gn s):s.length<=32:=by grind [nameB]
theorem aF3 {t:Tok} (h:Kt sA t):t.text.length<=32:=by
 rcases h with ⟨s,hs,rfl⟩ | ⟨n,hn,rfl⟩ | ⟨s,hs,rfl⟩
 .exact bHW hs
 .exact ng (aGX 4 n (by omega)) (by decide)
 grind [aCY,aTP]
theorem aWZ {t:Tok} (h:Kt sP t):t.text ≠ [123]/\t.text ≠ [125]/\t.text ≠ [59]:=by
 rcases h with ⟨s,hs,rfl⟩ | ⟨n,hn,rfl⟩ | ⟨s,hs,rfl⟩
 .refine ⟨?_,?_,?_⟩<;>(intro e; subst e; revert hs; decide)
 .have ht:=(a3T hn).2.2.1;refine ⟨?_,?_,?_⟩<;>(intro e; rw[e] at ht; have hk:=(congrArg (fun c=>c.1) ht).trans (show (dB (tN n)).1=2 from rfl); revert hk; decide)
 .revert s; decide
theorem jb {ss:List Nm} {s:Nm} (h:Gn s):Kt ss (tW s) := .inl ⟨s,h,rfl⟩
theorem kw {ss:List Nm} {s:Nm} (h:s∈ss):Kt ss (tS s) := .inr (.inr ⟨s,h,rfl⟩)
theorem Kr {v:Int} (h:R16 v):Pl (dO v):=by
 unfold dO;split
 .intro t ht;simp only[kG,yw,yz] at ht;rcases ht with rfl | rfl
  .exact kw (by decide)
  .exact .inr (.inl ⟨_,by omega,rfl⟩)
 .intro t ht;simp only[xx] at ht;exact .inr (.inl ⟨_,by omega,ht⟩)
theorem nD {A B:List Tok} (ha:Pl A) (hb:Pl B):Pl (A ++ B):=fun t ht=>(vX.1 ht).elim (ha t) (hb t)
theorem gB {a:Tok} {B:List Tok} (ha:Kt sP a) (hb:Pl B):Pl (a::B):=fun t ht=>by grind
theorem oG:Pl []:=fun t ht=>by cases ht
theorem LW {need:Int} {B:List Tok} (h:Pl B):Pl (wp x need B):=by
 unfold wp;split
 .exact gB (kw (by decide)) (nD h (gB (kw (by decide)) oG))
 .exact h
theorem aU3 {o:Int} (h:o=2\/o=3\/o=4\/o=6\/o=7\/o=8\/o=9\/o=11\/o=12):qA o∈sP:=by rcases h with rfl | rfl | rfl | rfl | rfl | rfl | rfl | rfl | rfl<;>decide
theorem bPR {ns:List Nm} (hns:∀ s,s∈ns->Gn s) {B:List Tok} (h:PB ns x B):Pl B:=by
 induction h with
 | tt=>exact gB (jb (by decide)) oG
 | ff=>exact gB (jb (by decide)) oG
 | num h0 h1=>grind [Kr]
 | var hs=>grind [jb]
 | IU h0 h1 _ ih=>exact gB (kw (by decide)) (gB (kw (by decide)) (nD ih (gB (kw (by decide)) oG)))
 | neg _ _ ih=>exact gB (kw (by decide)) (LW ih)
 | xR _ ih=>exact gB (kw (by decide)) (LW ih)
 | cmp ho _ _ _ _ iha ihb=>grind [LW,kw,aU3]
 | bin ho _ _ iha ihb=>grind [LW,kw,aU3]
 | ite _ _ _ KU iha ihb=>exact nD (LW KU) (gB (kw (by decide)) (nD (LW iha) (gB (kw (by decide)) (LW ihb))))
theorem bPQ {ns:List Nm} (hns:∀ s,s∈ns->Gn s) (h:rF ns.length x):Pl (ut ns x):=bPR hns (OO h).1
theorem VW {s:Tok} (hs:Kt sP s):∀ {l:List (List Tok)},(∀ T,T∈l->Pl T)->Pl (gq s l)
 | [],_=>oG
 | [a],h=>h a (by simp)
 | a::b::l,h=>nD (h a (by simp)) (gB hs (VW hs fun T hT=>h T (by simp[hT])))
theorem aSJ {l:List Nm} (h:∀ s,s∈l->Gn s):Pl (tV l):=gB (kw (by decide)) (nD (VW (kw (by decide)) fun T hT=>by grind [jb]) (gB (kw (by decide)) oG))
inductive xA:List Tok->Prop
 | mk {X:List Tok}:Pl X->X ≠ []->xA (X ++ [tS [59]])
inductive Sts:List Tok->Prop
 | nil:Sts []
 | cons {X T:List Tok}:xA X->Sts T->Sts (X ++ T)
inductive rP:List Tok->Prop
 | nil:rP []
 | Vw {X T:List Tok}:xA X->rP T->rP (X ++ T)
 | W9 {X B T:List Tok}:Pl X->X ≠ []->Sts B->rP T->rP (X ++ [tS [123]] ++ B ++ [tS [125]] ++ T)
theorem aV3 {A B:List Tok} (ha:Sts A) (hb:Sts B):Sts (A ++ B):=by
 induction ha with
 | nil=>exact hb
 | cons h _ ih=>rw[nJ]; exact .cons h ih
theorem MH {A B:List Tok} (ha:rP A) (hb:rP B):rP (A ++ B):=by
 induction ha with
 | nil=>exact hb
 | Vw h _ ih=>rw[nJ]; exact .Vw h ih
 | W9 h h2 h3 _ ih =>have:=rP.W9 h h2 h3 ih;simp_all
theorem aCX {f:α->List Tok}:∀ {l:List α},(∀ x,x∈l->xA (f x))->Sts (l.flatMap f)
 | [],_ => .nil
 | a::l,h=>by exact .cons (h a (by simp)) (aCX fun x hx=>h x (by simp[hx]))
theorem MI {f:α->List Tok}:∀ {l:List α},(∀ x,x∈l->rP (f x))->rP (l.flatMap f)
 | [],_ => .nil
 | a::l,h=>by exact MH (h a (by simp)) (MI fun x hx=>h x (by simp[hx]))
theorem Qe {X:List Tok} (h:xA X):rP X:=by have:=rP.Vw h .nil;rwa [yl] at this
theorem J4 {X Y:List Tok} (e:Y=X ++ [tS [59]]) (h:Pl X) (h2:X ≠ []):xA Y:=e ▸ .mk h h2
theorem bT0 {e:lM} (h:Gn e.n) (h0:0<=e.k/\e.k<=4):xA (ql e):=by
 refine J4 rfl ?_ (by simp);refine nD (nD (nD (nD (gB (jb (by decide)) (gB (jb h) oG)) ?_) ?_) ?_) ?_
 .split
  .exact gB (jb (by decide)) oG
  grind
 .split
  .exact gB (jb (by decide)) oG
  grind
 .split
  .exact gB (jb (by decide)) oG
  grind
 .split;grind
  .exact gB (jb (by decide)) (Kr ⟨by omega,by omega⟩)
theorem bT1 {I:Int} {mr:List Int} {i:Nat} {s:Nm} (h:Gn s):xA (Ac I mr i s):=by
 refine J4 rfl ?_ (by simp);refine nD (nD (gB (jb (by decide)) (gB (jb h) oG)) ?_) ?_
 .split
  .exact gB (jb (by decide)) oG
  grind
 .split
  .exact gB (jb (by decide)) oG
  grind
theorem aV4 {I:Int} {mr:List Int}:∀ {l:List Nm} {i:Nat},(∀ s,s∈l->Gn s)->Sts (wI I mr i l)
 | [],_,_ => .nil
 | s::l,i,h => .cons (bT1 (h s (by simp))) (aV4 fun s hs=>h s (by simp[hs]))
theorem bT3 {v:Vr} (h:Gn v.n/\R16 v.lo/\R16 v.hi/\R16 v.i):xA (pF v):=by refine J4 rfl ?_ (by simp);exact nD (nD (nD (nD (nD (gB (jb (by decide)) (gB (jb h.1) (gB (kw (by decide)) oG))) (Kr h.2.1)) (gB (kw (by decide)) oG)) (Kr h.2.2.1)) (gB (kw (by decide)) oG)) (Kr h.2.2.2)
theorem a0M {l:List Nm} (h:∀ s,s∈l->Gn s) {i:Int} (h0:0<=i) (h1:i<l.length):Gn (l.getD i.toNat []):=by grind
theorem bT2 {t:Tm} (hg:BG t) {x:Mv} (h:a4M t x):xA (mF t x):=by
 have hv:∀ s,s∈t.vs.map (·.n)->Gn s:=fun s hs=>by obtain ⟨v,hv,rfl⟩:=uG.1 hs;exact (hg.vs v hv).1
 have hx:∀ {y:EX},rF t.vs.length y->Pl (ut (t.vs.map (·.n)) y):=fun hy=>bPQ hv (by rw[JA]; exact hy)
 refine J4 rfl ?_ (by simp);refine nD (nD (gB (jb (by decide)) (gB (jb (a0M hg.ls h.f.1 h.f.2)) (gB (jb (a0M hg.es h.e.1 h.e.2)) (gB (jb (a0M hg.ls h.d.1 h.d.2)) oG)))) ?_) ?_
 .split;grind
  .exact gB (jb (by decide)) (hx h.g)
 .split;grind
  .refine gB (jb (by decide)) (VW (kw (by decide)) fun T hT => ?_);obtain ⟨u,hu,rfl⟩:=uG.1 hT;obtain ⟨⟨u0,u1⟩,u2⟩:=h.us u hu;exact nD (gB (jb (a0M hv u0 (by rw[JA]; exact u1))) (gB (kw (by decide)) oG)) (hx u2)
theorem bTZ {t:Tm} (hn:Gn t.n) (hg:BG t):rP (lF t):=by have hb:Sts (wI t.I t.mr 0 t.ls ++ t.vs.flatMap pF ++ t.ms.flatMap (mF t)):=aV3 (aV3 (aV4 hg.ls) (aCX fun v hv=>bT3 (hg.vs v hv))) (aCX fun x hx=>bT2 hg (hg.ms x hx));have:=rP.W9 (X := [tW [116,101,109,112,108,97,116,101],tW t.n] ++ tV t.es) (nD (gB (jb (by decide)) (gB (jb hn) oG)) (aSJ hg.es)) (by simp) hb .nil;grind [lF]
theorem aUZ {w:Nm} (hw:Gn w) {x:Ins} (h:Gn x.n/\Gn x.t/\∀ s,s∈x.es->Gn s):xA (inT w x):=by refine J4 rfl ?_ (by simp);exact nD (gB (jb hw) (gB (jb h.1) (gB (kw (by decide)) (gB (jb h.2.1) oG)))) (aSJ h.2.2)
theorem bT4 {x:pI} (h:Gn x.n/\x.ls ≠ []/\∀ l,l∈x.ls->Gn l.1/\Gn l.2):xA (rC x):=by refine J4 rfl ?_ (by simp);refine nD (gB (jb (by decide)) (gB (jb h.1) (gB (kw (by decide)) oG))) (VW (kw (by decide)) fun T hT => ?_);grind [jb]
theorem bS' {x:Cst} (h:Gn x.n/\x.ts ≠ []/\R16 x.b/\∀ l,l∈x.ts->Gn l.1/\R16 l.2):xA (pO x):=by refine J4 rfl ?_ (by simp);refine nD (nD (nD (gB (jb (by decide)) (gB (jb h.1) (gB (kw (by decide)) oG))) (VW (kw (by decide)) fun T hT => ?_)) (gB (kw (by decide)) oG)) (Kr h.2.2.1);obtain ⟨l,hl,rfl⟩:=uG.1 hT;have:=h.2.2.2 l hl;exact nD (Kr this.2) (gB (kw (by decide)) (gB (jb this.1) oG))
theorem Qd (hg:D7 m):rP (kz m):=by refine MH (MH (MH (MH (MH (MH (Qe ?_) (MI fun e he=>Qe (bT0 (hg.es e he).1 (hg.es e he).2))) (MI fun t ht=>bTZ (hg.ts t ht).1 (hg.ts t ht).2)) (MI fun x hx=>Qe (aUZ (by decide) (hg.is x (XB _ hx))))) (MI fun x hx=>Qe (aUZ (by decide) (hg.is x (XC _ hx))))) (MI fun x hx=>Qe (bT4 (hg.xs x hx)))) (MI fun x hx=>Qe (bS' (hg.ks x hx)));exact J4 rfl (gB (jb (by decide)) (gB (jb hg.n) oG)) (by simp)
def jw:List Tok->Nat
 | []=>0
 | t::T=>t.text.length+1+jw T
theorem o9:∀ A B:List Tok,jw (A ++ B)=jw A+jw B
 | [],B=>by rw[XF,jw,qK]
 | a::A,B=>by rw[lI,jw,jw,o9 A B]; omega
theorem I7:∀ T:List Tok,T ≠ []->(joinL T).length+1=jw T
 | [],h=>absurd rfl h
 | [t],_=>rfl
 | t::u::l,_=>by have:=I7 (u::l) (by simp);rw[joinL,aU,bM,jw,<- this]; omega
theorem PM:∀ T:List Tok,T.length<=jw T
 | []=>fK _
 | t::T=>by have:=PM T; rw[bM,jw]; omega
def phi (st:lg):Nat:=st.out.length+(if st.fr then 2 else 0)
theorem Fh (st:lg) (A B:List Tok):eU st (A ++ B)=eU (eU st A) B:=List.foldl_append
theorem aB0 (st:lg) (s:Nm) (hd:st.d<=1):(pq st s).length<=phi st+s.length+(if st.fr then 0 else 1)/\st.out.length<=(pq st s).length:=by have hr:=aSY st.d;grind [pq,phi]
theorem aCC:∀ {X:List Tok} {st:lg},Pl X->st.d<=1->(eU st X).d=st.d/\phi (eU st X)<=phi st+jw X/\(X ≠ []->(eU st X).fr=false)
 | [],st,_,_=>⟨rfl,by show phi st<=_; omega,fun h=>absurd rfl h⟩
 | t::X,st,h,hd=>by
  obtain ⟨n1,n2,n3⟩:=aWZ (h t (by simp));have e:jf st t.text=⟨st.d,t.text,pq st t.text,false⟩:=by unfold jf ry pend;rw[aV n2,aV n1,aV (by rintro (c | c); exact n2 c; exact n3 c)]
  have e2:eU st (t::X)=eU ⟨st.d,t.text,pq st t.text,false⟩ X:=by show eU (jf st t.text) X=_;rw[e]
  have hp:=(aB0 st t.text hd).1;obtain ⟨r1,r2,r3⟩:=aCC (X:=X) (st:=⟨st.d,t.text,pq st t.text,false⟩) (fun u hu=>h u (by simp[hu])) hd;rw[e2];refine ⟨r1,?_,fun _ => ?_⟩
  .have hq:phi ⟨st.d,t.text,pq st t.text,false⟩=(pq st t.text).length:=by unfold phi; simp
   rw[hq] at r2;rw[jw];cases hf:st.fr<;>rw[hf] at hp<;>simp at hp<;>omega
  .by_cases hX:X = []
   .subst hX; rfl
   .exact r3 hX
theorem bRP (hd:st.d<=1):(jf st [59]).d=st.d/\phi (jf st [59])<=phi st+4/\(jf st [59]).fr=true:=by have hp:=(aB0 st [59] hd).1;grind [jf,pq,ry,pend,phi]
theorem aTH {T:List Tok} (h:xA T) (hd:st.d<=1):(eU st T).d=st.d/\phi (eU st T)<=phi st+2*jw T/\(eU st T).fr=true:=by
 cases h with
 | @mk X hX hne =>grind [aCC,bRP,eU,Fh,jw,o9]
theorem bRQ {T:List Tok} (h:Sts T):∀ {st:lg},st.d<=1->st.fr=true->(eU st T).d=st.d/\phi (eU st T)<=phi st+2*jw T/\(eU st T).fr=true:=by
 induction h with
 | nil=>intro st _ hf; exact ⟨rfl,by show phi st<=_; omega,hf⟩
 | cons hX _ ih =>grind [aTH,Fh,o9]
theorem aCE {T:List Tok} (h:rP T):∀ {st:lg},st.d=0->st.fr=true->(eU st T).d=0/\phi (eU st T)<=phi st+2*jw T/\(eU st T).fr=true:=by
 induction h with
 | nil=>intro st hd hf; exact ⟨hd,by show phi st<=_; omega,hf⟩
 | Vw hX _ ih =>grind [aTH,Fh,o9]
 | @W9 X B T hX hne hB _ ih =>
  intro st hd hf;obtain ⟨r1,r2,r3⟩:=aCC (st:=st) hX (by omega);have r3:=r3 hne;have p1:=(aB0 (eU st X) [123] (by omega)).1;have e1:jf (eU st X) [123]=⟨1,[123],pq (eU st X) [123] ++ [10],true⟩:=by grind [jf,ry,pend]
  have f1:phi (jf (eU st X) [123])<=phi (eU st X)+5:=by rw[e1];grind [phi]
  obtain ⟨b1,b2,b3⟩:=bRQ hB (st:=jf (eU st X) [123]) (by rw[e1]; simp) (by rw[e1]);generalize hS:eU (jf (eU st X) [123]) B=S at b1 b2 b3;have hS1:S.d=1:=by rw[b1,e1]
  have e2:jf S [125]=⟨0,[125],S.out ++ [125] ++ [10],true⟩:=by
   have hp:ry S [125]=⟨0,S.last,S.out,true⟩:=by grind [ry]
   grind [jf,pend,pq,Lib.repeatL]
  have f2:phi (jf S [125])<=phi S+2:=by rw[e2];grind [phi]
  obtain ⟨s1,s2,s3⟩:=ih (st:=jf S [125]) (by rw[e2]) (by rw[e2]);have e:eU st (X ++ [tS [123]] ++ B ++ [tS [125]] ++ T)=eU (jf S [125]) T:=by rw[Fh,Fh,Fh,Fh];show eU (jf (eU (jf (eU st X) [123]) B) [125]) T=_;rw[hS]
  have hj:jw (X ++ [tS [123]] ++ B ++ [tS [125]] ++ T)=jw X+2+jw B+2+jw T:=by rw[o9,o9,o9,o9]; rfl
  rw[e,hj];exact ⟨s1,by omega,s3⟩
theorem bSY (st:lg) (s:Nm):st.out.length<=(jf st s).out.length/\(jf st s).d<=st.d+1:=by
 have h1:st.out.length<=(ry st s).out.length/\(ry st s).d<=st.d:=by
  unfold ry;split
  .refine ⟨?_,by show st.d-1<=_; omega⟩;show _<=(if st.fr then st.out else st.out ++ [10]).length;split
   .omega
   .rw[aU]; omega
  .exact ⟨fK _,fK _⟩
 have h2:(ry st s).out.length<=(pq (ry st s) s).length:=by
  unfold pq;split
  .rw[aU,aU]; omega
  .rw[aU];split
   .omega
   .rw[aU]; omega
 unfold jf pend;split
 .exact ⟨by rw[aU]; omega,by show (ry st s).d+1<=_; omega⟩
 .split
  .exact ⟨by rw[aU]; omega,by show (ry st s).d<=_; omega⟩
  .exact ⟨by show _<=(pq (ry st s) s).length; omega,by show (ry st s).d<=_; omega⟩
theorem Vk:∀ (T:List Tok) (st:lg),st.out.length<=(eU st T).out.length/\(eU st T).d<=st.d+T.length
 | [],st=>⟨fK _,fK _⟩
 | t::T,st=>by have h1:=bSY st t.text;have h2:=Vk T (jf st t.text);show st.out.length<=(eU (jf st t.text) T).out.length/\(eU (jf st t.text) T).d<=st.d+(T.length+1);omega
theorem aSP {A B:List Tok} (h:A.map (·.text)=B.map (·.text)) (st:lg):eU st A=eU st B:=by
 have e:∀ (T:List Tok) (st:lg),eU st T=(T.map (·.text)).foldl jf st:=fun T st=>by unfold eU; rw[List.foldl_map]
 rw[e,e,h]
theorem aOI {T:List Tok} (hne:T ≠ []) (ht:∀ t,t∈T->Tv t) (hl:(joinL T).length<=65536):SS.CC 113 [.sl false 5 (T.map bK)] []=some (.tuple [.str (bs (joinL T)),bZV 0],[]):=by
 have hn:T.length<=65537:=by have:=PM T; have:=I7 T hne; omega
 obtain ⟨T',e,h1,h2,h3⟩:=aTU hne ht hl;have hk:∀ t,t∈T->t.kind≠4:=fun t h=>(ht t h).2.2.2
 have hk':=a5V h2 hk;have hl':T'.length=T.length:=by have:=congrArg List.length h2; simpa using this
 have Hz:SS.CC 24 [.str (bs (joinL T))] []=some (.tuple [.sl false 5 ((T' ++ [e]).map bK),bZV 0,bZV 0,bZV 0],[]):=by
  have:SS.CC 24 [.str (bs (joinL T))] []=some (EY (tu (joinL T)),[]):=by rw[JU dQ]; rfl
  rw[this,h1]; rfl
 have hb:rU (T' ++ [e])=T':=by rw[a5H,Je hk',Y5 h3]; simp[rU]
 rw[a6R,Gp (m32 T (by omega)),Je hk];have:=aOE T (by omega) T.length 0 (by omega);rw[show ((0:Nat):Int)=0 from rfl,List.take_zero,List.map_nil] at this;rw[this,aII,aW (by rw[bF]; omega),aC,pJ (sjc T (by omega) (by omega)),XR Hz];dsimp only;rw[DU rfl,aC,Gp (m32 (T' ++ [e]) (by rw[aU,uF]; omega)),hb,aZ (a_4 T T' (by omega) h2)];rfl
theorem bQ2 {T:List Tok} (hne:T ≠ []) (ht:∀ t,t∈T->Kt sA t) (hT:rP T) (hl:(joinL T).length<=30000):SS.CC 27 [.sl false 5 (T.map bK)] []=some (.tuple [.str (bs (EO (eU nV T))),bZV 0],[])/\(EO (eU nV T)).length<=65536:=by
 have hj:=I7 T hne;have hn:=PM T;obtain ⟨r1,r2,r3⟩:=aCE hT (st:=nV) rfl rfl;have bIW:phi nV=2:=rfl;have ho:(eU nV T).out.length<=65536:=by unfold phi at r2; rw[r3] at r2; simp at r2; omega
 have hk:∀ t,t∈T->t.kind≠4:=fun t h=>(Nc (ht t h)).2.2.2
 have hb:rU T=T:=Je hk;refine ⟨?_,by unfold EO; rw[r3]; exact ho⟩;rw[aMC,NQ (aOI hne (fun t h=>Nc (ht t h)) (by omega))];dsimp only;rw[DU rfl,aC,Gp (m32 T (by omega)),hb];refine aSE T (by omega) (fun t h=>ng (aF3 (ht t h)) (by decide)) fun k hk => ?_
 have m1:=Vk (T.take k) nV;have m2:=Vk (T.drop k) (eU nV (T.take k));rw[<- Fh,Qv] at m2;have:(T.take k).length<=T.length:=by rw[wY]; omega
 have hd0:nV.d=0:=rfl;exact ⟨by omega,by omega⟩
theorem bJO {U T:List Tok} (hU:rU U=T) (hUn:U.length<=900000) (hne:T ≠ []) (ht:∀ t,t∈T->Tv t) (hl:(joinL T).length<=65536):SS.CC 113 [.sl false 5 (U.map bK)] []=some (.tuple [.str (bs (joinL T)),bZV 0],[]):=by
 have e:=aOI hne ht hl;have hk:∀ t,t∈T->t.kind≠4:=fun t h=>(ht t h).2.2.2
 have hn:T.length<=65537:=by have:=PM T; have:=I7 T hne; omega
 rw[a6R,Gp (m32 T (by omega)),Je hk] at e;rw[a6R,Gp (m32 U (by omega)),hU];exact e
theorem bU3 {T T':List Tok} (h:T'.map dB=T.map dB) (ht:∀ t,t∈T->Tv t):∀ t,t∈T'->Tv t:=fun t' hm=>by
 have:dB t'∈T.map dB:=by rw[<- h]; grind
 obtain ⟨t,hm2,e⟩:=uG.1 this;obtain ⟨a,b,c,d⟩:=ht t hm2;have e1:t'.text=t.text:=(congrArg (fun c=>c.2.1) e).symm;have e2:t'.kind=t.kind:=(congrArg (fun c=>c.1) e).symm;exact ⟨by rw[e1]; exact a,by rw[e1]; exact b,by rw[e1]; simp_all,by rw[e2]; exact d⟩
theorem a'A {T T':List Tok} (h:T'.map dB=T.map dB):T'.map (·.text)=T.map (·.text):=by have:=congrArg (List.map fun c:Int×bZ'×Int=>c.2.1) h;rw[X9,X9] at this;exact this
theorem aOH:∀ {A B:List Tok},A.map (·.text)=B.map (·.text)->joinL A=joinL B
 | [],[],_=>rfl
 | [],_::_,h=>by cases h
 | _::_,[],h=>by cases h
 | [a],[b],h=>by injection h
 | [_],_::_::_,h=>by simp_all
 | _::_::_,[_],h=>by simp_all
 | a::a2::A,b::b2::B,h=>by
  injection h with h1 h2
  rw[joinL,joinL,aOH (A:=a2::A) (B:=b2::B) h2,show a.text=b.text from h1]
theorem bQ1 {U T T0:List Tok} (hU:rU U=T) (hUn:U.length<=900000) (hc:T.map dB=T0.map dB) (hne:T0 ≠ []) (ht:∀ t,t∈T0->Kt sA t) (hT:rP T0) (hl:(joinL T0).length<=30000):SS.CC 27 [.sl false 5 (U.map bK)] []=some (.tuple [.str (bs (EO (eU nV T0))),bZV 0],[]):=by
 have hx:=a'A hc;have hj:joinL T=joinL T0:=aOH hx;have hlen:T.length=T0.length:=by have:=congrArg List.length hc; grind
 have hne':T ≠ []:=fun h=>hne (List.length_eq_zero_iff.1 (by rw[<- hlen,h]; rfl))
 have htv:∀ t,t∈T->Tv t:=bU3 hc fun t h=>Nc (ht t h)
 have hn:T0.length<=30001:=by have:=PM T0; have:=I7 T0 hne; omega
 have bJ2:∀ t,t∈T->t.text.length<=1000:=fun t' hm=>by grind [List.mem_map_of_mem,aF3]
 obtain ⟨r1,r2,r3⟩:=aCE hT (st:=nV) rfl rfl;have bIW:phi nV=2:=rfl;have hjw:=I7 T0 hne;have ho:(eU nV T0).out.length<=65536:=by grind [phi]
 rw[aMC,NQ (bJO hU hUn hne' htv (by rw[hj]; omega))];dsimp only;rw[DU rfl,aC,Gp (m32 U (by omega)),hU,<- aSP hx];refine aSE T (by omega) bJ2 fun k hk => ?_
 have m1:=Vk (T.take k) nV;have m2:=Vk (T.drop k) (eU nV (T.take k));rw[<- Fh,Qv,aSP hx] at m2;grind
theorem aP0 {T:List Tok} (h:xA T):∀ t,t∈T->Kt sA t:=by
 cases h with
 | mk hX _ =>
  intro t ht;rcases vX.1 ht with ht | ht
  grind [aF2]
  .rw[xx] at ht; rw[ht]; exact kw (by decide)
theorem bL3 {T:List Tok} (h:Sts T):∀ t,t∈T->Kt sA t:=by
 induction h with
 | nil=>simp
 | cons hX _ ih =>grind [aP0]
theorem a96 {T:List Tok} (h:rP T):∀ t,t∈T->Kt sA t:=by
 induction h with
 | nil=>simp
 | Vw hX _ ih =>grind [aP0]
 | W9 hX _ hB _ ih =>
  intro t ht;simp only[vX,xx] at ht;rcases ht with (((ht | ht) | ht) | ht) | ht
  grind [aF2]
  .rw[ht]; exact kw (by decide)
  grind [bL3]
  .rw[ht]; exact kw (by decide)
  simp_all
theorem V9 (m:Mo):kz m ≠ []:=by unfold kz; simp
def MK (m:Mo):Nm:=EO (eU nV (kz m))
theorem aQT (hl:(joinL (kz m)).length<=30000):(kz m).length<=30001:=by have:=PM (kz m); have:=I7 (kz m) (V9 m); omega
theorem bTK (ho:mY m) (h2:m.cs.length+m.rs.length<=1000) (hc:DW m=0) (hl:(joinL (kz m)).length<=30000):SS.CC 10 [A0 (aS m)] []=some (.str (bs (MK m)),[]):=by
 have hg:=UM ho hc;have hn:=aQT hl;have ht:=a96 (Qd hg);obtain ⟨T',e,h1,h2',h3⟩:=aTU (V9 m) (fun t h=>Nc (ht t h)) (by omega);have Hz:SS.CC 24 [.str (bs (joinL (kz m)))] []=some (.tuple [.sl false 5 ((T' ++ [e]).map bK),bZV 0,bZV 0,bZV 0],[]):=by
  have:SS.CC 24 [.str (bs (joinL (kz m)))] []=some (EY (tu (joinL (kz m))),[]):=by rw[JU dQ]; rfl
  rw[this,h1]; rfl
 have hk':=a5V h2' fun t h=>(Nc (ht t h)).2.2.2
 have hb:rU (T' ++ [e])=T':=by rw[a5H,Je hk',Y5 h3]; simp[rU]
 have hl':T'.length=(kz m).length:=by have:=congrArg List.length h2'; grind
 rw[b8D,uJ (bVX m ho hg h2 (by omega))];refine (pJ (sjc (kz m) (by omega) (by omega))).trans ?_;rw[XR Hz];dsimp only;rw[NQ (bQ1 hb (by rw[aU,uF]; omega) h2' (V9 m) ht (Qd hg) hl)];rfl
theorem aSO (ho:mY m) (h2:m.cs.length+m.rs.length<=1000) (hc:DW m=0) (hl:(joinL (kz m)).length<=30000):SS.CC 12 [A0 (aS m)] []=some (.tuple [.str (bs (MK m)),bZV 0],[]):=by have hg:=UM ho hc;have hn:=aQT hl;have ht:=a96 (Qd hg);have hp:=bQ2 (V9 m) ht (Qd hg) hl;have c57:=aZ6 m ho hg (by omega);rw[b7B,cZ (a5T m ho h2),hc,DU rfl,aC];refine (bQ c57).trans ?_;rw[NQ hp.1];dsimp only;rw[DU rfl,aC,mf,aW (by have:=hp.2; omega),aC];rfl
def Rd (u:List UInt8) (T:List Tok):Prop:=∀ (i line start:Nat) (acc:List Tok),∃ us e,xg false u i line start acc = .ok (acc ++ us ++ [e])/\us.map dB=T.map dB/\e.kind=4
section
variable {u:List UInt8} {T:List Tok} {b:UInt8} {t:Tok}
theorem bQM:Rd [] []:=fun i line start acc=>⟨[],_,by rw[aEB,yl],rfl,rfl⟩
theorem a2T (hb:yI b.toNat=true) (h:Rd u T):Rd (b::u) T:=fun i line start acc=>by rw[C_step (by rw[jD,aX hb])];exact h _ _ _ _
theorem bQO (ht:Tv t) (hs:bg (t.text ++ u)=bg t.text) (h:Rd u T):Rd (t.text ++ u) (t::T):=fun i line start acc=>by
 obtain ⟨h1,h2,h3,_⟩:=ht;match hx:t.text,h1 with
 | b::r,_ =>
  rw[hx] at h2 h3 hs;have e3:(bg (b::r)).1.text=b::r:=by simp_all
  rw[lI] at hs ⊢;rw[a4L (a3G h2 _),hs,aX h2,e3,<- lI,List.drop_left];obtain ⟨us,e,w1,w2,w3⟩:=h (i+(b::r).length) line start (acc ++ [(bg (b::r)).1.at (line:Nat) ((i-start+1:Nat):Int)]);refine ⟨(bg (b::r)).1.at (line:Nat) ((i-start+1:Nat):Int)::us,e,by rw[w1]; simp,?_,w3⟩;rw[sN,w2];exact congrArg (· :: _) h3
end
theorem bTH {x:UInt8} (hx:∀ y∈jS,y ≠ []/\∀ c∈y.tail,c≠x) (u:List UInt8) (b:UInt8) (l:List UInt8):Ce ((b::l) ++ x::u)=Ce (b::l):=by
 refine find_congr fun y hy => ?_
 obtain ⟨h0,h1⟩:=hx y hy;match y,h0,h1 with
 | a::y',_,h1=>grind [aAW]
theorem aST {x:UInt8} (h1:o8 x.toNat=false) (hx:∀ y∈jS,y ≠ []/\∀ c∈y.tail,c≠x) (u:List UInt8) {l:List UInt8} (hl:l ≠ []):bg (l ++ x::u)=bg l:=by
 match l,hl with
 | b::r,_ =>
 grind [o8,aCD,bTH,bg,CG,Ci,Eb]
abbrev stB:List UInt8 := [32,10,44,59,41]
theorem bT5 {t:Tok} (ht:Tv t) {b:UInt8} (hb:b∈stB) (u:List UInt8):bg (t.text ++ b::u)=bg t.text:=by
 have h1:∀ b,b∈stB->o8 b.toNat=false:=by decide
 have h2:∀ b,b∈stB->∀ y∈jS,y ≠ []/\∀ c∈y.tail,c≠b:=by decide
 exact aST (h1 b hb) (h2 b hb) u ht.1
theorem bT6 (u:List UInt8):bg ([40] ++ u)=bg [40]:=rfl
theorem bU4 {t:Tok} (ht:Tv t):(10:UInt8)∉t.text:=fun hm=>by
 obtain ⟨l1,l2,e⟩:=List.append_of_mem hm;obtain ⟨h1,h2,h3,_⟩:=ht;have htx:(bg t.text).1.text=t.text:=congrArg (fun c=>c.2.1) h3;match l1,e with
 | [],e =>rw[e] at h2;have:=a3G h2 l2;rw[jD] at this;simp[yI] at this
 | b::r,e =>
  have hr:bg t.text=bg (b::r):=by rw[e];exact aST (by decide) (by decide) l2 (by simp)
  rw[hr] at h2 htx;have:=(Vb h2).2;grind
def Opn (cur:Nm) (T2:List Tok) (op:Bool):Prop:=∀ u T',Rd u T'->(u = []\/(∃ b r,u=b::r/\b∈stB)\/op=true)->Rd (cur ++ u) (T2 ++ T')
theorem aBX {t:Tok} (ht:Tv t) {u:Nm} {T':List Tok} (h:Rd u T') (hu:u = []\/(∃ b r,u=b::r/\b∈stB)\/decide (t.text = [40])=true):Rd (t.text ++ u) (t::T'):=by grind [bQO,bT5,bT6]
theorem aRW {t:Tok} (ht:Tv t):∀ (k:Nat),Opn (Lib.repeatL [32,32] k ++ t.text) [t] (decide (t.text = [40]))
 | 0=>fun u T' h hu=>by exact aBX ht h hu
 | k+1=>fun u T' h hu=>by have:=aRW ht k u T' h hu;exact a2T rfl (a2T rfl this)
theorem bNL {cur:Nm} {T2:List Tok} {op:Bool} (h:Opn cur T2 op) {t:Tok} (ht:Tv t):Opn (cur ++ [32] ++ t.text) (T2 ++ [t]) (decide (t.text = [40]))/\((t.text = [44]\/t.text = [59]\/t.text = [41]\/op=true)->Opn (cur ++ t.text) (T2 ++ [t]) (decide (t.text = [40]))):=by
 refine ⟨fun u T' hr hu => ?_,fun hc u T' hr hu => ?_⟩
 .have:=h (32::(t.text ++ u)) (t::T') (a2T rfl (aBX ht hr hu)) (.inr (.inl ⟨32,_,rfl,by decide⟩));simp_all
 .have hh:t.text ++ u = []\/(∃ b r,t.text ++ u=b::r/\b∈stB)\/op=true:=by grind
  have:=h (t.text ++ u) (t::T') (aBX ht hr hu) hh;simp_all
def Xc (p:Nm×List Tok):Prop:=(10:UInt8)∉p.1/\∀ u T',Rd u T'->(u = []\/∃ b r,u=b::r/\(b=32\/b=10))->Rd (p.1 ++ u) (p.2 ++ T')
abbrev EE (Ls:List (Nm×List Tok)):Nm:=Ls.flatMap fun p=>p.1 ++ [10]
structure PI (st:lg) (Ls:List (Nm×List Tok)) (cur:Nm) (T2:List Tok):Prop where
 out:st.out=EE Ls ++ cur
 ls:∀ p,p∈Ls->Xc p
 fr:st.fr=true->cur = []/\T2 = []
 op:st.fr=false->Opn cur T2 (decide (st.last = [40]))/\(10:UInt8)∉cur
theorem a9T {cur:Nm} {T2:List Tok} {op:Bool} (h:Opn cur T2 op) (h10:(10:UInt8)∉cur):Xc (cur,T2):=⟨h10,fun u T' hr hu=>h u T' hr (by grind)⟩
theorem bLF (A B:List (Nm×List Tok)):EE (A ++ B)=EE A ++ EE B:=List.flatMap_append
theorem bQW (k:Nat):(10:UInt8)∉Lib.repeatL ([32,32]:List UInt8) k:=by
 induction k with
 | zero=>exact fun h=>by cases h
 | succ k ih =>grind [Lib.repeatL]
def bk (t:Tok):Nat:=if t.text = [123]\/t.text = [125]\/t.text = [59] then 2 else 0
def Y7 (T:List Tok):Nat:=(T.map bk).sum
theorem bPP {Ls:List (Nm×List Tok)} {cur:Nm} {T2:List Tok} (h:PI st Ls cur T2) {t:Tok} (ht:Tv t):
 ∃ BL cur' T2',PI (jf st t.text) BL cur' T2'/\BL.flatMap (·.2) ++ T2'=Ls.flatMap (·.2) ++ T2 ++ [t]/\BL.length<=Ls.length+bk t:=by
 have hcl:∃ JZ YU T1,PI (ry st t.text) JZ YU T1/\JZ.flatMap (·.2) ++ T1=Ls.flatMap (·.2) ++ T2/\JZ.length<=Ls.length+(if t.text = [125] then 1 else 0):=by
  unfold ry;by_cases c:t.text = [125]
  .rw[aX c];cases hf:st.fr with
   | true =>obtain ⟨e1,e2⟩:=h.fr hf;exact ⟨Ls,cur,T2,⟨by simpa using h.out,h.ls,fun _=>⟨e1,e2⟩,fun c=>by cases c⟩,rfl,by omega⟩
   | false =>
    obtain ⟨o1,o2⟩:=h.op hf;refine ⟨Ls ++ [(cur,T2)],[],[],⟨?_,fun p hp => ?_,fun _=>⟨rfl,rfl⟩,fun c=>by cases c⟩,by simp,by rw[aX c]; simp⟩
    .rw[h.out,bLF];simp[EE]
    .rcases vX.1 hp with hp | hp
     .exact h.ls p hp
     grind [a9T]
  grind
 obtain ⟨JZ,YU,T1,h1,e1,n1⟩:=hcl;generalize hs1:ry st t.text=s1 at h1;have h10:=bU4 ht;have hput:∃ cur',pq s1 t.text=EE JZ ++ cur'/\Opn cur' (T1 ++ [t]) (decide (t.text = [40]))/\(10:UInt8)∉cur':=by
  unfold pq;cases hf:s1.fr with
  | true =>obtain ⟨rfl,rfl⟩:=h1.fr hf;refine ⟨Lib.repeatL [32,32] s1.d ++ t.text,by rw[h1.out]; simp,aRW ht _,fun hm => ?_⟩;grind [bQW]
  | false =>
   obtain ⟨o1,o2⟩:=h1.op hf;obtain ⟨a1,a2⟩:=bNL o1 ht;by_cases c:t.text = [44]\/t.text = [59]\/t.text = [41]\/s1.last = [40]
   .rw[aX c];refine ⟨YU ++ t.text,by rw[h1.out]; simp,a2 (by grind),fun hm => ?_⟩;simp_all
   .rw[aV c];refine ⟨YU ++ [32] ++ t.text,by rw[h1.out]; simp,a1,fun hm => ?_⟩;simp_all
 obtain ⟨cur',p1,p2,p3⟩:=hput;have done:∀ (d:Nat),∃ BL a'F T2',PI ⟨d,t.text,pq s1 t.text ++ [10],true⟩ BL a'F T2'/\BL.flatMap (·.2) ++ T2'=Ls.flatMap (·.2) ++ T2 ++ [t]/\BL.length<=Ls.length+(if t.text = [125] then 1 else 0)+1:=fun d=>by
  refine ⟨JZ ++ [(cur',T1 ++ [t])],[],[],⟨?_,fun p hp => ?_,fun _=>⟨rfl,rfl⟩,fun c=>by cases c⟩,?_,by rw[aU,uF]; omega⟩;simp_all
  .rcases vX.1 hp with hp | hp
   .exact h1.ls p hp
   grind [a9T]
  grind
 unfold jf;rw[hs1];unfold pend;by_cases c1:t.text = [123]
 .obtain ⟨a,b,c,d1,d2,d3⟩:=done (s1.d+1);grind [bk]
 .rw[aV c1];by_cases c2:t.text = [125]\/t.text = [59]
  .obtain ⟨a,b,c,d1,d2,d3⟩:=done s1.d;grind [bk]
  .rw[aV c2];exact ⟨JZ,cur',T1 ++ [t],⟨p1,h1.ls,fun c=>(by cases c),fun _=>⟨p2,p3⟩⟩,by rw[<- e1]; simp,by rw[aV (fun c=>c2 (.inl c))] at n1; omega⟩
theorem aSG:∀ (T:List Tok) {st:lg} {Ls:List (Nm×List Tok)} {cur:Nm} {T2:List Tok},PI st Ls cur T2->(∀ t,t∈T->Tv t)->∃ BL cur' T2',PI (eU st T) BL cur' T2'/\BL.flatMap (·.2) ++ T2'=Ls.flatMap (·.2) ++ T2 ++ T/\BL.length<=Ls.length+Y7 T
 | [],st,Ls,cur,T2,h,_=>⟨Ls,cur,T2,h,by simp,fK _⟩
 | t::T,st,Ls,cur,T2,h,ht=>by
  obtain ⟨L1,c1,T1,h1,e1,n1⟩:=bPP h (ht t (by simp));obtain ⟨L2,c2,T3,h2,e2,n2⟩:=aSG T h1 fun x hx=>ht x (by simp[hx])
  exact ⟨L2,c2,T3,h2,by rw[e2,e1]; simp,by grind [Y7]⟩
theorem bU7 {T:List Tok} (ht:∀ t,t∈T->Tv t):∃ Ls,EO (eU nV T)=EE Ls/\(∀ p,p∈Ls->Xc p)/\Ls.flatMap (·.2)=T/\Ls.length<=Y7 T+1:=by
 obtain ⟨Ls,cur,T2,h,e,n⟩:=aSG T (st:=nV) (Ls := []) ⟨rfl,fun _ h=>(by cases h),fun _=>⟨rfl,rfl⟩,fun c=>(by cases c)⟩ ht;have n:Ls.length<=Y7 T:=by grind
 unfold EO;cases hf:(eU nV T).fr with
 | true =>obtain ⟨rfl,rfl⟩:=h.fr hf;exact ⟨Ls,by rw[aX rfl,h.out,yl],h.ls,by grind,by omega⟩
 | false =>
  obtain ⟨o1,o2⟩:=h.op hf;refine ⟨Ls ++ [(cur,T2)],?_,fun p hp => ?_,by grind,by rw[aU,uF]; omega⟩
  .rw[h.out]; simp[EE]
  .rcases vX.1 hp with hp | hp
   .exact h.ls p hp
   grind [a9T]
def LnE (p:Nm×List Tok):Prop:=(10:UInt8)∉p.1/\∀ u T',Rd u T'->(u = []\/∃ r,u=10::r)->Rd (p.1 ++ u) (p.2 ++ T')
theorem bLL {p:Nm×List Tok} (h:Xc p):LnE p:=⟨h.1,fun u T' hr hu=>h.2 u T' hr (by grind)⟩
theorem aSS {z:Nm} (hz:Rd z []) (hz2:z = []\/True):∀ (Ls:List (Nm×List Tok)),(∀ p,p∈Ls->LnE p)->Rd (EE Ls ++ z) (Ls.flatMap (·.2))
 | [],_=>hz
 | p::Ls,h=>by
  have ih:=aSS hz hz2 Ls fun q hq=>h q (by simp[hq])
  have:=(h p (by simp)).2 (10::(EE Ls ++ z)) _ (a2T rfl ih) (.inr ⟨_,rfl⟩);simp_all
theorem bQN {u:Nm} {T:List Tok} (h:Rd u T) (hl:u.length<=65536):∃ us e,tu u = .ok (us ++ [e])/\us.map dB=T.map dB/\e.kind=4:=by obtain ⟨us,e,w1,w2,w3⟩:=h 0 1 0 [];refine ⟨us,e,?_,w2,w3⟩;unfold tu;rw[aV (by omega)];exact w1
theorem EG {Z ρ:Type} {L:Nat->Z->ρ} {E:Z->ρ} {P:Nat->Z->Prop} {n:Nat} (hs:∀ k a,k<n->P k a->∃ a',L k a=L (k+1) a'/\P (k+1) a') (he:∀ a,P n a->L n a=E a) (a:Z) (h0:P 0 a):∃ b,L 0 a=E b/\P n b:=by
 have:∀ (m k:Nat) (a:Z),k+m=n->P k a->∃ b,L k a=E b/\P n b:=by
  intro m;induction m with
  | zero=>grind
  | succ m ih =>grind
 simp_all
theorem zT (t:Tok) (B:List Tok):jw (t::B)=t.text.length+1+jw B:=by rw[jw]
theorem yK:jw []=0:=rfl
theorem aOG:∀ T:List Tok,(joinL T).length<=jw T
 | []=>by simp[joinL]
 | [t]=>by rw[joinL,jw,jw]; omega
 | t::u::l=>by have:=aOG (u::l);rw[joinL,zT,aU,bM];omega
theorem FO (f:α->List Tok) (b:Nat):∀ l:List α,(∀ a,a∈l->jw (f a)<=b)->jw (l.flatMap f)<=l.length*b
 | [],_=>by simp[yK]
 | a::l,h=>by
  have h1:=h a (by simp);have h2:=FO f b l fun x hx=>h x (by simp[hx])
  rw[Qs,o9,bM,oI];omega
theorem Ui (s:Tok) (b:Nat):∀ L:List (List Tok),(∀ a,a∈L->jw a+s.text.length+1<=b)->jw (gq s L)<=L.length*b
 | [],_=>by simp[gq,yK]
 | [a],h=>by have:=h a (by simp); simp[gq]; omega
 | a::c::l,h=>by
  have h1:=h a (by simp);have h2:=Ui s b (c::l) fun x hx=>h x (by simp[hx])
  rw[gq,o9,zT,bM,oI];omega
theorem VI {v:Int} (h0 : -999<=v) (h1:v<=999):jw (dO v)<=6:=by grind [Lib.decDigits,dO,zT,yK]
theorem Ws (x:EX) (need:Int) (B:List Tok):jw (wp x need B)<=jw B+4:=by grind [wp,zT,o9,yK]
theorem bWE (x:EX) (B:List Tok):jw (wp x 0 B)=jw B:=by have:=V7 x;grind [wp]
theorem aU4 (o:Int):(qA o).length<=2:=by grind [qA]
theorem bPK {ns:List Nm} (hns:∀ s,s∈ns->s.length<=2) {B:List Tok} (h:PB ns x B):∀ {nv k:Int},Ty nv k x->jw B<=12*fU x:=by
 induction h with
 | tt=>intro nv k _; show 5<=12*3; decide
 | ff=>intro nv k _; show 6<=12*3; decide
 | @num v _ _ =>
  intro nv k ht;have hv : -8<=v/\v<=23:=by
   generalize hx:nE v=x at ht;cases ht with
   | Ez h1 h2=>grind [nE]
   | var _ _=>grind [nE,vE]
   | neg _=>grind [nE]
   | xR _=>grind [nE]
   | ar h1 h2 _ _=>grind [nE]
   | cmp h1 h2 _ _=>grind [nE]
   | log h1 h2 _ _=>grind [nE]
   | ite _ _ _=>grind [nE]
  have:=VI (v:=v) (by omega) (by omega);show _<=12*1;omega
 | @var i s hs =>intro nv k _;have:=hns s (nZ hs);rw[zT,yK];show s.length+1+0<=12*1;omega
 | @IU v h0 h1 hp ih =>
  intro nv k ht;have ha:Ty nv 1 (nE v):=by
   generalize hx:kN 5 (nE v)=x at ht;cases ht with
   | Ez h1 h2=>grind [nE]
   | var _ _=>grind [vE]
   | neg h=>simp_all
   | xR _=>simp_all
   | ar h1 h2 _ _=>simp_all
   | cmp h1 h2 _ _=>simp_all
   | log h1 h2 _ _=>simp_all
   | ite _ _ _=>simp_all
  have:=ih ha;have e:fU (nE v)=1:=rfl;rw[e] at this;rw[zT,zT,o9,zT,yK];show 1+1+(1+1+(_+(1+1+0)))<=12*2;omega
 | @neg o v i l B hc hp ih =>grind [Ty,nE,vE,Ws,fU,uB,zT]
 | @xR a B hp ih =>grind [Ty,nE,vE,Ws,fU,uB,zT]
 | @cmp o a b A B ho _ _ hpa hpb ia ib =>grind [Ty,nE,vE,Ws,fU,uB,aU4,o9,zT]
 | @bin o lv a b A B ho hpa hpb ia ib =>grind [Ty,nE,vE,Ws,fU,uB,aU4,o9,zT]
 | @ite c a b C A B hpc hpa hpb ic ia ib =>grind [Ty,nE,vE,Ws,fU,uB,o9,zT,bWE]
theorem Sl (x:R):chk true x=x:=aQ rfl
abbrev U8 (n:Int):Prop:=0<=n/\n<=255
abbrev I8 (n:Int):Prop := -128<=n/\n<=127
structure XO (e:lM):Prop where
 k:0<=e.k/\e.k<=4
 f:e.k≠0->e.c=false/\e.o=false
theorem TD (x1:Sh.V Ro) (acc:List lM) (ha:acc.length<=100) (j:Int) (c:UInt8) (n:Int) (hn:U8 n) (hj:j<5)
 (hb:sW ([.int .u8 (IntKind.u8.wrap (97+(IntKind.u8.wrap j)))]:bZZ)=true) (hs:strOf ([.int .u8 (IntKind.u8.wrap (97+(IntKind.u8.wrap j)))]:bZZ)=bs [c])
 (hl:∀ K,bz [.int .u8 x1.1,.int .u8 x1.2.1,.int .u8 x1.2.2.1,.int .u8 x1.2.2.2.1,.int .u8 x1.2.2.2.2.1] j K=K (.int .u8 n)) :
 ∃ e:lM,e.n = [c]/\XO e/\Jy x1 (acc.map uU) j=Jy x1 ((acc ++ [e]).map uU) (i64.wrap (j+1)):=by
 have hla:(acc.map uU).length+1<=aO:=by rw[bF]; show _<=1073741824; omega
 rw[aIJ];simp only[aN hj,aI,aQ hb,aQ (aN hj),hl,ui,hs,aQ (aN hla)];by_cases h1:48<=n
 .rw[aN h1,aI];by_cases h2:n<52
  .rw[aN h2,aI];refine ⟨⟨[c],false,false,false,n-47⟩,rfl,⟨⟨by grind,by grind⟩,fun _=>⟨rfl,rfl⟩⟩,?_⟩;grind [Sl,wrap64]
  .rw[aW h2,aC];refine ⟨⟨[c],IntKind.u8.wrap ((BitVec.ofInt 8 n &&& BitVec.ofInt 8 1).toNat:Int)==1,IntKind.u8.wrap ((BitVec.ofInt 8 n &&& BitVec.ofInt 8 2).toNat:Int)==2,IntKind.u8.wrap ((BitVec.ofInt 8 n &&& BitVec.ofInt 8 4).toNat:Int)==4,0⟩,rfl,⟨⟨JH _,by simp⟩,fun h=>absurd rfl h⟩,?_⟩;grind [Sl]
 .rw[aW h1,aC];refine ⟨⟨[c],IntKind.u8.wrap ((BitVec.ofInt 8 n &&& BitVec.ofInt 8 1).toNat:Int)==1,IntKind.u8.wrap ((BitVec.ofInt 8 n &&& BitVec.ofInt 8 2).toNat:Int)==2,IntKind.u8.wrap ((BitVec.ofInt 8 n &&& BitVec.ofInt 8 4).toNat:Int)==4,0⟩,rfl,⟨⟨JH _,by simp⟩,fun h=>absurd rfl h⟩,?_⟩;grind [Sl]
theorem evM {a b c d e:Int} (ha:U8 a) (hb:U8 b) (hc:U8 c) (hd:U8 d) (he:U8 e):∃ es:List lM,SS.CC 28 [XM (a,b,c,d,e,())] []=some (.sl false 5 (es.map uU),[])/\es.map (·.n) = [[97],[98],[99],[100],[101]]/\∀ x,x∈es->XO x:=by obtain ⟨e0,n0,o0,q0⟩:=TD (a,b,c,d,e,()) [] (by decide) 0 97 a ha (by decide) (by kernel_rfl) (by kernel_rfl) (fun K=>rfl);obtain ⟨e1,n1,o1,q1⟩:=TD (a,b,c,d,e,()) [e0] (by simp) 1 98 b hb (by decide) (by kernel_rfl) (by kernel_rfl) (fun K=>rfl);obtain ⟨e2,n2,o2,q2⟩:=TD (a,b,c,d,e,()) [e0,e1] (by simp) 2 99 c hc (by decide) (by kernel_rfl) (by kernel_rfl) (fun K=>rfl);obtain ⟨e3,n3,o3,q3⟩:=TD (a,b,c,d,e,()) [e0,e1,e2] (by simp) 3 100 d hd (by decide) (by kernel_rfl) (by kernel_rfl) (fun K=>rfl);obtain ⟨e4,n4,o4,q4⟩:=TD (a,b,c,d,e,()) [e0,e1,e2,e3] (by simp) 4 101 e he (by decide) (by kernel_rfl) (by kernel_rfl) (fun K=>rfl);refine ⟨[e0,e1,e2,e3,e4],?_,by simp_all,by simp_all⟩;rw[b1S];refine q0.trans (q1.trans (q2.trans (q3.trans (q4.trans ?_))));rw[aIJ];rfl
def qV (c:UInt8) (k:Nat):List Nm:=(List.range k).map fun i => [c,48+UInt8.ofNat i]
theorem bN4 (k:Nat) (h:k<=3):SS.CC 131 [.int .u8 118,bZV (k:Int)] []=some (bZW (aK (qV 118 k)),[]):=by
 have:k=0\/k=1\/k=2\/k=3:=by omega
 rcases this with rfl | rfl | rfl | rfl<;>exact XN dQ 60 (by kernel_rfl)
theorem bN3 (k:Nat) (h:1<=k/\k<=4):SS.CC 131 [.int .u8 108,bZV (k:Int)] []=some (bZW (aK (qV 108 k)),[]):=by
 have:k=1\/k=2\/k=3\/k=4:=by omega
 rcases this with rfl | rfl | rfl | rfl<;>exact XN dQ 60 (by kernel_rfl)
theorem IW (c:UInt8) (k:Nat):(qV c k).length=k:=by simp[qV]
abbrev LV (r:Int×Int):PV := .agg [.int .i8 r.1,.int .i8 r.2]
structure Jb (i:Nat) (v:Vr):Prop where
 n:v.n = [120,48+UInt8.ofNat i]
 a : -4<=v.lo
 b:v.lo<=v.i
 c:v.i<=v.hi
 d:v.hi<=7
theorem u8w (n:Int):0<=IntKind.u8.wrap n/\IntKind.u8.wrap n<=255:=by rw[IntKind.wrap_u8]; omega
theorem bRB {l:List (Int×Int)} (hl:l.length<=1000) (hr:∀ r,r∈l->I8 r.1/\I8 r.2):∃ vs:List Vr,SS.CC 132 [.sl false 2 (l.map LV)] []=some (.sl false 4 (vs.map jI),[])/\vs.length<=3/\∀ i (h:i<vs.length),Jb i vs[i]:=by
 rw[b8T];refine Exists.elim (EG (n:=min l.length 3) (L:=fun k (vs:List Vr)=>Zb (l.map LV) (vs.map jI) (k:Int)) (E:=fun vs=>some (.sl false 4 (vs.map jI),[]))
  (P:=fun k vs=>vs.length=k/\∀ i (h:i<vs.length),Jb i vs[i]) (fun k vs hk hp => ?_) (fun vs hp => ?_) [] ⟨rfl,fun i h=>by cases h⟩) fun vs hp=>⟨vs,hp.1,by have:=hp.2.1; omega,hp.2.2⟩
 .obtain ⟨hv,hq⟩:=hp;have hkl:k<l.length:=by omega
  have hk3:k=0\/k=1\/k=2:=by omega
  obtain ⟨r1,r2⟩:=hr l[k] (dY hkl);have hg:∀ K:Sh.V Nu->R,aj Nu (l.map LV) (k:Int) K=K (l[k].1,l[k].2,()):=fun K=>xP (f:=LV) (g:=fun r=>(r.1,r.2,())) (fun _ _=>rfl) hkl K
  have hb:sW ([.int .u8 (IntKind.u8.wrap (48+(IntKind.u8.wrap (k:Int))))]:bZZ)=true:=by rcases hk3 with rfl | rfl | rfl<;>rfl
  have hs:(⟨#[120]⟩:bZY) ++ strOf ([.int .u8 (IntKind.u8.wrap (48+(IntKind.u8.wrap (k:Int))))]:bZZ)=bs [120,48+UInt8.ofNat k]:=by rcases hk3 with rfl | rfl | rfl<;>kernel_rfl
  have hs2:decide ((⟨#[120]⟩:bZY).size+(strOf ([.int .u8 (IntKind.u8.wrap (48+(IntKind.u8.wrap (k:Int))))]:bZZ)).size<=aO)=true:=by rcases hk3 with rfl | rfl | rfl<;>kernel_rfl
  generalize l[k].1=p at r1 hg;generalize l[k].2=q at r2 hg;have hp5 : -4<=Int.tmod p 5/\Int.tmod p 5<=4:=by have h1:=N9 p (b:=5) (by decide);have h2:=Int.lt_tmod_of_pos p (b:=5) (by decide);omega
  generalize hP:Int.tmod p 5=P at hp5;obtain ⟨hu0,_⟩:=u8w q;generalize hU:IntKind.u8.wrap q=u at hu0;have hu4:0<=Int.tmod u 4/\Int.tmod u 4<=3:=⟨Qq 4 hu0,by have:=N9 u (b:=4) (by decide); omega⟩;generalize hW:Int.tmod u 4=W at hu4;obtain ⟨ht0,ht1⟩:=u8w (Int.tdiv u 4);generalize hT:IntKind.u8.wrap (Int.tdiv u 4)=T at ht0 ht1;have hm:0<=Int.tmod T (W+1)/\Int.tmod T (W+1)<=W:=⟨Qq _ ht0,by have:=N9 T (b:=W+1) (by omega); omega⟩;generalize hM:Int.tmod T (W+1)=M at hm;refine ⟨vs ++ [⟨[120,48+UInt8.ofNat k],P,P+W,P+M⟩],?_,by simp[hv],fun i h => ?_⟩
  .rw[aKE,aN (by rw[bF]; omega),aI,aN (by omega),aI,hg];try dsimp only
   rw[hg];try dsimp only
   rw[aQ hb,aQ hs2,hg];try dsimp only
   rw[hP,hU,hW,hT,wrap64 (n:=P) (by omega) (by omega),wrap64 (n:=W) (by omega) (by omega),wrap64 (n:=W+1) (by omega) (by omega),wrap64 (n:=P+W) (by omega) (by omega),wrap64 (n:=T) (by omega) (by omega),hM,wrap64 (n:=P+M) (by omega) (by omega),aQ (by simp; omega),aQ (iQ (by rw[bF]; omega)),hs,bU (by omega),qZ];rfl
  .rw[aU,uF] at h;by_cases hi:i<vs.length
   .rw[List.getElem_append_left hi]; exact hq i hi
   .have:i=vs.length:=by omega
    subst this;rw[List.getElem_append_right (fK _)];simp only[Nat.sub_self,List.getElem_cons_zero];exact ⟨by rw[hv],by show -4<=P; omega,by show P<=P+M; omega,by show P+M<=P+W; omega,by show P+W<=7; omega⟩
 .rw[aKE];by_cases h:l.length<=3
  .rw[aW (by rw[bF]; omega),aC]
  .rw[aN (by rw[bF]; omega),aI,aW (by omega),aC]
structure DF (l:List Int) (k:Int):Prop where
 b:∀ i,i<l.length->0<=l.getD i 0/\l.getD i 0<k
 s:∀ i,0<i->i<l.length->l.getD (i-1) 0<l.getD i 0
theorem aNV (k:Int):DF [] k:=⟨fun i h=>(nomatch h),fun i _ h=>(nomatch h)⟩
theorem aNW {l:List Int} {k:Int} (h:DF l k):DF l (k+1):=⟨fun i hi=>by have:=h.b i hi; omega,h.s⟩
theorem bHU {l:List Int} {a:Int} {i:Nat}:(l ++ [a]).getD i 0=if i<l.length then l.getD i 0 else if i=l.length then a else 0:=by grind
theorem aNU {l:List Int} {k:Int} (h:DF l k) (h0:0<=k):DF (l ++ [k]) (k+1):=by
 refine ⟨fun i hi => ?_,fun i h1 hi => ?_⟩<;>simp only[aU,uF] at hi<;>simp only[bHU]
 .split
  .next h2=>have:=h.b i h2; omega
  omega
 .rw[aX (show i-1<l.length by omega)];split
  .next h2=>exact h.s i h1 h2
  .rw[aX (by omega)]; exact (h.b _ (by omega)).2
structure NT (nv k:Int) (x:EX):Prop where
 t:Ty nv k x
 d:gJ x<=6
 s:fU x<=63
structure Xl (nv:Int) (k:Nat) (us:List (Int×EX)):Prop where
 l:us.length<=k
 i:DF (us.map (·.1)) k
 e:∀ u,u∈us->NT nv 1 u.2
structure Nh (nl ne nv:Nat) (x:Mv):Prop where
 f:0<=x.f/\x.f<nl
 e:0<=x.e/\x.e<ne
 t:0<=x.t/\x.t<nl
 g:NT nv 2 x.g
 u:Xl nv nv x.us
structure Mc where
 a:Int
 b:Int
 i:Int
 m:Int
 rg:List (Int×Int)
 mv:List (Int×Int×Int)
 y:bZ'
abbrev J9 (x:Int×Int×Int):Sh.V wz:=(x.1,x.2.1,x.2.2,())
abbrev Ie (x:Int×Int×Int):PV := .agg [.int .u8 x.1,.int .u8 x.2.1,.int .u8 x.2.2]
abbrev yc (c:Mc):Sh.V rJ:=(c.a,c.b,c.i,c.m,c.rg.map LV,c.mv.map Ie,yE c.y,())
abbrev Ig (c:Mc):PV:=AA (yc c)
theorem Uz {l:List (Int×Int×Int)} {k:Nat} (hk:k<l.length) (K:Sh.V wz->R):aj wz (l.map Ie) (k:Int) K=K (J9 l[k]):=xP (fun _ _=>rfl) hk K
theorem a9O {l:List Mc} {k:Nat} (hk:k<l.length) (K:Sh.V rJ->R):aj rJ (l.map Ig) (k:Int) K=K (yc l[k]):=xP (fun _ _=>rfl) hk K
structure a4T (c:Mc):Prop where
 a:U8 c.a
 b:U8 c.b
 i:U8 c.i
 m:U8 c.m
 rg:c.rg.length<=1000/\∀ r,r∈c.rg->I8 r.1/\I8 r.2
 mv:c.mv.length<=1000/\∀ x,x∈c.mv->U8 x.1/\U8 x.2.1/\U8 x.2.2
 y:c.y.length<=10000
theorem cut {n k:Nat} (hn:n<=100000) (hk:k<=100000):(if i64.wrap (k:Int)<(n:Int) then i64.wrap (k:Int) else (n:Int))=((min k n:Nat):Int):=by rw[wrap64 (by omega) (by omega)];split<;>omega
section
variable {x3:Sh.V rJ} {n:bZY} {ls es:List Nm} {vs:List Vr} (hv:vs.length<=3)
include hv
theorem l25 {q:Int×Int×Int} {g3 g4 g5:Int} {g6:bZZ} {y:bZ'} (hy:y.length<=100000) {k:Int} {al mr:bZZ} {ms:bZZ} :
 ∃ us,OZ x3 n (aK ls) (aK es) (vs.map jI) (J9 q) g3 g4 g5 g6 0 [] (yE y) k al mr ms=chk (decide (ms.length+1<=aO)) (Hq x3 n (aK ls) (aK es) (vs.map jI) (i64.wrap (k+1)) (ms ++ ([A9 (Int.tmod (i64.wrap q.1) ((aK ls).length:Int),Int.tmod (i64.wrap q.2.1) ((aK es).length:Int),Int.tmod (i64.wrap q.2.2) ((aK ls).length:Int),g3,g4,g5,g6,us.map pUp,())]:bZZ)) al mr)/\Xl vs.length vs.length us:=by
 refine EG (L:=fun j us=>OZ x3 n (aK ls) (aK es) (vs.map jI) (J9 q) g3 g4 g5 g6 (j:Int) (us.map pUp) (yE y) k al mr ms) (P:=fun j us=>Xl vs.length j us) (fun j us hj hp => ?_) (fun us hp => ?_) [] ⟨fK _,aNV _,fun u h=>(nomatch h)⟩
 .rw[aIO,aN (by rw[bF]; omega),aQ (by rw[wrap64 (by omega) (by omega)]; rfl)];try dsimp only
  generalize (IntKind.u8.wrap _==(1:Int))=bb;cases bb with
  | false =>rw[bU (by omega)];exact ⟨us,rfl,by have:=hp.l; omega,aNW hp.i,hp.e⟩
  | true =>
   obtain ⟨x,e,t,d,s⟩:=aEG (nv:=(vs.length:Int)) ⟨by omega,by omega⟩ (.inl rfl) (y.drop (min (j+1) y.length)) (by rw[xw]; omega);have hl:=hp.l;rw[show (yE y).length=y.length from bF _,show ((j:Int)+1)=((j+1:Nat):Int) by omega,cut hy (by omega),aQ (by simp; omega),pG,<- List.map_drop,show (vs.map jI).length=vs.length from bF _,dN e,aQ (iQ (by rw[bF]; omega)),wrap64 (by omega) (by omega)];refine ⟨us ++ [((j:Int),x)],?_,by rw[aU,uF]; omega,?_,?_⟩;simp
   .rw[qZ];exact aNU hp.i (show (0:Int)<=(j:Int) by omega)
   .intro u hu;rw[vX,xx] at hu;rcases hu with hu | rfl
    .exact hp.e u hu
    .exact ⟨t,d,s⟩
 grind [aIO,aC]
end
theorem a3R {a n:Int} (ha:U8 a) (hn:0<n):0<=Int.tmod (i64.wrap a) n/\Int.tmod (i64.wrap a) n<n:=by have h0:=ha.1;rw[wrap64 (by omega) (by omega)];exact ⟨Qq _ h0,N9 _ hn⟩
theorem bHX (nv:Int):NT nv 2 tE:=⟨.cmp (by decide) (by decide) (.Ez (by decide) (by decide)) (.Ez (by decide) (by decide)),by decide,by decide⟩
theorem l17 {c:Mc} (hc:a4T c) {n:bZY} {ls es:List Nm} {vs:List Vr} (hv:vs.length<=3) (hls:0<ls.length) {al mr:bZZ} :
 ∃ ms:List Mv,Hq (yc c) n (aK ls) (aK es) (vs.map jI) 0 [] al mr=some (A5 (n,aK ls,aK es,al,(ls.length:Int),Int.tmod (i64.wrap c.i) (ls.length:Int),mr,vs.map jI,ms.map qW,()),[])/\ms.length<=4/\∀ x,x∈ms->Nh ls.length es.length vs.length x:=by
 have hy:=hc.y;have hy1:(yE c.y).length=c.y.length:=bF _;have hv1:(vs.map jI).length=vs.length:=bF _;have hm1:(c.mv.map Ie).length=c.mv.length:=bF _;have hN:(if es.length=0 then 0 else min c.mv.length 4)<=4:=by split<;>omega
 refine Exists.elim (EG (L:=fun k (ms:List Mv)=>Hq (yc c) n (aK ls) (aK es) (vs.map jI) (k:Int) (ms.map qW) al mr)
  (P:=fun k ms=>ms.length=k/\∀ x,x∈ms->Nh ls.length es.length vs.length x) (fun k ms hk hp => ?_) (fun ms hp => ?_) [] ⟨rfl,fun x h=>(nomatch h)⟩) fun ms hp=>⟨ms,hp.1,ng (JO hp.2.1) hN,hp.2.2⟩
 .have he:es.length≠0:=fun h=>by rw[aX h] at hk; omega
  rw[aV he] at hk;have uN:k<c.mv.length:=by omega
  have z1:(!((ls.length:Int)==0))=true:=by rw[BA,qc]; omega
  obtain ⟨q1,q2,q3⟩:=hc.mv.2 _ (dY uN);obtain ⟨hp1,hp2⟩:=hp;have w9:i64.wrap (9*(k:Int))=((9*k:Nat):Int):=by rw[wrap64 (by omega) (by omega)]; omega
  have fin:∀ g,NT vs.length 2 g->∃ ms':List Mv,Z8 (yc c) n (aK ls) (aK es) (vs.map jI) (J9 c.mv[k]) (ev g).1 (ev g).2.1 (ev g).2.2.1 (ev g).2.2.2.1 (yE (c.y.drop (min (9*k) c.y.length))) (k:Int) al mr (ms.map qW)=Hq (yc c) n (aK ls) (aK es) (vs.map jI) ((k+1:Nat):Int) (ms'.map qW) al mr/\ms'.length=k+1/\∀ x,x∈ms'->Nh ls.length es.length vs.length x:=fun g hg=>by
   obtain ⟨us,e,hu⟩:=l25 hv (y:=c.y.drop (min (9*k) c.y.length)) (by rw[xw]; omega);rw[b1T,e,aQ (iQ (by rw[bF]; omega)),bU (by omega),iD,iD];refine ⟨ms ++ [⟨Int.tmod (i64.wrap c.mv[k].1) (ls.length:Int),Int.tmod (i64.wrap c.mv[k].2.1) (es.length:Int),Int.tmod (i64.wrap c.mv[k].2.2) (ls.length:Int),g,us⟩],by rw[qZ]; rfl,by rw[aU,hp1]; rfl,fun x hx => ?_⟩
   .rw[vX,xx] at hx;rcases hx with hx | rfl
    simp_all
    .exact ⟨a3R q1 (by omega),a3R q2 (by omega),a3R q3 (by omega),hg,hu⟩
  rw[aIN];unfold nN;try dsimp only
  rw[aN (by omega),aI,Uz uN,show ((k:Int)==4)=false by simp; omega,aC,iD,iD,show ((es.length:Int)==0)=false by grind,aC,dN c116];have hcut:(if ((9*k:Nat):Int)<(c.y.length:Int) then ((9*k:Nat):Int) else (c.y.length:Int))=((min (9*k) c.y.length:Nat):Int):=by split<;>omega
  simp only[z1,Sl,DL,hy1,w9,hcut,pG,<- List.map_drop,hv1,BB];rw[aQ (by simp only[bI,ny]; omega)];by_cases h1:128<=c.mv[k].1
  .obtain ⟨x,e,t,d,s⟩:=aEG (nv:=(vs.length:Int)) ⟨by omega,by omega⟩ (.inr rfl) (c.y.drop (min (9*k) c.y.length)) (by rw[xw]; omega);rw[aN h1,aI,dN e];exact fin x ⟨t,d,s⟩
  .rw[aW h1,aC];exact fin tE (bHX _)
 .rw[aIN];unfold nN;try dsimp only
  rw[iD,iD];by_cases he:es.length=0
  .rw[aX he];by_cases h0:0<c.mv.length
   .rw[aN (by omega),aI,Uz h0,show (((0:Nat):Int)==4)=false from rfl,aC,show ((es.length:Int)==0)=true by rw[he]; rfl,aI]
   .rw[aW (by omega),aC]
  .rw[aV he];by_cases h4:c.mv.length<=4
   .rw[aW (by omega),aC]
   .rw[a4H (by omega),aN (by omega),aI,Uz (by omega),show (((4:Nat):Int)==4)=true from rfl,aI]
abbrev Es (n:Nat):List Int:=(List.range n).map Int.ofNat
structure En (t:Tm):Prop where
 ls:∃ n:Nat,1<=n/\n<=4/\t.ls=qV 108 n
 es:∃ n:Nat,n<=3/\t.es=qV 118 n/\t.al=Es n
 L:t.L=(t.ls.length:Int)
 I:0<=t.I/\t.I<(t.ls.length:Int)
 mr:DF t.mr (t.ls.length:Int)/\t.mr.length<=4
 vs:t.vs.length<=3/\∀ i (h:i<t.vs.length),Jb i t.vs[i]
 ms:t.ms.length<=4/\∀ x,x∈t.ms->Nh t.ls.length t.es.length t.vs.length x
section
variable {c:Mc} {n:bZY} {ls es:List Nm} {o4:bZZ}
theorem Ku (hl:ls.length<=4) {al:bZZ}:∃ mr:List Int,Jz (yc c) n (aK ls) (aK es) o4 0 [] al=Hq (yc c) n (aK ls) (aK es) o4 0 [] al (fA mr)/\mr.length<=ls.length/\DF mr (ls.length:Int):=by
 refine EG (n:=ls.length) (L:=fun k mr=>Jz (yc c) n (aK ls) (aK es) o4 (k:Int) (fA mr) al) (P:=fun k mr=>mr.length<=k/\DF mr (k:Int)) (fun k mr hk hp => ?_) (fun mr hp => ?_) [] ⟨fK _,aNV _⟩
 .obtain ⟨h1,h2⟩:=hp;rw[aIM,aN (by rw[iD]; omega),aI,aQ (by rfl)];generalize (IntKind.u8.wrap _==(1:Int))=bb;cases bb with
  | false =>rw[aC,bU (by omega)];grind [aNW]
  | true =>rw[aI,aQ (iQ (by rw[bF]; omega)),bU (by omega)];refine ⟨mr ++ [(k:Int)],?_,by rw[aU,uF]; omega,aNU h2 (by omega)⟩;rw[show fA (mr ++ [(k:Int)])=fA mr ++ fA [(k:Int)] from qZ]; rfl
 grind [aIM,iD,aC]
theorem l6 (he:es.length<=3):Dp (yc c) n (aK ls) (aK es) o4 0 []=Jz (yc c) n (aK ls) (aK es) o4 0 [] (fA (Es es.length)):=by
 refine oQ (n:=es.length) (L:=fun k=>Dp (yc c) n (aK ls) (aK es) o4 (k:Int) (fA (Es k))) (fun k hk => ?_) ?_
 .rw[aIP,aN (by rw[iD]; omega),aI,aQ (iQ (by rw[bF,bF,List.length_range]; omega)),bU (by omega)];rw[show fA (Es (k+1))=fA (Es k) ++ fA [(k:Int)] by grind [List.range_succ]];rfl
 grind [aIP,iD,aC]
end
theorem tmM {c:Mc} (hc:a4T c) (n:Nm):∃ t:Tm,SS.CC 29 [.str (bs n),AA (yc c)] []=some (A5 (iY t),[])/\t.n=n/\En t:=by
 obtain ⟨a0,a1⟩:=hc.a;obtain ⟨b0,b1⟩:=hc.b;have ha:∃ ne:Nat,ne<=3/\i64.wrap (Int.tmod c.a 4)=(ne:Int):=by have h1:=N9 c.a (b:=4) (by decide);have h2:=Qq 4 a0;rw[wrap64 (by omega) (by omega)];exact ⟨(Int.tmod c.a 4).toNat,by omega,by omega⟩
 have hb:∃ nl:Nat,(1<=nl/\nl<=4)/\i64.wrap (1+i64.wrap (Int.tmod c.b 4))=(nl:Int):=by have h1:=N9 c.b (b:=4) (by decide);have h2:=Qq 4 b0;rw[wrap64 (n:=Int.tmod c.b 4) (by omega) (by omega),wrap64 (by omega) (by omega)];exact ⟨(1+Int.tmod c.b 4).toNat,by omega,by omega⟩
 obtain ⟨ne,n1,n2⟩:=ha;obtain ⟨nl,m1,m2⟩:=hb;obtain ⟨vs,ev,hv,hv2⟩:=bRB hc.rg.1 hc.rg.2;have el:=IW 108 nl;have ee:=IW 118 ne;obtain ⟨mr,em,hm1,hm2⟩:=Ku (c:=c) (n:=bs n) (ls:=qV 108 nl) (es:=qV 118 ne) (o4:=vs.map jI) (by omega) (al:=fA (Es (qV 118 ne).length));obtain ⟨ms,es,h1,h2⟩:=l17 hc (n:=bs n) (ls:=qV 108 nl) (es:=qV 118 ne) hv (by omega) (al:=fA (Es (qV 118 ne).length)) (mr:=fA mr);have z1:(!((nl:Int)==0))=true:=by rw[BA,qc]; omega
 refine ⟨⟨n,qV 108 nl,qV 118 ne,Es (qV 118 ne).length,((qV 108 nl).length:Int),Int.tmod (i64.wrap c.i) ((qV 108 nl).length:Int),mr,vs,ms⟩,?_,rfl,⟨⟨nl,m1.1,m1.2,rfl⟩,⟨ne,n1,rfl,by rw[ee]⟩,rfl,a3R hc.i (by omega),⟨hm2,by grind⟩,⟨hv,hv2⟩,h1,h2⟩⟩;rw[b2C];unfold nN;try dsimp only
 simp only[n2,m2,uJ (bN4 ne n1),uJ (bN3 nl m1),iD,el,z1,Sl,aWD ev,DL];rw[l6 (by omega),em,es,el]
end Go.Proofs.YtilpiopkekkbiaaGreatDoor.W
end
