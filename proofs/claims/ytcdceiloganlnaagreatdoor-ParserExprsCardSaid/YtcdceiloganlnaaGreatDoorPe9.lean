/-
  The statement ParserExprs is proved. No condition but the row's own.
-/
import Derived.Test.YtcdceiloganlnaaGreatDoorPe7
import Derived.Test.YtcdceiloganlnaaGreatDoorPe8
set_option linter.unusedVariables false
set_option linter.unusedSimpArgs false
set_option linter.unnecessarySimpa false
set_option linter.unusedSectionVars false
namespace Go.Proofs.YtcdceiloganlnaaGreatDoor.W
open Go.RowKit
set_option maxRecDepth 1000000
theorem clonec (l : List ByteArray) (hl : l.length ≤ 1000) : SS.CC 101 [.sl false 1 (nmP l)] [] = some (.sl true 1 (nmP l), []) := by
 rw [g101_eq]
 refine nilX_of ?_ fun h => ?_
 ·show bsel false _ _ = _
  rw [bsel_false]
  exact chk_of (decT (by unfold nmP LIM; rw [List.length_map]; omega))
 ·rw [h]; rfl
abbrev MF0 : MF := (⟨#[]⟩, [], [], [], [], [], [])
def exA (x : EX) (a b e : Int) : R := some (.tuple [A1 (ev x), .int .i64 a, .int .i64 b, .int .i64 e], [])
theorem fin_e {A : RA} (h : A.fin.e = 0) : A.e = 0 := by
 unfold RA.fin at h
 split at h
 ·exact h
 ·exact absurd h (fail_e (by decide))
theorem exprs (l : List ByteArray) (hl : l.length ≤ 1000) (s : List UInt8) : ∃ x a b e, SS.CC 21 [.sl false 1 (nmP l), .str (bs s)] [] = exA x a b e ∧ SS.CC 22 [.sl false 1 (nmP l), .str (bs s)] [] = exA x a b e ∧ x.Fit := by
 obtain ⟨A', x, y, e1, e2, o⟩ := (simAll (F := MF0) (l := l) (by omega) (newA s).N).2 0 (by decide) (by decide) (newA s) (newA_ok s) (Nat.le_refl _)
 have h21 : SS.CC 21 [.sl false 1 (nmP l), .str (bs s)] [] = bsel (A'.fin.e != 0) (exA zE (if A'.fin.e = 0 then 0 else A'.fin.line) (if A'.fin.e = 0 then 0 else A'.fin.col) A'.fin.e) (exA x 0 0 0) := by
  rw [g21_eq, H14_of (newc s), G7_of (clonec l hl)]
  try dsimp only
  rw [H15_of e1]
  try dsimp only
  rw [H16_of (finc o.ok)]
  try dsimp only
  rw [H17_of (errc _)]
  rfl
 have h22 : SS.CC 22 [.sl false 1 (nmP l), .str (bs s)] [] = bsel (A'.fin.e != 0) (exA zE (if A'.fin.e = 0 then 0 else A'.fin.line) (if A'.fin.e = 0 then 0 else A'.fin.col) A'.fin.e) (exA y 0 0 0) := by
  rw [g22_eq, H14_of (newc s)]
  try dsimp only
  rw [H18_of e2]
  try dsimp only
  rw [H16_of (finc o.ok)]
  try dsimp only
  rw [H17_of (errc _)]
  rfl
 by_cases he : A'.fin.e = 0
 ·have hx := o.eq (fin_e he)
  subst hx
  exact ⟨x, 0, 0, 0, by rw [h21, bne0 he, bsel_false], by rw [h22, bne0 he, bsel_false], o.fit⟩
 ·exact ⟨zE, _, _, _, by rw [h21, bne1 he, bsel_true], by rw [h22, bne1 he, bsel_true], fit0⟩
theorem eq_loop (all : List EX) (hn : all.length ≤ 1000) (ih : ∀ e, e ∈ all → SS.CC 23 [A1 (ev e), A1 (ev e)] [] = some (.bool true, [])) : ∀ (m k : Nat), k + m = all.length → g106_L5 (evL all) (evL all) (k : Int) = some (.bool true, [])
 | 0, k, h => by
  rw [g106_L5_eq, decF (by rw [evL_map, List.length_map]; omega), bsel_false]
 | m + 1, k, h => by
  have hk : k < all.length := by omega
  have hg : (evL all)[(k : Int).toNat]? = some (A1 (ev all[k])) := by
   rw [evL_map, Int.toNat_natCast, List.getElem?_map, List.getElem?_eq_getElem hk]; rfl
  rw [g106_L5_eq, decT (by rw [evL_map, List.length_map]; omega), bsel_true]
  show lgetX _ _ _ = _
  rw [lgetX_of (by omega) hg]
  show lgetX _ _ _ = _
  rw [lgetX_of (by omega) hg]
  show G3 23 [A1 (ev all[k]), A1 (ev all[k])] _ = _
  rw [G3_of (ih _ (List.getElem_mem hk))]
  rw [Bool.not_true, bsel_false, wrap64 (by omega) (by omega), show ((k : Int) + 1) = ((k + 1 : Nat) : Int) by omega]
  exact eq_loop all hn ih m (k + 1) (by omega)
theorem eqc {x : EX} (h : x.Fit) : SS.CC 23 [A1 (ev x), A1 (ev x)] [] = some (.bool true, []) := by
 induction h with
 | @mk o v i l hl _ ih =>
  rw [g23_eq, ev_n]
  try dsimp only
  rw [beq_self_eq_true, bsel_true, beq_self_eq_true, bsel_true, beq_self_eq_true, bsel_true]
  have : SS.CC 106 [.sl false 4 (evL l), .sl false 4 (evL l), .func (.func 23) [] []] [] = some (.bool true, []) := by
   rw [g106_eq, show (((evL l).length : Int) != ((evL l).length : Int)) = false by simp, bsel_false]
   exact eq_loop l (by omega) ih l.length 0 (by omega)
  rw [G3_of this]
theorem names_x : ∀ k : Nat, k < 4 → ∃ l : List ByteArray, l.length ≤ 1000 ∧ SS.CC 20 [.int .u8 120, .int .i64 (k : Int)] [] = some (.sl false 1 (nmP l), []) := by
 intro k hk
 have h : k = 0 ∨ k = 1 ∨ k = 2 ∨ k = 3 := by omega
 rcases h with rfl | rfl | rfl | rfl
 ·exact ⟨[], by decide, CC_of_sem SS_ok 60 (by kernel_rfl)⟩
 ·exact ⟨[⟨#[120, 48]⟩], by decide, CC_of_sem SS_ok 60 (by kernel_rfl)⟩
 ·exact ⟨[⟨#[120, 48]⟩, ⟨#[120, 49]⟩], by decide, CC_of_sem SS_ok 60 (by kernel_rfl)⟩
 ·exact ⟨[⟨#[120, 48]⟩, ⟨#[120, 49]⟩, ⟨#[120, 50]⟩], by decide, CC_of_sem SS_ok 60 (by kernel_rfl)⟩
theorem known : SS.CC 12 [] [] = some (.bool true, []) := k107
theorem c4 (s : ByteArray) (n : Int) (h0 : 0 ≤ n) (h1 : n ≤ 255) : SS.CC 4 [.str s, .int .u8 n] [] = Ret (.bool true) := by
 rw [g4_eq, G3_of known, Bool.not_true, bsel_false]
 by_cases hs : 500 < (s.size : Int)
 ·rw [decT hs, bsel_true, G3_of known]
 ·rw [decF hs, bsel_false]
  have hm : IntKind.i64.wrap (Int.tmod n 4) = ((n.toNat % 4 : Nat) : Int) := by
   rw [wrap64 (by have := Int.tmod_nonneg (a := n) 4 h0; omega) (by have := Int.tmod_lt_of_pos n (b := 4) (by decide); omega)]
   rw [Int.tmod_eq_emod_of_nonneg h0]; omega
  obtain ⟨l, hl, e1⟩ := names_x (n.toNat % 4) (by omega)
  obtain ⟨x, a, b, e, e2, e3, hf⟩ := exprs l hl s.data.toList
  rw [bs_data] at e2 e3
  rw [hm, G4_of e1, G5_of e2, G5_of e3]
  try dsimp only
  rw [beq_self_eq_true, bsel_true, beq_self_eq_true, bsel_true, beq_self_eq_true, bsel_true, G3_of (eqc hf)]
end Go.Proofs.YtcdceiloganlnaaGreatDoor.W
namespace Go.Proofs.YtcdceiloganlnaaGreatDoor
open Go.ChangeShapes Go.WideShapes Go.ChangeAt Go.RowKit
set_option maxRecDepth 100000 in
theorem exprs_lifted (os : Os) (started : os.Started) (H : Type) (enc : TypeId × Value → H) (F : Stop.Interp) :
 ReturnsInHanded {} Tryz.checked os 4 .any ((OpenSpec.ofChange Rows.parserExprsSpec).preRow enc Tryz.prog Tryz.f4 Rows.parserExprsRow.domain false Rows.parserExprsRow.laid) (((OpenSpec.ofChange Rows.parserExprsSpec).at F).post enc Tryz.prog Tryz.f4 false true false false) := by
 obtain ⟨x, hx⟩ := Option.isSome_iff_exists.1 (show (DataW.whole enc Tryz.prog ((laidWorld6 os).forCall (fun _ _ => 0) ⟨#[], #[.string .empty, .int .u8 0], []⟩).memory Tryz.f4.params.toList Rows.parserExprsSpec.vars false (#[.string .empty, .int .u8 0] : Array Value).toList 8).isSome = true by kernel_rfl)
 refine returnsInHanded_of_row (C := Tryz.checked) (s := OpenSpec.ofChange Rows.parserExprsSpec) own14 started (by kernel_rfl) Tryz.func4
  (witness_row_at (enc := enc) (C := Tryz.checked) false (laidWorld6 os) #[.string .empty, .int .u8 0] rfl (by kernel_rfl) (by kernel_rfl) (by kernel_rfl)
   (OpenSpec.preRow_of_cond 8 hx (by kernel_rfl) (fun k hk => by cases hk) (by kernel_rfl) (laidMet_of_run' 8 (by kernel_rfl) (by kernel_rfl)))) ?_
 intro W base args ds gs before hval0 hW hcnd _ hsz0 hlaid hshp _
 have hval : ∀ (j : Nat) t v, Tryz.f4.params[j]? = some t → args[j]? = some v → Value.okWide Tryz.prog W .any base t v := hval0
 have hsz : (DataW.weightsEach Tryz.prog (Tryz.f4.params.toList ++ Rows.parserExprsSpec.plain.varTypes Tryz.prog) (ds ++ gs)).all (· ≤ reachBytes) = true := hsz0
 have hW' := hW
 obtain ⟨p, q, hA0, hV, rfl, hfz, hnd⟩ := hW
 have hA : DataW.TrodAll enc Tryz.prog W 0 (fun _ => true) true Tryz.f4.params.toList args.toList ds p := hA0
 rw [Tryz.params4] at hA hval hsz
 have hsz1 : ∀ (j : Nat) t d, (Tryz.f4.params.toList)[j]? = some t → ds[j]? = some d → ∀ n, n ∈ d.weights Tryz.prog t → n ≤ reachBytes := fun j t d ht hd n hn => of_decide_eq_true (List.all_eq_true.1 hsz0 _ (DataW.weights_mem_each (j := j) (t := t) (d := d) (by rw [List.getElem?_append_left (List.getElem?_eq_some_iff.1 ht).1]; exact ht) (by rw [List.getElem?_append_left (List.getElem?_eq_some_iff.1 hd).1]; exact hd) n hn))
 rw [Tryz.params4] at hsz1
 clear hsz hsz0
 have gw : GW W := gw_of hlaid.tail.tail hshp
 obtain ⟨v0, vs0, d0, ds0, p0, q0, hargs, rfl, rfl, h0, r0⟩ := trodAll_cons hA
 obtain ⟨v1, vs1, d1, ds1, p1, q1, rfl, rfl, rfl, h1, r1⟩ := trodAll_cons r0
 obtain ⟨rfl, rfl, rfl⟩ := trodAll_nil r1
 obtain rfl : args = #[v0, v1] := by cases args; simp_all
 obtain ⟨rfl, rfl⟩ := trodVars_none hV
 have k0 := h0
 have lt0 : ∀ x ∈ p0, x.block < W.heap.size := by obtain ⟨m, hm⟩ := k0; exact DataW.trod_lt m _ _ _ hm
 obtain ⟨f0, q0, s0, rep0⟩ := open_arg (hW := gw) cover14_ok (by decide) (hval 0 9 v0 rfl rfl) h0 (hsz1 0 9 d0 rfl rfl)
 obtain ⟨e0, he0, x0⟩ := shpe_str s0
 rw [he0] at rep0
 have k1 := h1
 have lt1 : ∀ x ∈ p1, x.block < W.heap.size := by obtain ⟨m, hm⟩ := k1; exact DataW.trod_lt m _ _ _ hm
 obtain ⟨f1, q1, s1, rep1⟩ := open_arg (hW := gw) cover14_ok (by decide) (hval 1 5 v1 rfl rfl) h1 (hsz1 1 5 d1 rfl rfl)
 obtain ⟨e1, he1, x1⟩ := shpe_u8 s1
 rw [he1] at rep1
 clear hA0 hval0
 refine (Ev.top (ev_of (Go.Proofs.YtcdceiloganlnaaGreatDoor.W.c4 e0 (e1.toNat : Int) (by omega) (by have := e1.toNat_lt; omega))) (repsC rep0 (repsC rep1 reps0))).mono fun e W' ⟨vr, M', he, hrep, _, bel⟩ => ?_
 subst he
 obtain rfl := rep_bool.1 hrep
 exact ⟨_, rfl, _, _, _, [], _, [], hW', trodAll_mk1 (shut_bool Tryz.underlying4 _), (trodAll_cons_mk (Below.trod laidOut14 (by kernel_rfl) (of_decide_eq_true (by kernel_rfl)) k0 bel lt0) (trodAll_cons_mk (Below.trod laidOut14 (by kernel_rfl) (of_decide_eq_true (by kernel_rfl)) k1 bel lt1) trodAll_mk0)), rfl, bel.frame _, fun h => by cases h⟩
theorem exprs_in : (Rows.parserExprsRow.inPlace == Tryz.prog.inPlace 4) = true := by kernel_rfl
theorem exprs_un : (Rows.parserExprsRow.unfollowed == Tryz.prog.unfollowed 4) = true := by kernel_rfl
theorem exprs_re : (Rows.parserExprsRow.recurses == Tryz.prog.recurses 4) = true := by kernel_rfl
theorem exprs_va : (Rows.parserExprsRow.named == Tryz.prog.varsNamed 4) = true := by kernel_rfl
theorem exprs_jf : joinedFacts Tryz.prog 4 Tryz.f4 (OpenSpec.ofChange Rows.parserExprsSpec).bare Rows.parserExprsRow = true :=
 joined_parts (by kernel_rfl) exprs_in exprs_un exprs_re exprs_va (by kernel_rfl)
theorem exprs_wr : Tryz.f4.isWrapper Tryz.prog Rows.parserExprsRow.wrapper Rows.parserExprsRow.mainSum := by
 unfold Func.isWrapper
 first | (rw [if_pos (by decide +kernel)]; kernel_rfl) | (rw [if_neg (by decide +kernel)]; exact ⟨rfl, rfl⟩)
theorem exprs_row : Rows.ParserExprsSaid :=
 OpenClaim.holds_of_cond 4 Tryz.f4 rfl rfl rfl rfl rfl rfl rfl ⟨rfl, rfl, rfl, rfl, rfl⟩ rfl rfl rfl rfl rfl (by kernel_rfl) Tryz.func4 exprs_jf
  (of_decide_eq_true (by kernel_rfl)) exprs_wr
  (fun os started H enc _ F => by rw [OpenClaim.pre_eq_preRow]; exact exprs_lifted os started H enc F)
theorem exprs_plain (f : FuncId) (fn : Func) (hf : Tryz.pinned.checked.prog.funcNamed "overseer/overseerlaw17.ParserExprs" = some f) (hfn : Tryz.pinned.checked.prog.funcs[f]? = some fn) :
 false = Tryz.pinned.checked.prog.looks [] ∧ ∀ (j : Nat) t, fn.params[j]? = some t → Tryz.pinned.checked.prog.wantsStandIn t = false := by
 obtain rfl : f = 4 := Option.some.inj ((show Tryz.prog.funcNamed "overseer/overseerlaw17.ParserExprs" = some 4 by kernel_rfl).symm.trans hf) |>.symm
 obtain rfl : fn = Tryz.f4 := (Option.some.inj (Tryz.func4.symm.trans hfn)).symm
 refine ⟨by kernel_rfl, fun j t ht => ?_⟩
 rw [Tryz.params4] at ht
 have hm := Array.mem_of_getElem? ht
 have hall : ∀ t, t ∈ ([9, 5] : List TypeId) → Tryz.prog.wantsStandIn t = false := fun t h => by simpa using List.all_eq_true.1 (show ([9, 5] : List TypeId).all (fun t => !Tryz.prog.wantsStandIn t) = true by kernel_rfl) t h
 exact hall t (by simpa using hm)
theorem exprs_holds : Rows.ParserExprsCardSaid :=
 Claim7.holds_tied_plain_at .later [] _ _ _ _ exprs_row (fun _ h => by cases h) (by kernel_rfl) (fun _ h => by cases h) parserExprs_row_tie rfl ⟨rfl, rfl⟩ (by kernel_rfl) rfl exprs_plain (by kernel_rfl)
end Go.Proofs.YtcdceiloganlnaaGreatDoor
