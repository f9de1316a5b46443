/-
  The statement ParserNests is proved. No condition but the row's own.
-/
import Derived.Test.YtcdceiloganlnaaGreatDoorPn7
import Derived.Test.YtcdceiloganlnaaGreatDoorPn8
import Derived.Test.YtcdceiloganlnaaGreatDoorPn6
set_option linter.unusedVariables false
set_option linter.unusedSimpArgs false
set_option linter.unnecessarySimpa false
set_option linter.unusedSectionVars false
namespace Go.Proofs.YtcdceiloganlnaaGreatDoor.W
open Go.RowKit
set_option maxRecDepth 1000000
theorem clonec (l : List ByteArray) (hl : l.length ≤ 1000) : SS.CC 101 [.sl false 1 (nmP l)] [] = some (.sl true 1 (nmP l), []) := by
 rw [g101_eq]
 refine nilX_of ?_ fun h => ?_
 ·show bsel false _ _ = _
  rw [bsel_false]
  exact chk_of (decT (by unfold nmP LIM; rw [List.length_map]; omega))
 ·rw [h]; rfl
abbrev MF0 : MF := (⟨#[]⟩, [], [], [], [], [], [])
def exA (x : EX) (a b e : Int) : R := some (.tuple [A1 (ev x), .int .i64 a, .int .i64 b, .int .i64 e], [])
theorem fin_e {A : RA} (h : A.fin.e = 0) : A.e = 0 := by
 unfold RA.fin at h
 split at h
 ·exact h
 ·exact absurd h (fail_e (by decide))
theorem exprs (l : List ByteArray) (hl : l.length ≤ 1000) (s : List UInt8) : ∃ x a b e, SS.CC 21 [.sl false 1 (nmP l), .str (bs s)] [] = exA x a b e ∧ SS.CC 22 [.sl false 1 (nmP l), .str (bs s)] [] = exA x a b e ∧ x.Fit := by
 obtain ⟨A', x, y, e1, e2, o⟩ := (simAll (F := MF0) (l := l) (by omega) (newA s).N).2 0 (by decide) (by decide) (newA s) (newA_ok s) (Nat.le_refl _)
 have h21 : SS.CC 21 [.sl false 1 (nmP l), .str (bs s)] [] = bsel (A'.fin.e != 0) (exA zE (if A'.fin.e = 0 then 0 else A'.fin.line) (if A'.fin.e = 0 then 0 else A'.fin.col) A'.fin.e) (exA x 0 0 0) := by
  rw [g21_eq, H14_of (newc s), G7_of (clonec l hl)]
  try dsimp only
  rw [H15_of e1]
  try dsimp only
  rw [H16_of (finc o.ok)]
  try dsimp only
  rw [H17_of (errc _)]
  rfl
 have h22 : SS.CC 22 [.sl false 1 (nmP l), .str (bs s)] [] = bsel (A'.fin.e != 0) (exA zE (if A'.fin.e = 0 then 0 else A'.fin.line) (if A'.fin.e = 0 then 0 else A'.fin.col) A'.fin.e) (exA y 0 0 0) := by
  rw [g22_eq, H14_of (newc s)]
  try dsimp only
  rw [H18_of e2]
  try dsimp only
  rw [H16_of (finc o.ok)]
  try dsimp only
  rw [H17_of (errc _)]
  rfl
 by_cases he : A'.fin.e = 0
 ·have hx := o.eq (fin_e he)
  subst hx
  exact ⟨x, 0, 0, 0, by rw [h21, bne0 he, bsel_false], by rw [h22, bne0 he, bsel_false], o.fit⟩
 ·exact ⟨zE, _, _, _, by rw [h21, bne1 he, bsel_true], by rw [h22, bne1 he, bsel_true], fit0⟩
theorem parse21 {l : List ByteArray} (hl : l.length ≤ 1000) {s : List UInt8} {y : EX} {B : RA} (hB : B.ok) (e1 : SS.CC 102 [.ptr 0 0] [O17 (pc 0 (nmP l)), O16 (newA s).v] = some (A1 (ev y), [O17 (pc 0 (nmP l)), O16 B.v])) :
 SS.CC 21 [.sl false 1 (nmP l), .str (bs s)] [] = bsel (B.fin.e != 0) (exA zE (if B.fin.e = 0 then 0 else B.fin.line) (if B.fin.e = 0 then 0 else B.fin.col) B.fin.e) (exA y 0 0 0) := by
 rw [g21_eq, H14_of (newc s), G7_of (clonec l hl)]
 try dsimp only
 rw [H15_of e1]
 try dsimp only
 rw [H16_of (finc hB)]
 try dsimp only
 rw [H17_of (errc _)]
 rfl
theorem newA_of {s : List UInt8} {T : List Tok} (h : scanT s = .ok T) : newA s = mk0 T := by unfold newA; rw [h]; rfl
theorem eq_loop (all : List EX) (hn : all.length ≤ 1000) (ih : ∀ e, e ∈ all → SS.CC 23 [A1 (ev e), A1 (ev e)] [] = some (.bool true, [])) : ∀ (m k : Nat), k + m = all.length → g106_L5 (evL all) (evL all) (k : Int) = some (.bool true, [])
 | 0, k, h => by
  rw [g106_L5_eq, decF (by rw [evL_map, List.length_map]; omega), bsel_false]
 | m + 1, k, h => by
  have hk : k < all.length := by omega
  have hg : (evL all)[(k : Int).toNat]? = some (A1 (ev all[k])) := by
   rw [evL_map, Int.toNat_natCast, List.getElem?_map, List.getElem?_eq_getElem hk]; rfl
  rw [g106_L5_eq, decT (by rw [evL_map, List.length_map]; omega), bsel_true]
  show lgetX _ _ _ = _
  rw [lgetX_of (by omega) hg]
  show lgetX _ _ _ = _
  rw [lgetX_of (by omega) hg]
  show G3 23 [A1 (ev all[k]), A1 (ev all[k])] _ = _
  rw [G3_of (ih _ (List.getElem_mem hk))]
  rw [Bool.not_true, bsel_false, wrap64 (by omega) (by omega), show ((k : Int) + 1) = ((k + 1 : Nat) : Int) by omega]
  exact eq_loop all hn ih m (k + 1) (by omega)
theorem eqc {x : EX} (h : x.Fit) : SS.CC 23 [A1 (ev x), A1 (ev x)] [] = some (.bool true, []) := by
 induction h with
 | @mk o v i l hl _ ih =>
  rw [g23_eq, ev_n]
  try dsimp only
  rw [beq_self_eq_true, bsel_true, beq_self_eq_true, bsel_true, beq_self_eq_true, bsel_true]
  have : SS.CC 106 [.sl false 4 (evL l), .sl false 4 (evL l), .func (.func 23) [] []] [] = some (.bool true, []) := by
   rw [g106_eq, show (((evL l).length : Int) != ((evL l).length : Int)) = false by simp, bsel_false]
   exact eq_loop l (by omega) ih l.length 0 (by omega)
  rw [G3_of this]
theorem names_x : ∀ k : Nat, k < 4 → ∃ l : List ByteArray, l.length ≤ 1000 ∧ SS.CC 20 [.int .u8 120, .int .i64 (k : Int)] [] = some (.sl false 1 (nmP l), []) := by
 intro k hk
 have h : k = 0 ∨ k = 1 ∨ k = 2 ∨ k = 3 := by omega
 rcases h with rfl | rfl | rfl | rfl
 ·exact ⟨[], by decide, CC_of_sem SS_ok 60 (by kernel_rfl)⟩
 ·exact ⟨[⟨#[120, 48]⟩], by decide, CC_of_sem SS_ok 60 (by kernel_rfl)⟩
 ·exact ⟨[⟨#[120, 48]⟩, ⟨#[120, 49]⟩], by decide, CC_of_sem SS_ok 60 (by kernel_rfl)⟩
 ·exact ⟨[⟨#[120, 48]⟩, ⟨#[120, 49]⟩, ⟨#[120, 50]⟩], by decide, CC_of_sem SS_ok 60 (by kernel_rfl)⟩
theorem known : SS.CC 12 [] [] = some (.bool true, []) := k107
theorem c4 (s : ByteArray) (n : Int) (h0 : 0 ≤ n) (h1 : n ≤ 255) : SS.CC 4 [.str s, .int .u8 n] [] = Ret (.bool true) := by
 rw [g4_eq, G3_of known, Bool.not_true, bsel_false]
 by_cases hs : 500 < (s.size : Int)
 ·rw [decT hs, bsel_true, G3_of known]
 ·rw [decF hs, bsel_false]
  have hm : IntKind.i64.wrap (Int.tmod n 4) = ((n.toNat % 4 : Nat) : Int) := by
   rw [wrap64 (by have := Int.tmod_nonneg (a := n) 4 h0; omega) (by have := Int.tmod_lt_of_pos n (b := 4) (by decide); omega)]
   rw [Int.tmod_eq_emod_of_nonneg h0]; omega
  obtain ⟨l, hl, e1⟩ := names_x (n.toNat % 4) (by omega)
  obtain ⟨x, a, b, e, e2, e3, hf⟩ := exprs l hl s.data.toList
  rw [bs_data] at e2 e3
  rw [hm, G4_of e1, G5_of e2, G5_of e3]
  try dsimp only
  rw [beq_self_eq_true, bsel_true, beq_self_eq_true, bsel_true, beq_self_eq_true, bsel_true, G3_of (eqc hf)]
end Go.Proofs.YtcdceiloganlnaaGreatDoor.W
namespace Go.Proofs.YtcdceiloganlnaaGreatDoor.W
open Go.RowKit
set_option maxRecDepth 1000000
noncomputable section
def g6_K0 : KT := SS.rK Tryz.f6 6 0 []
def g6_J9 (x5 : Int) (x7 : ByteArray) : R := exK (SS.xX 6 90 0) (cS Tryz.f6 127) g6_K0 ⟨[(5, .int .i64 x5), (7, .str x7)], []⟩
theorem g6_J9_eq (x5 : Int) (x7 : ByteArray) : g6_J9 x5 x7 =
 G5 21 [.sl false 1 [.str ⟨#[120, 48]⟩], .str x7] fun u1 => G5 22 [.sl false 1 [.str ⟨#[120, 48]⟩], .str x7] fun u9 => bsel (decide (32 < x5)) (bsel (u1.2.2.2.1.1 == 3) (bsel (u1.2.1.1 == 1) (bsel (u1.2.2.1.1 == 33) (bsel (u9.2.2.2.1.1 == u1.2.2.2.1.1) (bsel (u9.2.1.1 == u1.2.1.1) (some (.bool (u9.2.2.1.1 == u1.2.2.1.1), [])) (some (.bool false, []))) (some (.bool false, []))) (some (.bool false, []))) (some (.bool false, []))) (some (.bool false, []))) (bsel (u1.2.2.2.1.1 == 0) (bsel (u9.2.2.2.1.1 == 0) (G3 23 [A1 u1.1, A1 u9.1] fun b17 => some (.bool b17, [])) (some (.bool false, []))) (some (.bool false, []))) := by kernel_rfl
theorem g6_eq (a0 : Int) (a1 : Int) : SS.CC 6 [.int .u8 a0, .int .u8 a1] [] =
 G3 12 [] fun b1 => bsel (!b1) (some (.bool false, [])) (lgetX [.str ⟨#[40]⟩, .str ⟨#[45]⟩, .str ⟨#[33]⟩] (Int.tmod a1 3) fun e3 => vS e3 fun s4 => G2 30 [.str s4, .int .i64 (IntKind.i64.wrap (Int.tmod a0 41))] fun s5 => chk (decide (s5.size + (⟨#[120, 48]⟩ : ByteArray).size ≤ LIM)) (bsel (s4.toList == (⟨#[40]⟩ : ByteArray).toList) (G2 30 [.str ⟨#[41]⟩, .int .i64 (IntKind.i64.wrap (Int.tmod a0 41))] fun s7 => chk (decide ((s5 ++ (⟨#[120, 48]⟩ : ByteArray)).size + s7.size ≤ LIM)) (g6_J9 (IntKind.i64.wrap (Int.tmod a0 41)) ((s5 ++ (⟨#[120, 48]⟩ : ByteArray)) ++ s7))) (g6_J9 (IntKind.i64.wrap (Int.tmod a0 41)) (s5 ++ (⟨#[120, 48]⟩ : ByteArray))))) := cc
end
end Go.Proofs.YtcdceiloganlnaaGreatDoor.W
namespace Go.Proofs.YtcdceiloganlnaaGreatDoor.W
open Go.RowKit
set_option maxRecDepth 1000000
abbrev x0B : List UInt8 := [120, 48]
abbrev x0L : List ByteArray := [⟨#[120, 48]⟩]
def isX (t : Tok) : Prop := t.kind = 1 ∧ t.text = x0B
theorem unX {x : Tok} {R : List Tok} {d : Int} (h : ToksOK (x :: R)) (hx : isX x) : SS.CC 254 [.ptr 0 0] [O17 (pc d (nmP x0L)), O16 (mk0 (x :: R)).v] = some (A1 (ev (vE 0)), [O17 (pc d (nmP x0L)), O16 (mk0 R).v]) := by
 have ht : (mk0 (x :: R)).pk.text = x0B := hx.2
 have hi : idxB (bs (mk0 (x :: R)).pk.text) x0L 0 = 0 := by rw [ht]; rfl
 have := unVar (d := d) (l := x0L) (by decide) (mk0_ok h) hx.1 (by rw [ht]; decide) (by rw [ht]; decide) (by rw [hi]; decide)
 rw [hi, mk0_next (by rw [hx.1]; decide)] at this
 exact this
def isE (t : Tok) : Prop := isT [41] t ∨ t.kind = 4
theorem E_quiet {t : Tok} {T : List Tok} (ht : isE t) : (mk0 (t :: T)).quiet ∧ (mk0 (t :: T)).is [63] = false := by
 rcases ht with ht | ht
 ·refine ⟨quiet_t (show (opT t.text).1 = 0 by rw [ht.2]; rfl), ?_⟩
  show ((t.kind == 1 || t.kind == 3) && t.text == [63]) = false
  rw [ht.2]; simp
 ·exact ⟨quiet_k (show t.kind ≠ 3 by omega), is_k4 (show (mk0 (t :: T)).pk.kind = 4 from ht) _⟩
theorem paren : ∀ (L : List Tok) (x : Tok) (R : List Tok) (d : Int), 0 ≤ d → d + L.length ≤ 32 → (∀ t, t ∈ L → isT [40] t) → isX x → (∀ t, t ∈ R → isE t) →
 (∀ i, i < L.length → ∃ t, R[i]? = some t ∧ isT [41] t) → L.length < R.length → ToksOK (L ++ x :: R) →
 SS.CC 102 [.ptr 0 0] [O17 (pc d (nmP x0L)), O16 (mk0 (L ++ x :: R)).v] = some (A1 (ev (vE 0)), [O17 (pc d (nmP x0L)), O16 (mk0 (R.drop L.length)).v]) ∧ ToksOK (R.drop L.length)
 | [], x, R, d, h0, h1, hL, hx, hR, hC, hl, hT => by
  have hT : ToksOK (x :: R) := hT
  have hR' := toks_tl hT (by rw [hx.1]; decide)
  match R, hR', hR, hl with
  | t :: R, hR', hR, _ =>
   obtain ⟨q1, q2⟩ := E_quiet (T := R) (hR t (by simp))
   exact ⟨ex_pass (mk0_ok hR') q1 q2 (unX hT hx), hR'⟩
 | o :: L, x, R, d, h0, h1, hL, hx, hR, hC, hl, hT => by
  have ho := hL o (by simp)
  have hT : ToksOK (o :: (L ++ x :: R)) := hT
  have hT2 := toks_tl hT (by rw [ho.1]; decide)
  have hl1 : (o :: L).length = L.length + 1 := rfl
  rw [hl1] at h1 hl
  obtain ⟨e1, e2⟩ := paren L x R (d + 1) (by omega) (by omega) (fun t ht => hL t (by simp [ht])) hx hR (fun i hi => hC i (by rw [hl1]; omega)) (by omega) hT2
  obtain ⟨c, hc, hcT⟩ := hC L.length (by rw [hl1]; omega)
  obtain ⟨hlt, hce⟩ := List.getElem?_eq_some_iff.1 hc
  have hd : R.drop L.length = c :: R.drop (L.length + 1) := by rw [List.drop_eq_getElem_cons hlt, hce]
  rw [hd] at e1 e2
  have e3 := toks_tl e2 (by rw [hcT.1]; decide)
  have hexp : (mk0 (c :: R.drop (L.length + 1))).exp [41] = mk0 (R.drop (L.length + 1)) := by
   unfold RA.exp
   rw [isT_is (by decide) e2 hcT, cond_true, isT_next hcT]
  have hun := un40 (A := mk0 (o :: (L ++ x :: R))) (mk0_ok hT) (isT_is (by decide) hT ho) h0 (by omega) (mk0_ok e2) (by rw [isT_next ho]; exact e1)
  rw [hexp] at hun
  rw [hl1]
  have hne : R.drop (L.length + 1) ≠ [] := by
   intro c; rw [c] at e3; exact e3
  match hr : R.drop (L.length + 1), hne with
  | t :: R', _ =>
   rw [hr] at hun e3
   obtain ⟨q1, q2⟩ := E_quiet (T := R') (hR t (List.mem_of_mem_drop (by rw [hr]; simp)))
   exact ⟨ex_pass (mk0_ok e3) q1 q2 hun, e3⟩
theorem bad_pass {A B : RA} {x : EX} {d : Int} {v : List PV} (hb : B.e ≠ 0) (hU : SS.CC 254 [.ptr 0 0] [O17 (pc d v), O16 A.v] = some (A1 (ev x), [O17 (pc d v), O16 B.v])) : SS.CC 102 [.ptr 0 0] [O17 (pc d v), O16 A.v] = some (A1 (ev x), [O17 (pc d v), O16 B.v]) :=
 ex_pass (ok_e hb) (quiet_k (by rw [pk4 hb]; decide)) (is_bad hb _) hU
theorem limP : ∀ (n : Nat) (d : Int) (L T : List Tok), d = 32 - (n : Int) → 0 ≤ d → n < L.length → (∀ t, t ∈ L → isT [40] t) → ToksOK (L ++ T) →
 ∃ y B, SS.CC 102 [.ptr 0 0] [O17 (pc d (nmP x0L)), O16 (mk0 (L ++ T)).v] = some (A1 (ev y), [O17 (pc d (nmP x0L)), O16 (RA.v B)]) ∧ B.e = 3 ∧ ∃ t, L[n]? = some t ∧ B.line = t.line ∧ B.col = t.col
 | _, _, [], _, _, _, h, _, _ => absurd h (Nat.not_lt_zero _)
 | 0, d, o :: L, T, hd, h0, hn, hL, hT => by
  have ho := hL o (by simp)
  have hd : d = 32 := by omega
  subst hd
  have hT : ToksOK (o :: (L ++ T)) := hT
  exact ⟨zE, _, bad_pass (fail_e (by decide)) (un40L (mk0_ok hT) (isT_is (by decide) hT ho)), rfl, o, rfl, rfl, rfl⟩
 | n + 1, d, o :: L, T, hd, h0, hn, hL, hT => by
  have ho := hL o (by simp)
  have hT : ToksOK (o :: (L ++ T)) := hT
  have hT2 := toks_tl hT (by rw [ho.1]; decide)
  obtain ⟨y, B, e1, e2, t, e3⟩ := limP n (d + 1) L T (by omega) (by omega) (by simpa using hn) (fun t ht => hL t (by simp [ht])) hT2
  have hb : B.e ≠ 0 := by omega
  have hun := un40 (A := mk0 (o :: (L ++ T))) (B := B) (mk0_ok hT) (isT_is (by decide) hT ho) h0 (by omega) (ok_e hb) (by rw [isT_next ho]; exact e1)
  have hexp : B.exp [41] = B := by unfold RA.exp; rw [is_bad hb, cond_false, fail_bad hb]
  rw [hexp] at hun
  exact ⟨y, B, bad_pass hb hun, e2, t, e3⟩
theorem signs (s : List UInt8) (hs : s = [33] ∨ s = [45]) : ∀ (L : List Tok) (x : Tok) (R : List Tok) (d : Int), 0 ≤ d → d + L.length ≤ 32 → (∀ t, t ∈ L → isT s t) → isX x → ToksOK (L ++ x :: R) →
 ∃ y, SS.CC 254 [.ptr 0 0] [O17 (pc d (nmP x0L)), O16 (mk0 (L ++ x :: R)).v] = some (A1 (ev y), [O17 (pc d (nmP x0L)), O16 (mk0 R).v])
 | [], x, R, d, h0, h1, hL, hx, hT => ⟨_, unX hT hx⟩
 | o :: L, x, R, d, h0, h1, hL, hx, hT => by
  have ho := hL o (by simp)
  have hT : ToksOK (o :: (L ++ x :: R)) := hT
  have hT2 := toks_tl hT (by rw [ho.1]; decide)
  have hl1 : (o :: L).length = L.length + 1 := rfl
  rw [hl1] at h1
  obtain ⟨y, e1⟩ := signs s hs L x R (d + 1) (by omega) (by omega) (fun t ht => hL t (by simp [ht])) hx hT2
  rcases hs with rfl | rfl
  ·exact ⟨_, un33 (A := mk0 (o :: (L ++ x :: R))) (mk0_ok hT) (isT_is (by decide) hT ho) h0 (by omega) (by rw [isT_next ho]; exact e1)⟩
  ·refine ⟨_, un45 (A := mk0 (o :: (L ++ x :: R))) (mk0_ok hT) (isT_is (by decide) hT ho) h0 (by omega) ?_ (by rw [isT_next ho]; exact e1)⟩
   rw [isT_next ho]
   match L, hL with
   | [], _ => show x.kind ≠ 2; rw [hx.1]; decide
   | o2 :: L, hL => show o2.kind ≠ 2; rw [(hL o2 (by simp)).1]; decide
theorem limS (s : List UInt8) (hs : s = [33] ∨ s = [45]) : ∀ (n : Nat) (d : Int) (L : List Tok) (x : Tok) (T : List Tok), d = 32 - (n : Int) → 0 ≤ d → n < L.length → (∀ t, t ∈ L → isT s t) → isX x → ToksOK (L ++ x :: T) →
 ∃ y B, SS.CC 254 [.ptr 0 0] [O17 (pc d (nmP x0L)), O16 (mk0 (L ++ x :: T)).v] = some (A1 (ev y), [O17 (pc d (nmP x0L)), O16 (RA.v B)]) ∧ B.e = 3 ∧ ∃ t, L[n]? = some t ∧ B.line = t.line ∧ B.col = t.col
 | _, _, [], _, _, _, _, h, _, _, _ => absurd h (Nat.not_lt_zero _)
 | 0, d, o :: L, x, T, hd, h0, hn, hL, hx, hT => by
  have ho := hL o (by simp)
  have hd : d = 32 := by omega
  subst hd
  have hT : ToksOK (o :: (L ++ x :: T)) := hT
  rcases hs with rfl | rfl
  ·exact ⟨zE, _, un33L (mk0_ok hT) (isT_is (by decide) hT ho), rfl, o, rfl, rfl, rfl⟩
  ·exact ⟨zE, _, un45L (mk0_ok hT) (isT_is (by decide) hT ho), rfl, o, rfl, rfl, rfl⟩
 | n + 1, d, o :: L, x, T, hd, h0, hn, hL, hx, hT => by
  have ho := hL o (by simp)
  have hT : ToksOK (o :: (L ++ x :: T)) := hT
  have hT2 := toks_tl hT (by rw [ho.1]; decide)
  obtain ⟨y, B, e1, e2, t, e3⟩ := limS s hs n (d + 1) L x T (by omega) (by omega) (by simpa using hn) (fun t ht => hL t (by simp [ht])) hx hT2
  rcases hs with rfl | rfl
  ·exact ⟨_, B, un33 (A := mk0 (o :: (L ++ x :: T))) (mk0_ok hT) (isT_is (by decide) hT ho) h0 (by omega) (by rw [isT_next ho]; exact e1), e2, t, e3⟩
  ·refine ⟨_, B, un45 (A := mk0 (o :: (L ++ x :: T))) (mk0_ok hT) (isT_is (by decide) hT ho) h0 (by omega) ?_ (by rw [isT_next ho]; exact e1), e2, t, e3⟩
   rw [isT_next ho]
   match L, hL with
   | [], _ => show x.kind ≠ 2; rw [hx.1]; decide
   | o2 :: L, hL => show o2.kind ≠ 2; rw [(hL o2 (by simp)).1]; decide
def nsrc (k : Nat) (op : UInt8) (cl : Bool) : List UInt8 := Lib.repeatL [op] k ++ x0B ++ bif cl then Lib.repeatL [41] k else []
def symB (s : List UInt8) (t : Tok) : Bool := t.kind == 3 && t.text == s
def nestOK (k : Nat) (op : UInt8) (cl : Bool) : Bool := match scanT (nsrc k op cl) with
 | .err _ _ _ => false
 | .ok ts => (ts.take k).all (symB [op]) && Nat.beq (ts.take k).length k && (match ts.drop k with
  | [] => false
  | x :: R => x.kind == 1 && (x.text == x0B && (R.all (fun t => symB [41] t || t.kind == 4) && (Nat.blt (bif cl then k else 0) R.length && ((R.take (bif cl then k else 0)).all (symB [41]) && (match R.drop (bif cl then k else 0) with | [t] => t.kind == 4 | _ => false)))))) &&
  (match ts[32]? with | some t => Nat.ble k 32 || (t.line == 1 && t.col == 33) | none => Nat.ble k 32)
theorem nest_all : ((List.range 41).all fun k => nestOK k 40 true && (nestOK k 45 false && nestOK k 33 false)) = true := by kernel_rfl
theorem symB_is {s : List UInt8} {t : Tok} (h : symB s t = true) : isT s t := by
 unfold symB at h
 rw [Bool.and_eq_true] at h
 exact ⟨by simpa using h.1, by simpa using h.2⟩
theorem nest_of {k : Nat} {op : UInt8} {cl : Bool} (h : nestOK k op cl = true) : ∃ L x R t, scanT (nsrc k op cl) = .ok (L ++ x :: R) ∧ L.length = k ∧ (∀ t, t ∈ L → isT [op] t) ∧ isX x ∧ (∀ t, t ∈ R → isE t) ∧
 (∀ i, i < (bif cl then k else 0) → ∃ t, R[i]? = some t ∧ isT [41] t) ∧ (bif cl then k else 0) < R.length ∧ R.drop (bif cl then k else 0) = [t] ∧ t.kind = 4 ∧ (32 < k → ∃ t, L[32]? = some t ∧ t.line = 1 ∧ t.col = 33) := by
 unfold nestOK at h
 split at h
 ·cases h
 ·rename_i ts hs
  simp only [Bool.and_eq_true, List.all_eq_true] at h
  obtain ⟨⟨⟨h1, h2⟩, h3⟩, h4⟩ := h
  split at h3
  ·cases h3
  ·rename_i x R hd
   simp only [Bool.and_eq_true, List.all_eq_true, Bool.or_eq_true] at h3
   obtain ⟨h5, h6, h7, h8, h9, h10⟩ := h3
   split at h10
   ·rename_i t ht
    have e : ts = ts.take k ++ x :: R := by rw [← hd, List.take_append_drop]
    have hk : (ts.take k).length = k := Nat.eq_of_beq_eq_true h2
    refine ⟨ts.take k, x, R, t, by rw [hs, ← e], hk, fun t ht => symB_is (h1 t ht), ⟨by simpa using h5, by simpa using h6⟩, fun t ht => ?_, fun i hi => ?_, by simpa [Nat.blt_eq] using h8, ht, by simpa using h10, fun hk2 => ?_⟩
    ·rcases h7 t ht with c | c
     ·exact .inl (symB_is c)
     ·exact .inr (by simpa using c)
    ·have hb : (bif cl then k else 0) < R.length := by simpa [Nat.blt_eq] using h8
     have hl : i < R.length := by omega
     refine ⟨R[i], List.getElem?_eq_getElem hl, symB_is (h9 _ ?_)⟩
     exact List.mem_take_iff_getElem.2 ⟨i, by omega, rfl⟩
    ·have hg : (ts.take k)[32]? = ts[32]? := by rw [List.getElem?_take_of_lt hk2]
     rw [hg]
     split at h4
     ·rename_i t2 ht2
      simp only [Bool.or_eq_true, Nat.ble_eq, Bool.and_eq_true, beq_iff_eq] at h4
      rcases h4 with c | c
      ·omega
      ·exact ⟨t2, ht2, c.1, c.2⟩
     ·rw [Nat.ble_eq] at h4; omega
   ·cases h10
theorem nest_ok {k : Nat} {op : UInt8} {cl : Bool} (hc : op = 40 ∧ cl = true ∨ (op = 45 ∨ op = 33) ∧ cl = false) (h : nestOK k op cl = true) :
 ∃ y a b e, SS.CC 21 [.sl false 1 (nmP x0L), .str (bs (nsrc k op cl))] [] = exA y a b e ∧ (k ≤ 32 → e = 0) ∧ (32 < k → a = 1 ∧ b = 33 ∧ e = 3) := by
 obtain ⟨L, x, R, t, hs, hL, h1, h2, h3, h4, h5, h6, h7, h8⟩ := nest_of h
 have hN := newA_of hs
 have hT : ToksOK (L ++ x :: R) := scanT_ok hs
 have good : ∀ {y : EX}, SS.CC 102 [.ptr 0 0] [O17 (pc 0 (nmP x0L)), O16 (mk0 (L ++ x :: R)).v] = some (A1 (ev y), [O17 (pc 0 (nmP x0L)), O16 (mk0 [t]).v]) → SS.CC 21 [.sl false 1 (nmP x0L), .str (bs (nsrc k op cl))] [] = exA y 0 0 0 := fun {y} e1 => by
  have hf : (mk0 [t]).fin = mk0 [t] := by unfold RA.fin; rw [if_pos (show (mk0 [t]).pk.kind = 4 from h7)]
  rw [parse21 (by decide) (B := mk0 [t]) (mk0_ok (.inl ⟨h7, rfl⟩)) (by rw [hN]; exact e1), hf]
  rfl
 have bad : ∀ {y : EX} {B : RA}, SS.CC 102 [.ptr 0 0] [O17 (pc 0 (nmP x0L)), O16 (mk0 (L ++ x :: R)).v] = some (A1 (ev y), [O17 (pc 0 (nmP x0L)), O16 B.v]) → B.e = 3 → B.line = 1 → B.col = 33 → SS.CC 21 [.sl false 1 (nmP x0L), .str (bs (nsrc k op cl))] [] = exA zE 1 33 3 := fun {y B} e1 k1 k2 k3 => by
  have hb : B.e ≠ 0 := by omega
  have hf : B.fin = B := by unfold RA.fin; rw [if_pos (pk4 hb)]
  rw [parse21 (by decide) (ok_e hb) (by rw [hN]; exact e1), hf, bne1 hb, bsel_true, if_neg hb, if_neg hb, k1, k2, k3]
 by_cases hk : k ≤ 32
 ·have : ∃ y, SS.CC 21 [.sl false 1 (nmP x0L), .str (bs (nsrc k op cl))] [] = exA y 0 0 0 := by
   rcases hc with ⟨rfl, rfl⟩ | ⟨ho, rfl⟩
   ·rw [cond_true] at h4 h5 h6
    obtain ⟨e1, _⟩ := paren L x R 0 (by decide) (by omega) h1 h2 h3 (by rw [hL]; exact h4) (by omega) hT
    rw [hL, h6] at e1
    exact ⟨_, good e1⟩
   ·rw [cond_false] at h6
    have h6 : R = [t] := h6
    subst h6
    obtain ⟨y, e1⟩ := signs [op] (by rcases ho with rfl | rfl <;> simp) L x [t] 0 (by decide) (by omega) h1 h2 hT
    exact ⟨_, good (ex_pass (mk0_ok (.inl ⟨h7, rfl⟩)) (E_quiet (.inr h7)).1 (E_quiet (.inr h7)).2 e1)⟩
  obtain ⟨y, hy⟩ := this
  exact ⟨y, 0, 0, 0, hy, fun _ => rfl, fun c => by omega⟩
 ·obtain ⟨u, u1, u2, u3⟩ := h8 (by omega)
  refine ⟨zE, 1, 33, 3, ?_, fun c => absurd c hk, fun _ => ⟨rfl, rfl, rfl⟩⟩
  rcases hc with ⟨rfl, rfl⟩ | ⟨ho, rfl⟩
  ·obtain ⟨y, B, e1, e2, w, e3, e4, e5⟩ := limP 32 0 L (x :: R) (by decide) (by decide) (by omega) h1 hT
   rw [u1] at e3; cases e3
   exact bad e1 e2 (e4.trans u2) (e5.trans u3)
  ·obtain ⟨y, B, e1, e2, w, e3, e4, e5⟩ := limS [op] (by rcases ho with rfl | rfl <;> simp) 32 0 L x R (by decide) (by decide) (by omega) h1 h2 hT
   rw [u1] at e3; cases e3
   exact bad (bad_pass (by omega) e1) e2 (e4.trans u2) (e5.trans u3)
theorem repc (b : UInt8) (k : Nat) (hk : k ≤ 40) : SS.CC 30 [.str ⟨#[b]⟩, .int .i64 (k : Int)] [] = some (.str (bs (Lib.repeatL [b] k)), []) := by
 refine CC_c0 ?_
 show (match decide (0 ≤ (k : Int)) && (Nat.ble (k : Int).toNat 9223372036854775807 && Nat.ble ((⟨#[b]⟩ : ByteArray).size * (k : Int).toNat) 140737488355328) with
  | true => some (PV.str ⟨(Lib.repeatL [b] (k : Int).toNat).toArray⟩, ([] : Objs))
  | false => none) = _
 rw [decT (by omega), Int.toNat_natCast, show (⟨#[b]⟩ : ByteArray).size = 1 from rfl, show Nat.ble k 9223372036854775807 = true from Nat.ble_eq_true_of_le (by omega), show Nat.ble (1 * k) 140737488355328 = true from Nat.ble_eq_true_of_le (by omega)]
 rfl
theorem bs_append (a b : List UInt8) : bs a ++ bs b = bs (a ++ b) := by
 apply ByteArray.ext
 rw [ByteArray.data_append]
 simp [bs]
theorem j9 {k : Nat} {op : UInt8} {cl : Bool} (hk : k ≤ 40) (hc : op = 40 ∧ cl = true ∨ (op = 45 ∨ op = 33) ∧ cl = false) (h : nestOK k op cl = true) : g6_J9 (k : Int) (bs (nsrc k op cl)) = Ret (.bool true) := by
 obtain ⟨y, a, b, e, e1, e2, e3⟩ := nest_ok hc h
 obtain ⟨x, a', b', e', f1, f2, f3⟩ := exprs x0L (by decide) (nsrc k op cl)
 have he : exA y a b e = exA x a' b' e' := e1.symm.trans f1
 have inj : a = a' ∧ b = b' ∧ e = e' := by
  unfold exA at he
  injection he with he
  injection he with he _
  injection he with he
  injection he with _ he
  injection he with h1 he
  injection he with h2 he
  injection he with h3 _
  injection h1 with _ h1
  injection h2 with _ h2
  injection h3 with _ h3
  exact ⟨h1, h2, h3⟩
 obtain ⟨rfl, rfl, rfl⟩ := inj
 have hx : SS.CC 21 [.sl false 1 [.str ⟨#[120, 48]⟩], .str (bs (nsrc k op cl))] [] = exA x a b e := f1
 have hw : SS.CC 22 [.sl false 1 [.str ⟨#[120, 48]⟩], .str (bs (nsrc k op cl))] [] = exA x a b e := f2
 rw [g6_J9_eq, G5_of hx, G5_of hw]
 try dsimp only
 by_cases h32 : 32 < k
 ·obtain ⟨r1, r2, r3⟩ := e3 h32
  subst r1 r2 r3
  rw [decT (by omega)]
  rfl
 ·have := e2 (by omega)
  subst this
  rw [decF (by omega), G3_of (eqc f3)]
  rfl
theorem c6 (n kd : Int) (h0 : 0 ≤ n) (h1 : n ≤ 255) (h2 : 0 ≤ kd) (h3 : kd ≤ 255) : SS.CC 6 [.int .u8 n, .int .u8 kd] [] = Ret (.bool true) := by
 rw [g6_eq, G3_of known, Bool.not_true, bsel_false]
 have hm : IntKind.i64.wrap (Int.tmod n 41) = ((n.toNat % 41 : Nat) : Int) := by
  rw [Int.tmod_eq_emod_of_nonneg h0, wrap64 (by omega) (by omega)]; omega
 have hkd : Int.tmod kd 3 = ((kd.toNat % 3 : Nat) : Int) := by rw [Int.tmod_eq_emod_of_nonneg h2]; omega
 rw [hm, hkd]
 have hk : n.toNat % 41 ≤ 40 := by omega
 generalize n.toNat % 41 = k at hk
 have hall := List.all_eq_true.1 nest_all k (List.mem_range.2 (by omega))
 simp only [Bool.and_eq_true] at hall
 obtain ⟨a1, a2, a3⟩ := hall
 have hq : kd.toNat % 3 = 0 ∨ kd.toNat % 3 = 1 ∨ kd.toNat % 3 = 2 := by omega
 have sz : ∀ l : List UInt8, l.length ≤ 1000 → ((bs l).size ≤ LIM) := fun l hl => by rw [bs_size]; unfold LIM; omega
 have e0 : (⟨#[120, 48]⟩ : ByteArray) = bs x0B := rfl
 have hr : ∀ b : UInt8, (Lib.repeatL [b] k).length = k := fun b => by rw [Lib.repeatL_length]; simp
 rcases hq with hq | hq | hq <;> rw [hq]
 ·rw [lgetX_of (e := .str ⟨#[40]⟩) (by decide) rfl, vS_mk, G2_of (repc 40 k hk), chk_of (decT (by rw [e0, bs_size, bs_size, hr]; unfold LIM; simp; omega))]
  rw [show ((⟨#[40]⟩ : ByteArray).toList == (⟨#[40]⟩ : ByteArray).toList) = true from beq_self_eq_true _, bsel_true, G2_of (repc 41 k hk), e0, bs_append, chk_of (decT (by rw [bs_size, bs_size, List.length_append, hr, hr]; unfold LIM; simp; omega)), bs_append]
  exact j9 hk (.inl ⟨rfl, rfl⟩) a1
 ·rw [lgetX_of (e := .str ⟨#[45]⟩) (by decide) rfl, vS_mk, G2_of (repc 45 k hk), chk_of (decT (by rw [e0, bs_size, bs_size, hr]; unfold LIM; simp; omega))]
  rw [show ((⟨#[45]⟩ : ByteArray).toList == (⟨#[40]⟩ : ByteArray).toList) = false by rw [ByteArray.toList_eq, ByteArray.toList_eq]; rfl, bsel_false, e0, bs_append]
  have := j9 hk (.inr ⟨.inl rfl, rfl⟩) a2
  unfold nsrc at this
  rw [cond_false, List.append_nil] at this
  exact this
 ·rw [lgetX_of (e := .str ⟨#[33]⟩) (by decide) rfl, vS_mk, G2_of (repc 33 k hk), chk_of (decT (by rw [e0, bs_size, bs_size, hr]; unfold LIM; simp; omega))]
  rw [show ((⟨#[33]⟩ : ByteArray).toList == (⟨#[40]⟩ : ByteArray).toList) = false by rw [ByteArray.toList_eq, ByteArray.toList_eq]; rfl, bsel_false, e0, bs_append]
  have := j9 hk (.inr ⟨.inr rfl, rfl⟩) a3
  unfold nsrc at this
  rw [cond_false, List.append_nil] at this
  exact this
end Go.Proofs.YtcdceiloganlnaaGreatDoor.W
namespace Go.Proofs.YtcdceiloganlnaaGreatDoor
open Go.ChangeShapes Go.WideShapes Go.ChangeAt Go.RowKit
set_option maxRecDepth 100000 in
theorem nests_lifted (os : Os) (started : os.Started) (H : Type) (enc : TypeId × Value → H) (F : Stop.Interp) :
 ReturnsInHanded {} Tryz.checked os 6 .any ((OpenSpec.ofChange Rows.parserNestsSpec).preRow enc Tryz.prog Tryz.f6 Rows.parserNestsRow.domain false Rows.parserNestsRow.laid) (((OpenSpec.ofChange Rows.parserNestsSpec).at F).post enc Tryz.prog Tryz.f6 false true false false) := by
 obtain ⟨x, hx⟩ := Option.isSome_iff_exists.1 (show (DataW.whole enc Tryz.prog ((laidWorld6 os).forCall (fun _ _ => 0) ⟨#[], #[.int .u8 0, .int .u8 0], []⟩).memory Tryz.f6.params.toList Rows.parserNestsSpec.vars false (#[.int .u8 0, .int .u8 0] : Array Value).toList 8).isSome = true by kernel_rfl)
 refine returnsInHanded_of_row (C := Tryz.checked) (s := OpenSpec.ofChange Rows.parserNestsSpec) own14 started (by kernel_rfl) Tryz.func6
  (witness_row_at (enc := enc) (C := Tryz.checked) false (laidWorld6 os) #[.int .u8 0, .int .u8 0] rfl (by kernel_rfl) (by kernel_rfl) (by kernel_rfl)
   (OpenSpec.preRow_of_cond 8 hx (by kernel_rfl) (fun k hk => by cases hk) (by kernel_rfl) (laidMet_of_run' 8 (by kernel_rfl) (by kernel_rfl)))) ?_
 intro W base args ds gs before hval0 hW hcnd _ hsz0 hlaid hshp _
 have hval : ∀ (j : Nat) t v, Tryz.f6.params[j]? = some t → args[j]? = some v → Value.okWide Tryz.prog W .any base t v := hval0
 have hsz : (DataW.weightsEach Tryz.prog (Tryz.f6.params.toList ++ Rows.parserNestsSpec.plain.varTypes Tryz.prog) (ds ++ gs)).all (· ≤ reachBytes) = true := hsz0
 have hW' := hW
 obtain ⟨p, q, hA0, hV, rfl, hfz, hnd⟩ := hW
 have hA : DataW.TrodAll enc Tryz.prog W 0 (fun _ => true) true Tryz.f6.params.toList args.toList ds p := hA0
 rw [Tryz.params6] at hA hval hsz
 have hsz1 : ∀ (j : Nat) t d, (Tryz.f6.params.toList)[j]? = some t → ds[j]? = some d → ∀ n, n ∈ d.weights Tryz.prog t → n ≤ reachBytes := fun j t d ht hd n hn => of_decide_eq_true (List.all_eq_true.1 hsz0 _ (DataW.weights_mem_each (j := j) (t := t) (d := d) (by rw [List.getElem?_append_left (List.getElem?_eq_some_iff.1 ht).1]; exact ht) (by rw [List.getElem?_append_left (List.getElem?_eq_some_iff.1 hd).1]; exact hd) n hn))
 rw [Tryz.params6] at hsz1
 clear hsz hsz0
 have gw : GW W := gw_of hlaid.tail.tail hshp
 obtain ⟨v0, vs0, d0, ds0, p0, q0, hargs, rfl, rfl, h0, r0⟩ := trodAll_cons hA
 obtain ⟨v1, vs1, d1, ds1, p1, q1, rfl, rfl, rfl, h1, r1⟩ := trodAll_cons r0
 obtain ⟨rfl, rfl, rfl⟩ := trodAll_nil r1
 obtain rfl : args = #[v0, v1] := by cases args; simp_all
 obtain ⟨rfl, rfl⟩ := trodVars_none hV
 have k0 := h0
 have lt0 : ∀ x ∈ p0, x.block < W.heap.size := by obtain ⟨m, hm⟩ := k0; exact DataW.trod_lt m _ _ _ hm
 obtain ⟨f0, q0, s0, rep0⟩ := open_arg (hW := gw) cover14_ok (by decide) (hval 0 5 v0 rfl rfl) h0 (hsz1 0 5 d0 rfl rfl)
 obtain ⟨e0, he0, x0⟩ := shpe_u8 s0
 rw [he0] at rep0
 have k1 := h1
 have lt1 : ∀ x ∈ p1, x.block < W.heap.size := by obtain ⟨m, hm⟩ := k1; exact DataW.trod_lt m _ _ _ hm
 obtain ⟨f1, q1, s1, rep1⟩ := open_arg (hW := gw) cover14_ok (by decide) (hval 1 5 v1 rfl rfl) h1 (hsz1 1 5 d1 rfl rfl)
 obtain ⟨e1, he1, x1⟩ := shpe_u8 s1
 rw [he1] at rep1
 clear hA0 hval0
 refine (Ev.top (ev_of (Go.Proofs.YtcdceiloganlnaaGreatDoor.W.c6 (e0.toNat : Int) (e1.toNat : Int) (by omega) (by have := e0.toNat_lt; omega) (by omega) (by have := e1.toNat_lt; omega))) (repsC rep0 (repsC rep1 reps0))).mono fun e W' ⟨vr, M', he, hrep, _, bel⟩ => ?_
 subst he
 obtain rfl := rep_bool.1 hrep
 exact ⟨_, rfl, _, _, _, [], _, [], hW', trodAll_mk1 (shut_bool Tryz.underlying4 _), (trodAll_cons_mk (Below.trod laidOut14 (by kernel_rfl) (of_decide_eq_true (by kernel_rfl)) k0 bel lt0) (trodAll_cons_mk (Below.trod laidOut14 (by kernel_rfl) (of_decide_eq_true (by kernel_rfl)) k1 bel lt1) trodAll_mk0)), rfl, bel.frame _, fun h => by cases h⟩
theorem nests_in : (Rows.parserNestsRow.inPlace == Tryz.prog.inPlace 6) = true := by kernel_rfl
theorem nests_un : (Rows.parserNestsRow.unfollowed == Tryz.prog.unfollowed 6) = true := by kernel_rfl
theorem nests_re : (Rows.parserNestsRow.recurses == Tryz.prog.recurses 6) = true := by kernel_rfl
theorem nests_va : (Rows.parserNestsRow.named == Tryz.prog.varsNamed 6) = true := by kernel_rfl
theorem nests_jf : joinedFacts Tryz.prog 6 Tryz.f6 (OpenSpec.ofChange Rows.parserNestsSpec).bare Rows.parserNestsRow = true :=
 joined_parts (by kernel_rfl) nests_in nests_un nests_re nests_va (by kernel_rfl)
theorem nests_wr : Tryz.f6.isWrapper Tryz.prog Rows.parserNestsRow.wrapper Rows.parserNestsRow.mainSum := by
 unfold Func.isWrapper
 first | (rw [if_pos (by decide +kernel)]; kernel_rfl) | (rw [if_neg (by decide +kernel)]; exact ⟨rfl, rfl⟩)
theorem nests_row : Rows.ParserNestsSaid :=
 OpenClaim.holds_of_cond 6 Tryz.f6 rfl rfl rfl rfl rfl rfl rfl ⟨rfl, rfl, rfl, rfl, rfl⟩ rfl rfl rfl rfl rfl (by kernel_rfl) Tryz.func6 nests_jf
  (of_decide_eq_true (by kernel_rfl)) nests_wr
  (fun os started H enc _ F => by rw [OpenClaim.pre_eq_preRow]; exact nests_lifted os started H enc F)
theorem nests_plain (f : FuncId) (fn : Func) (hf : Tryz.pinned.checked.prog.funcNamed "overseer/overseerlaw17.ParserNests" = some f) (hfn : Tryz.pinned.checked.prog.funcs[f]? = some fn) :
 false = Tryz.pinned.checked.prog.looks [] ∧ ∀ (j : Nat) t, fn.params[j]? = some t → Tryz.pinned.checked.prog.wantsStandIn t = false := by
 obtain rfl : f = 6 := Option.some.inj ((show Tryz.prog.funcNamed "overseer/overseerlaw17.ParserNests" = some 6 by kernel_rfl).symm.trans hf) |>.symm
 obtain rfl : fn = Tryz.f6 := (Option.some.inj (Tryz.func6.symm.trans hfn)).symm
 refine ⟨by kernel_rfl, fun j t ht => ?_⟩
 rw [Tryz.params6] at ht
 have hm := Array.mem_of_getElem? ht
 have hall : ∀ t, t ∈ ([5, 5] : List TypeId) → Tryz.prog.wantsStandIn t = false := fun t h => by simpa using List.all_eq_true.1 (show ([5, 5] : List TypeId).all (fun t => !Tryz.prog.wantsStandIn t) = true by kernel_rfl) t h
 exact hall t (by simpa using hm)
theorem nests_holds : Rows.ParserNestsCardSaid :=
 Claim7.holds_tied_plain_at .later [] _ _ _ _ nests_row (fun _ h => by cases h) (by kernel_rfl) (fun _ h => by cases h) parserNests_row_tie rfl ⟨rfl, rfl⟩ (by kernel_rfl) rfl nests_plain (by kernel_rfl)
end Go.Proofs.YtcdceiloganlnaaGreatDoor
