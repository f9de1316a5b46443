/-
  Views of values and of what a call with objects hands back, by shapes: one view for all types and functions, what it finds is handed on in bundles.
-/
import Derived.Test.YtkkgfoknknehfaaDoorAbZ
namespace Go.Proofs.YtkkgfoknknehfaaDoor
set_option linter.unusedVariables false
set_option linter.unusedSimpArgs false
set_option linter.unnecessarySimpa false
set_option linter.unusedSectionVars false
open Go.RowKit
inductive Sh where
 | I (k : IntKind)
 | B
 | S
 | L (o : Bool) (z : Nat)
 | Y
 | P
 | H (i j z : Nat)
 | M
 | C
 | pt (i j : Nat)
 | bd (t i : Nat)
 | rf
 | ni
 | fn (n : Nat)
@[reducible] def Sh.V : List Sh → Type
 | [] => Unit
 | .I _ :: l => Int × Sh.V l
 | .B :: l => Bool × Sh.V l
 | .S :: l => ByteArray × Sh.V l
 | .L _ _ :: l => List PV × Sh.V l
 | .Y :: l => List UInt8 × Sh.V l
 | .P :: l => PV × Sh.V l
 | .H _ _ _ :: l => Nat × Sh.V l
 | .M :: l => List PV × Sh.V l
 | .C :: l => List PV × Sh.V l
 | .pt _ _ :: l => Sh.V l
 | .bd _ _ :: l => Sh.V l
 | .rf :: l => Sh.V l
 | .ni :: l => Sh.V l
 | .fn _ :: l => Sh.V l
def mkS : (sh : List Sh) → Sh.V sh → List PV
 | [], _ => []
 | .I κ :: l, v => .int κ v.1 :: mkS l v.2
 | .B :: l, v => .bool v.1 :: mkS l v.2
 | .S :: l, v => .str v.1 :: mkS l v.2
 | .L o z :: l, v => .sl o z v.1 :: mkS l v.2
 | .Y :: l, v => .slT v.1 :: mkS l v.2
 | .P :: l, v => v.1 :: mkS l v.2
 | .H i j z :: l, v => .slh i j v.1 z :: mkS l v.2
 | .M :: l, v => .mp v.1 :: mkS l v.2
 | .C :: l, v => .func (.yield 4242) v.1 [] :: mkS l v.2
 | .pt i j :: l, v => .ptr i j :: mkS l v
 | .bd t i :: l, v => .bld t i :: mkS l v
 | .rf :: l, v => .raw .nilFunc :: mkS l v
 | .ni :: l, v => .raw .nilIface :: mkS l v
 | .fn n :: l, v => .func (.func n) [] [] :: mkS l v
def rdS : (sh : List Sh) → List PV → Option (Sh.V sh)
 | [], ps => (match ps with | [] => some () | _ :: _ => none)
 | .I κ :: sh, ps => (match ps with | .int κ' n :: ps => (match decide (κ' = κ) with | true => (rdS sh ps).map fun v => (n, v) | false => none) | _ => none)
 | .B :: sh, ps => (match ps with | .bool n :: ps => (rdS sh ps).map fun v => (n, v) | _ => none)
 | .S :: sh, ps => (match ps with | .str n :: ps => (rdS sh ps).map fun v => (n, v) | _ => none)
 | .L o z :: sh, ps => (match ps with | .sl o' z' n :: ps => (match o' == o && Nat.beq z' z with | true => (rdS sh ps).map fun v => (n, v) | false => none) | _ => none)
 | .Y :: sh, ps => (match ps with | .slT n :: ps => (rdS sh ps).map fun v => (n, v) | _ => none)
 | .P :: sh, ps => (match ps with | n :: ps => (rdS sh ps).map fun v => (n, v) | _ => none)
 | .H i j z :: sh, ps => (match ps with | .slh i' j' n z' :: ps => (match Nat.beq i' i && Nat.beq j' j && Nat.beq z' z with | true => (rdS sh ps).map fun v => (n, v) | false => none) | _ => none)
 | .M :: sh, ps => (match ps with | .mp n :: ps => (rdS sh ps).map fun v => (n, v) | _ => none)
 | .C :: sh, ps => (match ps with | .func (.yield m) n [] :: ps => (match Nat.beq m 4242 with | true => (rdS sh ps).map fun v => (n, v) | false => none) | _ => none)
 | .pt i j :: sh, ps => (match ps with | .ptr i' j' :: ps => (match Nat.beq i' i && Nat.beq j' j with | true => rdS sh ps | false => none) | _ => none)
 | .bd i j :: sh, ps => (match ps with | .bld i' j' :: ps => (match Nat.beq i' i && Nat.beq j' j with | true => rdS sh ps | false => none) | _ => none)
 | .rf :: sh, ps => (match ps with | .raw .nilFunc :: ps => rdS sh ps | _ => none)
 | .ni :: sh, ps => (match ps with | .raw .nilIface :: ps => rdS sh ps | _ => none)
 | .fn m :: sh, ps => (match ps with | .func (.func n) [] [] :: ps => (match Nat.beq n m with | true => rdS sh ps | false => none) | _ => none)
theorem map_pair {α β : Type} {o : Option β} {n : α} {v : α × β} (h : (o.map fun v => (n, v)) = some v) : n = v.1 ∧ o = some v.2 := by
 cases o with
 | none => cases h
 | some w => grind
theorem rdS_ok : ∀ (sh : List Sh) (ps : List PV) (v : Sh.V sh), rdS sh ps = some v → mkS sh v = ps
 | [], ps, v, h => by
  unfold rdS at h; split at h
  ·rfl
  ·cases h
 | .I κ :: sh, ps, v, h => by
  unfold rdS at h; split at h
  ·split at h
   ·rename_i hk; have hk := of_decide_eq_true hk; subst hk
    obtain ⟨e1, e2⟩ := map_pair h; unfold mkS; rw [rdS_ok sh _ _ e2, e1]
   ·cases h
  ·cases h
 | .B :: sh, ps, v, h | .S :: sh, ps, v, h | .Y :: sh, ps, v, h | .P :: sh, ps, v, h | .M :: sh, ps, v, h => by
  unfold rdS at h; split at h
  ·obtain ⟨e1, e2⟩ := map_pair h; unfold mkS; rw [rdS_ok sh _ _ e2, e1]
  ·cases h
 | .L o z :: sh, ps, v, h => by
  unfold rdS at h; split at h
  ·split at h
   ·rename_i hk; simp only [Bool.and_eq_true, beq_iff_eq, Nat.beq_eq] at hk; obtain ⟨rfl, rfl⟩ := hk
    obtain ⟨e1, e2⟩ := map_pair h; unfold mkS; rw [rdS_ok sh _ _ e2, e1]
   ·cases h
  ·cases h
 | .H i j z :: sh, ps, v, h => by
  unfold rdS at h; split at h
  ·split at h
   ·rename_i hk; simp only [Bool.and_eq_true, Nat.beq_eq] at hk; obtain ⟨⟨rfl, rfl⟩, rfl⟩ := hk
    obtain ⟨e1, e2⟩ := map_pair h; unfold mkS; rw [rdS_ok sh _ _ e2, e1]
   ·cases h
  ·cases h
 | .C :: sh, ps, v, h => by
  unfold rdS at h; split at h
  ·split at h
   ·rename_i hk; simp only [Nat.beq_eq] at hk; subst hk
    obtain ⟨e1, e2⟩ := map_pair h; unfold mkS; rw [rdS_ok sh _ _ e2, e1]
   ·cases h
  ·cases h
 | .pt i j :: sh, ps, v, h | .bd i j :: sh, ps, v, h => by
  unfold rdS at h; split at h
  ·split at h
   ·rename_i hk; simp only [Bool.and_eq_true, Nat.beq_eq] at hk; obtain ⟨rfl, rfl⟩ := hk
    unfold mkS; rw [rdS_ok sh _ _ h]
   ·cases h
  ·cases h
 | .rf :: sh, ps, v, h | .ni :: sh, ps, v, h => by
  unfold rdS at h; split at h
  ·unfold mkS; rw [rdS_ok sh _ _ h]
  ·cases h
 | .fn m :: sh, ps, v, h => by
  unfold rdS at h; split at h
  ·split at h
   ·rename_i hk; simp only [Nat.beq_eq] at hk; subst hk
    unfold mkS; rw [rdS_ok sh _ _ h]
   ·cases h
  ·cases h
def zS : List Sh → List PV
 | [] => []
 | .pt i j :: l => .ptr i j :: zS l
 | .bd t i :: l => .bld t i :: zS l
 | .rf :: l => .raw .nilFunc :: zS l
 | .ni :: l => .raw .nilIface :: zS l
 | .fn n :: l => .func (.func n) [] [] :: zS l
 | _ :: l => .nilp :: zS l
def zOK : List Sh → Bool
 | [] => true
 | .pt _ _ :: l | .bd _ _ :: l | .rf :: l | .ni :: l | .fn _ :: l => zOK l
 | _ :: _ => false
theorem zS_mk : ∀ (l : List Sh) (v : Sh.V l), zOK l = true → mkS l v = zS l
 | [], _, _ => rfl
 | .pt i j :: l, v, h => congrArg (_ :: ·) (zS_mk l v h)
 | .bd i j :: l, v, h => congrArg (_ :: ·) (zS_mk l v h)
 | .rf :: l, v, h => congrArg (_ :: ·) (zS_mk l v h)
 | .ni :: l, v, h => congrArg (_ :: ·) (zS_mk l v h)
 | .fn n :: l, v, h => congrArg (_ :: ·) (zS_mk l v h)
 | .I _ :: _, _, h | .B :: _, _, h | .S :: _, _, h | .L _ _ :: _, _, h | .Y :: _, _, h | .P :: _, _, h | .H _ _ _ :: _, _, h | .M :: _, _, h | .C :: _, _, h => by cases h
@[reducible] def TV : List (Bool × List Sh) → Type
 | [] => Unit
 | b :: l => Sh.V b.2 × TV l
def mkT : (sh : List (Bool × List Sh)) → TV sh → List PV
 | [], _ => []
 | b :: l, v => bif b.1 then .agg (mkS b.2 v.1) :: mkT l v.2 else (mkS b.2 v.1).headD .nilp :: mkT l v.2
def rdT : (sh : List (Bool × List Sh)) → List PV → Option (TV sh)
 | [], ps => (match ps with | [] => some () | _ :: _ => none)
 | (true, l) :: sh, ps => (match ps with | .agg cs :: ps => (match rdS l cs with | some v => (rdT sh ps).map fun w => (v, w) | none => none) | _ => none)
 | (false, l) :: sh, ps => (match ps with | p :: ps => (match rdS l [p] with | some v => (rdT sh ps).map fun w => (v, w) | none => none) | _ => none)
theorem rdT_ok : ∀ (sh : List (Bool × List Sh)) (ps : List PV) (v : TV sh), rdT sh ps = some v → mkT sh v = ps
 | [], ps, v, h => by
  unfold rdT at h; split at h
  ·rfl
  ·cases h
 | (true, l) :: sh, ps, v, h => by
  unfold rdT at h; split at h
  ·split at h
   ·rename_i e
    obtain ⟨e1, e2⟩ := map_pair h; unfold mkT; rw [rdT_ok sh _ _ e2, ← e1, rdS_ok _ _ _ e]; rfl
   ·cases h
  ·cases h
 | (false, l) :: sh, ps, v, h => by
  unfold rdT at h; split at h
  ·split at h
   ·rename_i e
    obtain ⟨e1, e2⟩ := map_pair h; unfold mkT; rw [rdT_ok sh _ _ e2, ← e1, rdS_ok _ _ _ e]; rfl
   ·cases h
  ·cases h
inductive RS where
 | ti (k : IntKind)
 | tb
 | ts
 | tl (o : Bool) (z : Nat)
 | tp
 | z (c : Sh)
 | o (c : Sh)
 | g (l : List Sh)
 | t (l : List (Bool × List Sh))
@[reducible] def RS.F : RS → Type → Type
 | .ti _, T => Int → T
 | .tb, T => Bool → T
 | .ts, T => ByteArray → T
 | .tl _ _, T => List PV → T
 | .tp, T => PV → T
 | .z _, T => T
 | .o c, T => Sh.V [c] → T
 | .g l, T => Sh.V l → T
 | .t l, T => TV l → T
def gvV (sh : List Sh) (p : PV) {T : Type} (K : Sh.V sh → Option T) : Option T := match p with | .agg cs => (match rdS sh cs with | some v => K v | none => none) | _ => none
def tvV (sh : List (Bool × List Sh)) (p : PV) {T : Type} (K : TV sh → Option T) : Option T := match p with | .tuple cs => (match rdT sh cs with | some v => K v | none => none) | _ => none
def oV (s : Sh) (p : PV) {T : Type} (K : Sh.V [s] → Option T) : Option T := match rdS [s] [p] with | some v => K v | none => none
def rvV : (rs : RS) → PV → RS.F rs R → R
 | .ti k, p, K => vI k p K
 | .tb, p, K => vB p K
 | .ts, p, K => vS p K
 | .tl o z, p, K => vL o z p K
 | .tp, p, K => K p
 | .z c, p, K => bsel (zOK [c]) (oV c p fun _ => K) none
 | .o c, p, K => oV c p K
 | .g l, p, K => gvV l p K
 | .t l, p, K => tvV l p K
def packR : (rs : RS) → {T : Type} → (PV → T) → RS.F rs T
 | .ti k, _, K => fun n => K (.int k n)
 | .tb, _, K => fun n => K (.bool n)
 | .ts, _, K => fun n => K (.str n)
 | .tl o z, _, K => fun n => K (.sl o z n)
 | .tp, _, K => fun p => K p
 | .z c, _, K => K ((zS [c]).headD .nilp)
 | .o c, _, K => fun v => K ((mkS [c] v).headD .nilp)
 | .g l, _, K => fun v => K (.agg (mkS l v))
 | .t l, _, K => fun v => K (.tuple (mkT l v))
theorem oV_ok (s : Sh) (p : PV) : (∀ K : PV → R, oV s p (fun v => K ((mkS [s] v).headD .nilp)) = K p) ∨ (∀ K : Sh.V [s] → R, oV s p K = none) := by
 grind [oV, rdS_ok]
theorem gvV_ok (l : List Sh) (p : PV) : (∀ K : PV → R, gvV l p (fun v => K (.agg (mkS l v))) = K p) ∨ (∀ K : PV → R, gvV l p (fun v => K (.agg (mkS l v))) = none) := by
 unfold gvV
 grind [rdS_ok]
theorem tvV_ok (l : List (Bool × List Sh)) (p : PV) : (∀ K : PV → R, tvV l p (fun v => K (.tuple (mkT l v))) = K p) ∨ (∀ K : PV → R, tvV l p (fun v => K (.tuple (mkT l v))) = none) := by
 unfold tvV
 grind [rdT_ok]
theorem rvV_ok (rs : RS) (p : PV) : (∀ K : PV → R, rvV rs p (packR rs K) = K p) ∨ (∀ K : PV → R, rvV rs p (packR rs K) = none) := by
 cases rs with
 | ti k => exact vI_ok k p
 | tb => exact vB_ok p
 | ts => exact vS_ok p
 | tl o z => exact vL_ok o z p
 | tp => exact .inl fun _ => rfl
 | z s =>
  cases hz : zOK [s] with
  | false => exact .inr fun K => by show bsel (zOK [s]) _ _ = _; rw [hz, bsel_false]
  | true =>
   cases h : rdS [s] [p] with
   | none => exact .inr fun K => by show bsel (zOK [s]) (oV s p _) _ = _; rw [hz, bsel_true]; unfold oV; rw [h]
   | some v =>
    have h1 := rdS_ok _ _ _ h
    have h2 := zS_mk [s] v hz
    exact .inl fun K => by
     show bsel (zOK [s]) (oV s p fun _ => K ((zS [s]).headD .nilp)) _ = _
     rw [hz, bsel_true, ← h2, h1]; unfold oV; rw [h]; rfl
 | o s =>
  rcases oV_ok s p with e | e
  ·exact .inl e
  ·exact .inr fun K => e _
 | g l => exact gvV_ok l p
 | t l => exact tvV_ok l p
inductive OS where
 | c (l : List Sh)
 | z (l : List Sh)
 | a
@[reducible] def obF : List OS → Type
 | [] => R
 | .c l :: os => Sh.V l → obF os
 | .z _ :: os => obF os
 | .a :: os => List PV → obF os
def obV : (os : List OS) → Objs → obF os → R
 | [], h, f => (match h with | [] => f | _ :: _ => none)
 | .c l :: os, h, f => (match h with | some cs :: h => (match rdS l cs with | some v => obV os h (f v) | none => none) | _ => none)
 | .z l :: os, h, f => (match h with | some cs :: h => (match rdS l cs with | some _ => obV os h f | none => none) | _ => none)
 | .a :: os, h, f => (match h with | some cs :: h => obV os h (f cs) | _ => none)
def packO : (os : List OS) → (Objs → R) → obF os
 | [], K => K []
 | .c l :: os, K => fun v => packO os fun h => K (some (mkS l v) :: h)
 | .z l :: os, K => packO os fun h => bsel (zOK l) (K (some (zS l) :: h)) none
 | .a :: os, K => fun cs => packO os fun h => K (some cs :: h)
theorem obV_ok : ∀ (os : List OS) (h : Objs), (∀ K : Objs → R, obV os h (packO os K) = K h) ∨ (∀ K : Objs → R, obV os h (packO os K) = none)
 | [], [] => .inl fun _ => rfl
 | [], _ :: _ => .inr fun _ => rfl
 | .c l :: os, h => by
  unfold obV
  split
  ·rename_i cs h
   cases e : rdS l cs with
   | none => simp
   | some v =>
    have := rdS_ok _ _ _ e
    subst this
    rcases obV_ok os h with e2 | e2
    ·exact .inl fun K => e2 _
    ·exact .inr fun K => e2 _
  simp
 | .z l :: os, h => by
  unfold obV
  split
  ·rename_i cs h
   cases e : rdS l cs with
   | none => simp
   | some v =>
    have := rdS_ok _ _ _ e
    subst this
    rcases obV_ok os h with e2 | e2
    ·cases hz : zOK l with
     | true =>
      refine .inl fun K => (e2 _).trans ?_
      grind [bsel_true, zS_mk]
     | false =>
      refine .inr fun K => (e2 _).trans ?_
      simp_all
    ·exact .inr fun K => e2 _
  simp
 | .a :: os, h => by
  unfold obV
  split
  ·rename_i cs h
   rcases obV_ok os h with e2 | e2
   ·exact .inl fun K => e2 _
   ·exact .inr fun K => e2 _
  simp
def hvK : (rs : RS) → (os : List OS) → Objs → RS.F rs (obF os) → RS.F rs R
 | .ti _, os, h, K => fun n => obV os h (K n)
 | .tb, os, h, K => fun n => obV os h (K n)
 | .ts, os, h, K => fun n => obV os h (K n)
 | .tl _ _, os, h, K => fun n => obV os h (K n)
 | .tp, os, h, K => fun n => obV os h (K n)
 | .z _, os, h, K => obV os h K
 | .o _, os, h, K => fun n => obV os h (K n)
 | .g _, os, h, K => fun n => obV os h (K n)
 | .t _, os, h, K => fun n => obV os h (K n)
def hv (rs : RS) (os : List OS) (p : PV) (h : Objs) (K : RS.F rs (obF os)) : R := rvV rs p (hvK rs os h K)
def pack (rs : RS) (os : List OS) (K : PV → Objs → R) : RS.F rs (obF os) := packR rs fun p => packO os (K p)
theorem hvK_pack (rs : RS) (os : List OS) (h : Objs) (K : PV → Objs → R) : hvK rs os h (pack rs os K) = packR rs fun p => obV os h (packO os (K p)) := by
 cases rs <;> rfl
theorem hv_ok (rs : RS) (os : List OS) (p : PV) (h : Objs) : (∀ K : PV → Objs → R, hv rs os p h (pack rs os K) = K p h) ∨ (∀ K : PV → Objs → R, hv rs os p h (pack rs os K) = none) := by
 have hh : ∀ K : PV → Objs → R, hv rs os p h (pack rs os K) = rvV rs p (packR rs fun p => obV os h (packO os (K p))) := fun K => by unfold hv; rw [hvK_pack]
 rcases rvV_ok rs p with e | e
 ·rcases obV_ok os h with e2 | e2
  simp_all
  simp_all
 simp_all
abbrev lgV (sh : List Sh) (l : List PV) (n : Int) (K : Sh.V sh → R) : R := lgetX l n fun e => gvV sh e K
def shC : List Sh → List PV → Bool
 | [], ps => ps.isEmpty
 | s :: sh, ps => (match ps with
  | [] => false
  | p :: ps => (match s, p with
   | .I κ, .int κ' _ => decide (κ' = κ)
   | .B, .bool _ => true
   | .S, .str _ => true
   | .L o z, .sl o' z' _ => o' == o && Nat.beq z' z
   | .Y, .slT _ => true
   | .P, _ => true
   | .H i j z, .slh i' j' _ z' => Nat.beq i' i && Nat.beq j' j && Nat.beq z' z
   | .M, .mp _ => true
   | .C, .func (.yield n) _ [] => Nat.beq n 4242
   | .pt i j, .ptr i' j' => Nat.beq i' i && Nat.beq j' j
   | .bd t i, .bld t' i' => Nat.beq t' t && Nat.beq i' i
   | .rf, .raw .nilFunc => true
   | .ni, .raw .nilIface => true
   | .fn m, .func (.func n) [] [] => Nat.beq n m
   | _, _ => false) && shC sh ps)
def shO : List OS → Objs → Bool
 | [], h => h.isEmpty
 | .c l :: os, h => (match h with | some cs :: h => shC l cs && shO os h | _ => false)
 | .z l :: os, h => (match h with | some cs :: h => shC l cs && shO os h | _ => false)
 | .a :: os, h => (match h with | some _ :: h => shO os h | _ => false)
def tl {α : Type} (g k : Nat) (a b : α) : α := bif Nat.blt g k then a else b
def te {α : Type} (g k : Nat) (a b : α) : α := bif Nat.beq g k then a else b
def VVt (t : TypeId → Option RS) (i : TypeId) (p : PV) (K : PV → R) : R := match t i with | some rs => rvV rs p (packR rs K) | none => K p
theorem VVt_ok (t : TypeId → Option RS) : viewOK (VVt t) := fun i p => by
 unfold VVt
 cases t i with
 | none => simp
 | some rs => exact rvV_ok rs p
abbrev WRow := List OS × RS × List OS
def WWl : List WRow → Objs → PV → Objs → (PV → Objs → R) → R
 | [], _, r, h, K => K r h
 | w :: l, h0, r, h, K => bsel (shO w.1 h0) (hv w.2.1 w.2.2 r h (pack w.2.1 w.2.2 K)) (WWl l h0 r h K)
theorem WWl_ok : ∀ (l : List WRow) (h0 : Objs) (r : PV) (h : Objs), (∀ K : PV → Objs → R, WWl l h0 r h K = K r h) ∨ (∀ K : PV → Objs → R, WWl l h0 r h K = none)
 | [], _, _, _ => .inl fun _ => rfl
 | w :: l, h0, r, h => out_bsel (hv_ok w.2.1 w.2.2 r h) (WWl_ok l h0 r h)
def WWt (t : FuncId → List WRow) (g : FuncId) : Objs → PV → Objs → (PV → Objs → R) → R := WWl (t g)
theorem WWt_ok (t : FuncId → List WRow) : outOK (WWt t) := fun g h r h' => WWl_ok (t g) h r h'
theorem CCk {S : SE} (hS : S.OK) {g : FuncId} {args : List PV} {h : Objs} {v : R} (h0 : S.C0 g args h = none) (e : S.run S.CC S.LL g args h = v) : S.CC g args h = v := (CC_run hS h0).trans e
theorem LLk {S : SE} (hS : S.OK) {E : AE} {m0 : Nat} {l : List Nat} {m : Nat} {x : Code} {K : AX → ASt → R} {σ : ASt} {v : R} (hm : m0 ≤ m) (hg : gcOKf l m σ = true) (hP : S.wp E = E)
 (e : chk (plainG l m σ) (exK (S.xe S.CC S.LL E m0) x (thenK (fun σ' => S.LL E m0 l m x K (σ'.gc l m)) K) (σ.gc l m)) = v) : S.LL E m0 l m x K σ = v := (LL_eq hS hm hg hP).trans e
abbrev KT := AX → ASt → R
def pthN : Nat → Nat → List Bool
 | 0, _ => []
 | k + 1, n => match Nat.ble n 1 with | true => [] | false => Nat.beq (n % 2) 1 :: pthN k (n / 2)
def cS (f : Func) (p : Nat) : Code := Code.sub (pthN 99 p) (bodyOf f)
noncomputable def SE.xX (S : SE) (f n m : Nat) : XE := S.xe S.CC S.LL (S.ae f n) m
noncomputable def SE.rK (S : SE) (f : Func) (g m : Nat) (fl : List Nat) : KT := retK S.P f.results.toList (S.prm g).ro m fl
noncomputable def SE.jK (S : SE) (f n m : Nat) (c : Code) (K : KT) : KT := thenK (joinX (S.ae f n) m c (exK (S.xX f n m) c K)) K
noncomputable def SE.lK (S : SE) (f n m : Nat) (l : List Nat) (k : Nat) (c : Code) (K : KT) : KT := thenK (fun σ => S.LL (S.ae f n) m l k c K (σ.gc l k)) K
end Go.Proofs.YtkkgfoknknehfaaDoor
