/-
  Contract: Parse.
-/
import Derived.Test.YtiejgieiokmmfaaGreatDoorZC52o
namespace Go.Proofs.YtiejgieiokmmfaaGreatDoor
set_option linter.unusedVariables false
set_option linter.unusedSimpArgs false
set_option linter.unnecessarySimpa false
set_option linter.unusedSectionVars false
open Go.RowKit
def resG : Nat ⊕ (Prg × List Int) → Prg × Int × Int
  | .inl k => (noP, k, 14)
  | .inr (p, f) => if checkF p f ≠ 0 then (noP, 0, checkF p f) else (p, 0, 0)
theorem parS_ne {l : List UInt8} (h : l ≠ []) : parS l = resG (goL 1 noP [] (splitC 10 l)) := by
  unfold parS
  rw [if_neg h]
  cases goL 1 noP [] (splitC 10 l) <;> rfl
theorem goL_cons {line : Nat} {p : Prg} {f : List Int} {w : List UInt8} {t : List (List UInt8)} (h : t ≠ []) : goL line p f (w :: t) = match stepR line p (splitC 32 w) with
    | none => .inl line
    | some (q, b) => goL (line + 1) q (farF b f p.list.length) t := by
  cases t with
  | nil => exact absurd rfl h
  | cons v ws => rfl
theorem splitC_le (c : UInt8) : ∀ (l : List UInt8), ∀ w, w ∈ splitC c l → w.length ≤ l.length
  | [], w, h => by simp [splitC] at h; subst h; simp
  | x :: l, w, h => by
    have ih := splitC_le c l
    rw [splitC] at h
    split at h
    · rcases List.mem_cons.1 h with rfl | h
      · simp
      · have := ih w h; simp; omega
    · obtain ⟨a, b, e⟩ := splitC_cons c l
      rw [e] at h ih
      rcases List.mem_cons.1 h with rfl | h
      · have := ih a (by simp); simp; omega
      · have := ih w (by simp at h; simp [h]); simp; omega
theorem splitC_len (c : UInt8) : ∀ (l : List UInt8), (splitC c l).length ≤ l.length + 1
  | [] => by simp [splitC]
  | x :: l => by
    have ih := splitC_len c l
    rw [splitC]
    split
    · simp; omega
    · obtain ⟨a, b, e⟩ := splitC_cons c l
      rw [e] at ih ⊢
      simp at ih ⊢; omega
theorem fin26 (p : Prg) (f : List Int) (hl : p.list.length ≤ 1000000) : g10_J23 (farL f) p.ni p.no p.nm (bitL p.start) (insL p.list) = Ret (parP (resG (.inr (p, f)))) := by
  have := c56 p f hl
  rw [objP] at this
  rw [g10_J23_eq, clH_of this, h33_0_mk, resG]
  by_cases h : checkF p f = 0
  · rw [neF h, bsel_false, if_neg (by simpa using h)]; rfl
  · rw [neT h, bsel_true, if_pos h]; rfl
section
variable {N : Nat} (hN : N ≤ 60000) {ini : List (List UInt8)} {lst : List UInt8} (hw : ∀ w, w ∈ ini → w.length ≤ N) (hi : ini.length ≤ N + 1)
include hN hw hi
theorem l26 : ∀ (m k : Nat) (p : Prg) (f : List Int), k + m = ini.length → okP p f → p.list.length ≤ k → (k ≤ 1 → p.start = []) →
    g10_L11 (bs lst) (strsL ini) (strsL ini) (ini.length : Int) (k : Int) (farL f) p.ni p.no p.nm (bitL p.start) (insL p.list) = Ret (parP (resG (goL (k + 1) p f (ini.drop k ++ [lst])))) := by
  intro m
  induction m with
  | zero =>
    intro k p f h hp hl hs
    have hk : k = ini.length := by omega
    rw [g10_L11_eq, decF (by omega), bsel_false, bs_tl, nil_tl, strsL_len, List.drop_of_length_le (by omega), List.nil_append, goL, wrs (k := ini.length) (by omega)]
    by_cases h1 : lst = []
    · rw [beqT h1, Bool.not_true, bsel_false]
      by_cases h2 : ini.length = 1
      · rw [eqT (by omega), bsel_true]
        by_cases h3 : 0 < p.nm
        · rw [decT h3, bsel_true, if_pos (.inr ⟨by omega, h3⟩), hk]; rfl
        · rw [decF h3, bsel_false, if_neg (fun e => e.elim (fun e => e h1) fun e => h3 e.2)]
          exact fin26 p f (by omega)
      · rw [eqF (by omega), bsel_false, if_neg (fun e => e.elim (fun e => e h1) fun e => h2 (by omega))]
        exact fin26 p f (by omega)
    · rw [beqF h1, Bool.not_false, bsel_true, if_pos (.inl h1), hk]; rfl
  | succ m ih =>
    intro k p f h hp hl hs
    obtain ⟨x, hx⟩ := get_lt (show k < ini.length by omega)
    have hxN := hw x (List.mem_of_getElem? hx)
    have hws : ∀ w, w ∈ splitC 32 x → w.length ≤ 1000000 := fun w h => by have := splitC_le 32 x w h; omega
    rw [g10_L11_eq, decT (by omega), bsel_true, strsL_get hx, vS_mk, drop_get hx, List.cons_append, goL_cons (by simp)]
    -- the line of an instruction
    have ins : ¬ k + 1 = 1 → ¬ (k + 1 = 2 ∧ 0 < p.nm) → g10_J18c (strsL ini) (bs lst) (k : Int) (bs x) (strsL ini) (ini.length : Int) (farL f) p.ni p.no p.nm (bitL p.start) (insL p.list) =
        Ret (parP (resG (match stepR (k + 1) p (splitC 32 x) with
          | none => .inl (k + 1)
          | some (q, b) => goL (k + 1 + 1) q (farF b f p.list.length) (ini.drop (k + 1) ++ [lst])))) := fun n1 n2 => by
      have hst : stepR (k + 1) p (splitC 32 x) = (instrR p (splitC 32 x)).map fun x => ({ p with list := p.list ++ [x.1] }, x.2) := by unfold stepR; rw [if_neg n1, if_neg n2]
      have hok : ∀ q b, stepR (k + 1) p (splitC 32 x) = some (q, b) → okP q (farF b f p.list.length) := fun q b h => okP_step hp h
      have c := c53 p f hp (splitC 32 x) hws (by omega)
      rw [g10_J18c_eq, split_w (by omega), vL_mk]
      rw [hst] at hok ⊢
      cases hr : instrR p (splitC 32 x) with
      | none =>
        rw [hr] at c
        rw [objP] at c
        rw [clH_of c, h30_0_mk, Bool.not_false, bsel_true, wrs (by omega)]; rfl
      | some y =>
        obtain ⟨y, b⟩ := y
        rw [hr] at c hok
        simp only [objP] at c
        rw [clH_of c, h30_0_mk, Bool.not_true, bsel_false, wrs (by omega)]
        exact ih (k + 1) { p with list := p.list ++ [y] } _ (by omega) (hok _ _ rfl) (by simp; omega) (fun h => by omega)
    by_cases k0 : k = 0
    · subst k0
      rw [eqT (a := ((0 : Nat) : Int)) (b := 0) rfl, bsel_true]
      have hst : stepR (0 + 1) p (splitC 32 x) = (headR (splitC 32 x)).map fun x => ({ p with ni := x.1, no := x.2.1, nm := x.2.2 }, false) := by unfold stepR; rw [if_pos rfl]
      have hok : ∀ q b, stepR (0 + 1) p (splitC 32 x) = some (q, b) → okP q (farF b f p.list.length) := fun q b h => okP_step hp h
      obtain ⟨q, c, hq⟩ := c54 p f (splitC 32 x) hws
      rw [g10_J18_eq, split_w (by omega), vL_mk]
      rw [hst] at hok ⊢
      cases hr : headR (splitC 32 x) with
      | none =>
        rw [hr] at c
        simp only [objP] at c
        rw [clH_of c, h31_0_mk]; rfl
      | some y =>
        rw [hr] at c hok
        have hq := hq y hr
        subst hq
        simp only [objP] at c
        rw [clH_of c, h31_0_mk]
        simp only [Option.isSome_some, Bool.not_true, bsel_false]
        rw [wrs (by omega)]
        exact ih (0 + 1) { p with ni := y.1, no := y.2.1, nm := y.2.2 } f (by omega) (hok _ _ rfl) (by simp only; omega) (fun _ => hs (by omega))
    rw [eqF (by omega), bsel_false]
    by_cases k1 : k = 1
    · subst k1
      rw [eqT (a := ((1 : Nat) : Int)) (b := 1) rfl, bsel_true]
      by_cases hm : 0 < p.nm
      · rw [decT hm, bsel_true]
        have hst : stepR (1 + 1) p (splitC 32 x) = (startR (splitC 32 x)).map fun s => ({ p with start := p.start ++ s }, false) := by unfold stepR; rw [if_neg (by omega), if_pos ⟨rfl, hm⟩]
        have hok : ∀ q b, stepR (1 + 1) p (splitC 32 x) = some (q, b) → okP q (farF b f p.list.length) := fun q b h => okP_step hp h
        obtain ⟨q, c, hq⟩ := c55 p f (splitC 32 x) hws (by rw [hs (by omega)]; simp)
        rw [g10_J18b_eq, split_w (by omega), vL_mk]
        rw [hst] at hok ⊢
        cases hr : startR (splitC 32 x) with
        | none =>
          rw [hr] at c
          simp only [objP] at c
          rw [clH_of c, h32_0_mk]; rfl
        | some y =>
          rw [hr] at c hok
          have hq := hq y hr
          subst hq
          simp only [objP] at c
          rw [clH_of c, h32_0_mk]
          simp only [Option.isSome_some, Bool.not_true, bsel_false]
          rw [wrs (by omega)]
          exact ih (1 + 1) { p with start := p.start ++ y } f (by omega) (hok _ _ rfl) (by simp only; omega) (fun h => by omega)
      · rw [decF hm, bsel_false]
        exact ins (by omega) (fun e => hm e.2)
    · rw [eqF (by omega), bsel_false]
      exact ins (by omega) (fun e => k1 (by omega))
end
theorem noP_ok : okP noP [] := ⟨by decide, by decide, by decide, by decide, by decide, by decide, (fun x h => by cases h), (fun k h => by cases h)⟩
theorem snoc_of {α : Type} {l : List α} (h : l ≠ []) : ∃ a b, l = a ++ [b] := ⟨l.dropLast, l.getLast h, (List.dropLast_concat_getLast h).symm⟩
theorem c26 (l : List UInt8) (hl : l.length ≤ 60000) : SS.CC 10 [.str (bs l)] [] = Ret (parP (parS l)) := by
  rw [g10_eq, bs_size, decF (by omega), bsel_false, bs_tl, nil_tl]
  by_cases h0 : l = []
  · rw [beqT h0, bsel_true]; unfold parS; rw [if_pos h0]; rfl
  rw [beqF h0, bsel_false, split_w (by omega), vL_mk, parS_ne h0]
  obtain ⟨ini, lst, e⟩ := snoc_of (splitC_ne 10 l)
  have hlen := splitC_len 10 l
  have hle := splitC_le 10 l
  rw [e] at hlen hle ⊢
  simp only [List.length_append, List.length_cons, List.length_nil] at hlen
  have e1 : IntKind.i64.wrap (((strsL (ini ++ [lst])).length : Int) - 1) = ((ini.length : Nat) : Int) := by
    rw [strsL_len, wr0 (by simp; omega) (by simp; omega)]; simp
  rw [e1, strsL_get (k := ini.length) (w := lst) (by simp), vS_mk, chk_of (by simp; omega)]
  have e2 : (strsL (ini ++ [lst])).take ((ini.length : Nat) : Int).toNat = strsL ini := by
    rw [Int.toNat_natCast]
    unfold strsL
    rw [List.map_append, List.take_left' (by simp)]
  rw [e2, strsL_len]
  have := l26 hl (ini := ini) (lst := lst) (fun w h => hle w (by simp [h])) (by omega) ini.length 0 noP [] (by omega) noP_ok (by simp [noP]) (fun _ => rfl)
  rw [List.drop_zero] at this
  exact this
end Go.Proofs.YtiejgieiokmmfaaGreatDoor
