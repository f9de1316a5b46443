/-
  The least meaning of calls and loops: what some number of unfoldings yields; it is what one unfolding makes of itself, and what it says holds.
-/
import Derived.Test.YtmclnnpaephkpaaAbX
namespace Go.Proofs.Ytmclnnpaephkpaa
set_option linter.unusedVariables false
set_option linter.unusedSimpArgs false
set_option linter.unnecessarySimpa false
set_option linter.unusedSectionVars false
open Go.RowKit

structure Prm where
  vars : List Nat
  mv : List Nat
  mu : List Nat
  sz : List (Nat × List Nat)
  jt : List (Nat × List Nat)
  lt : List (Nat × List Nat)
  pt : List (Nat × List Nat)
  fz : List Nat
  ro : List (List Nat × Bool)
abbrev Lop := AE → Nat → List Nat → Nat → Code → (AX → ASt → R) → ASt → R
structure SE where
  P : Program
  prm : FuncId → Prm
  V : TypeId → PV → (PV → R) → R
  W : FuncId → Objs → PV → Objs → (PV → Objs → R) → R
  C0 : Cal
def SE.ae (S : SE) (g : FuncId) (n : Nat) : AE := ⟨S.P, n, (S.prm g).vars, (S.prm g).mv, (S.prm g).mu, (S.prm g).sz, (S.prm g).jt, (S.prm g).lt, (S.prm g).pt, (S.prm g).fz⟩
def SE.xe (S : SE) (C : Cal) (L : Lop) (E : AE) (m0 : Nat) : XE := ⟨E, C, S.V, S.W, L E m0, m0⟩
def topPtr : PV → Nat
  | .ptr i _ => i + 1
  | _ => 0
def retR (P : Program) (rs : List ResultVar) (σ : ASt) : Option PV := match rs with
  | [x] => resV P σ x
  | rs => (allSome (rs.map (resV P σ))).map fun ps => PV.tuple (ps.map PV.un)
def retV (P : Program) (rs : List ResultVar) (ro : List (List Nat × Bool)) (m0 : Nat) (σ : ASt) : R := match retR P rs σ with
  | some r => (match decide (Nat.max m0 (topPtr r) ≤ σ.h.length) && (r.blw (Nat.max m0 (topPtr r)) && blwH (Nat.max m0 (topPtr r)) (σ.h.take (Nat.max m0 (topPtr r)))) with
    | true => some (finR ro r, σ.h.take (Nat.max m0 (topPtr r)))
    | false => none)
  | none => none
def retK (P : Program) (rs : List ResultVar) (ro : List (List Nat × Bool)) (m0 : Nat) : AX → ASt → R
  | .normal, σ => retV P rs ro m0 σ
  | .ret, σ => retV P rs ro m0 σ
  | .exit _, _ => none
def SE.run (S : SE) (C : Cal) (L : Lop) (g : FuncId) (args : List PV) (h : Objs) : R := match S.P.funcs[g]? with
  | some fn => (match fn.body with
    | some c => (match decide (args.length ≤ fn.ntmps) && (fn.name != "runtime.NumGoroutine") with
      | true => exK (S.xe C L (S.ae g fn.ntmps) h.length) c (retK S.P fn.results.toList (S.prm g).ro h.length) ⟨slots0 0 args, h⟩
      | false => none)
    | none => none)
  | none => none
def SE.wp (S : SE) (E : AE) : AE := { E with P := S.P }
def SE.turn (S : SE) (C : Cal) (L : Lop) : Lop := fun E m0 l m x K σ =>
  match decide (m0 ≤ m) && gcOK l m σ with
  | true => exK (S.xe C L (S.wp E) m0) x (thenK (fun σ' => L E m0 l m x K (σ'.gc l m)) K) (σ.gc l m)
  | false => none
def orR (a b : R) : R := match a with | some x => some x | none => b
def SE.sem (S : SE) : Nat → Cal × Lop
  | 0 => (S.C0, fun _ _ _ _ _ _ _ => none)
  | n + 1 => (fun g args h => orR (S.C0 g args h) (S.run (S.sem n).1 (S.sem n).2 g args h), S.turn (S.sem n).1 (S.sem n).2)
open Classical in
noncomputable def lim (f : Nat → R) : R := if h : ∃ n v, f n = some v then some (Classical.choose (Classical.choose_spec h)) else none
noncomputable def SE.CC (S : SE) : Cal := fun g args h => lim fun n => (S.sem n).1 g args h
noncomputable def SE.LL (S : SE) : Lop := fun E m0 l m x K σ => lim fun n => (S.sem n).2 E m0 l m x K σ
structure SE.OK (S : SE) : Prop where
  V : viewOK S.V
  W : outOK S.W

section
variable {S : SE}
theorem gc_gc (l : List Nat) (m : Nat) (σ : ASt) : (σ.gc l m).gc l m = σ.gc l m := by
  simp only [ASt.gc, List.filter_filter, Bool.and_self, List.take_take, Nat.min_self]
theorem gcOK_gc (l : List Nat) (m : Nat) (σ : ASt) : gcOK l m (σ.gc l m) = gcOK l m σ := by unfold gcOK; rw [gc_gc]
theorem turn_gc (C : Cal) (L : Lop) (E : AE) (m0 : Nat) (l : List Nat) (m : Nat) (x : Code) (K : AX → ASt → R) (σ : ASt) : S.turn C L E m0 l m x K (σ.gc l m) = S.turn C L E m0 l m x K σ := by
  unfold SE.turn; rw [gcOK_gc, gc_gc]
theorem up_mk {C : Cal} {L : Lop} {E : AE} {m0 : Nat} (X : XE) (h : X = S.xe C L E m0) (C' : Cal) (L' : Lop) : X.up C' (L' E m0) = S.xe C' L' E m0 := by subst h; rfl
/-! ### families -/
variable {ι : Type} {Good : (ι → R) → Prop} (F : Fam Good) (hS : S.OK) {C : ι → Cal} {L : ι → Lop} (hC : ∀ g args h, Good fun i => C i g args h)
  (hL : ∀ (E : AE) (m0 : Nat) (l : List Nat) (m : Nat) (x : Code) (K : ι → AX → ASt → R) (σ : ASt), (∀ e σ, Good fun i => K i e σ) → Good fun i => L i E m0 l m x (K i) σ)
include F hS hC hL in
theorem good_mk {E : AE} {m0 : Nat} (c : Code) {K : ι → AX → ASt → R} {σ : ASt} (h : ∀ e σ, Good fun i => K i e σ) : Good fun i => exK (S.xe (C i) (L i) E m0) c (K i) σ :=
  good_exK F (X := S.xe (fun _ _ _ => none) (fun _ _ _ _ _ _ _ => none) E m0) (C := C) (L := fun i => L i E m0) hS.V hS.W hC (fun l m x K σ h => hL E m0 l m x K σ h) c h
include F hS hC hL in
theorem good_run {g : FuncId} {args : List PV} {h : Objs} : Good fun i => S.run (C i) (L i) g args h := by
  unfold SE.run
  split
  · split
    · split
      · exact good_mk F hS hC hL _ fun e σ => F.const _
      · exact F.no
    · exact F.no
  · exact F.no
include F hS hC hL in
theorem good_turn {E : AE} {m0 : Nat} {l : List Nat} {m : Nat} {x : Code} {K : ι → AX → ASt → R} {σ : ASt} (h : ∀ e σ, Good fun i => K i e σ) : Good fun i => S.turn (C i) (L i) E m0 l m x (K i) σ := by
  unfold SE.turn
  split
  · exact good_mk F hS hC hL _ fun e σ => good_thenK (fun σ => hL _ _ _ _ _ _ _ h) h e σ
  · exact F.no
include F in
theorem good_or {a : R} {f : ι → R} (h : Good f) : Good fun i => orR a (f i) := by
  cases a
  · exact h
  · exact F.const _
/-- With a fixed number of unfoldings, only what follows turns. -/
theorem good_semL (F : Fam Good) (hS : S.OK) : ∀ (n : Nat) (E : AE) (m0 : Nat) (l : List Nat) (m : Nat) (x : Code) (K : ι → AX → ASt → R) (σ : ASt), (∀ e σ, Good fun i => K i e σ) → Good fun i => (S.sem n).2 E m0 l m x (K i) σ
  | 0, _, _, _, _, _, _, _, _ => F.no
  | n + 1, E, m0, l, m, x, K, σ, h => good_turn F hS (C := fun _ => (S.sem n).1) (L := fun _ => (S.sem n).2) (fun _ _ _ => F.const _) (good_semL F hS n) h

/-! more unfoldings say no less -/
def GoodLe (F : Bool → R) : Prop := ∀ v, F false = some v → F true = some v
theorem famLe : Fam GoodLe := ⟨fun _ _ h => h, fun c k hc hk v h => by
  have h : (match c false with | some (r, h) => k false r h | none => none) = some v := h
  show (match c true with | some (r, h) => k true r h | none => none) = some v
  cases hf : c false with
  | none => rw [hf] at h; cases h
  | some x =>
    obtain ⟨r, hh⟩ := x
    rw [hf] at h
    rw [hc _ hf]
    exact hk r hh v h⟩
theorem semn_mono (hS : S.OK) : ∀ n, (∀ g args h v, (S.sem n).1 g args h = some v → (S.sem (n + 1)).1 g args h = some v) ∧
    (∀ E m0 l m x (K K' : AX → ASt → R) σ v, (∀ e σ v, K e σ = some v → K' e σ = some v) → (S.sem n).2 E m0 l m x K σ = some v → (S.sem (n + 1)).2 E m0 l m x K' σ = some v)
  | 0 => ⟨fun g args h v hv => by show orR (S.C0 g args h) _ = some v; rw [show S.C0 g args h = some v from hv]; rfl, fun _ _ _ _ _ _ _ _ _ _ h => by cases h⟩
  | n + 1 => by
    obtain ⟨ih1, ih2⟩ := semn_mono hS n
    have hC : ∀ g args h, GoodLe fun i => (bif i then (S.sem (n + 1)).1 else (S.sem n).1) g args h := fun g args h v hv => ih1 g args h v hv
    have hL : ∀ (E : AE) (m0 : Nat) (l : List Nat) (m : Nat) (x : Code) (K : Bool → AX → ASt → R) (σ : ASt), (∀ e σ, GoodLe fun i => K i e σ) → GoodLe fun i => (bif i then (S.sem (n + 1)).2 else (S.sem n).2) E m0 l m x (K i) σ :=
      fun E m0 l m x K σ hK v hv => ih2 E m0 l m x _ _ σ v (fun e σ v h => hK e σ v h) hv
    refine ⟨fun g args h v hv => ?_, fun E m0 l m x K K' σ v hK hv => ?_⟩
    · exact good_or famLe (good_run famLe hS hC hL) v hv
    · exact good_turn famLe hS hC hL (K := fun i => bif i then K' else K) (fun e σ v h => hK e σ v h) v hv
theorem cal_le (hS : S.OK) {g : FuncId} {args : List PV} {h : Objs} {v : PV × Objs} {n k : Nat} (hk : n ≤ k) (hv : (S.sem n).1 g args h = some v) : (S.sem k).1 g args h = some v := by
  induction hk with
  | refl => exact hv
  | step _ ih => exact (semn_mono hS _).1 _ _ _ _ ih
theorem lop_le (hS : S.OK) {E : AE} {m0 : Nat} {l : List Nat} {m : Nat} {x : Code} {K : AX → ASt → R} {σ : ASt} {v : PV × Objs} {n k : Nat} (hk : n ≤ k) (hv : (S.sem n).2 E m0 l m x K σ = some v) : (S.sem k).2 E m0 l m x K σ = some v := by
  induction hk with
  | refl => exact hv
  | step _ ih => exact (semn_mono hS _).2 _ _ _ _ _ _ _ _ _ (fun _ _ _ h => h) ih
theorem lop_leK (hS : S.OK) (n : Nat) {E : AE} {m0 : Nat} {l : List Nat} {m : Nat} {x : Code} {K K' : AX → ASt → R} {σ : ASt} {v : PV × Objs} (hK : ∀ e σ v, K e σ = some v → K' e σ = some v) (hv : (S.sem n).2 E m0 l m x K σ = some v) : (S.sem n).2 E m0 l m x K' σ = some v :=
  good_semL famLe hS n E m0 l m x (fun i => bif i then K' else K) σ (fun e σ v h => hK e σ v h) v hv
/-! the limit -/
theorem lim_some {f : Nat → R} (hm : ∀ n v, f n = some v → f (n + 1) = some v) {v : PV × Objs} : lim f = some v ↔ ∃ n, f n = some v := by
  have hle : ∀ {n k : Nat} {v : PV × Objs}, n ≤ k → f n = some v → f k = some v := fun hk hv => by
    induction hk with
    | refl => exact hv
    | step _ ih => exact hm _ _ ih
  have hu : ∀ {n k : Nat} {v u : PV × Objs}, f n = some v → f k = some u → v = u := fun {n k v u} h1 h2 => by
    have a := hle (Nat.le_max_left n k) h1
    have b := hle (Nat.le_max_right n k) h2
    rw [a] at b; injection b
  unfold lim
  constructor
  · intro h
    split at h
    · rename_i hx
      injection h with h
      exact ⟨_, by rw [← h]; exact Classical.choose_spec (Classical.choose_spec hx)⟩
    · cases h
  · intro ⟨n, hn⟩
    have hx : ∃ n v, f n = some v := ⟨n, v, hn⟩
    rw [dif_pos hx]
    exact congrArg some (hu (Classical.choose_spec (Classical.choose_spec hx)) hn)
structure GoodLim (F : Option Nat → R) : Prop where
  mono : ∀ n v, F (some n) = some v → F (some (n + 1)) = some v
  lim : ∀ v, F none = some v ↔ ∃ n, F (some n) = some v
theorem GoodLim.le {F : Option Nat → R} (h : GoodLim F) {n k : Nat} {v : PV × Objs} (hk : n ≤ k) (hv : F (some n) = some v) : F (some k) = some v := by
  induction hk with
  | refl => exact hv
  | step _ ih => exact h.mono _ _ ih
theorem famLim : Fam GoodLim := ⟨fun c => ⟨fun _ _ h => h, fun v => ⟨fun h => ⟨0, h⟩, fun ⟨_, h⟩ => h⟩⟩, fun c k hc hk => by
  refine ⟨fun n v h => ?_, fun v => ⟨fun h => ?_, fun ⟨n, h⟩ => ?_⟩⟩
  · cases hf : c (some n) with
    | none => rw [hf] at h; cases h
    | some x =>
      obtain ⟨r, hh⟩ := x
      rw [hf] at h
      rw [hc.mono _ _ hf]
      exact (hk r hh).mono _ _ h
  · cases hf : c none with
    | none => rw [hf] at h; cases h
    | some x =>
      obtain ⟨r, hh⟩ := x
      rw [hf] at h
      obtain ⟨n1, h1⟩ := (hc.lim _).1 hf
      obtain ⟨n2, h2⟩ := ((hk r hh).lim v).1 h
      refine ⟨max n1 n2, ?_⟩
      rw [hc.le (Nat.le_max_left n1 n2) h1]
      exact (hk r hh).le (Nat.le_max_right n1 n2) h2
  · cases hf : c (some n) with
    | none => rw [hf] at h; cases h
    | some x =>
      obtain ⟨r, hh⟩ := x
      rw [hf] at h
      rw [(hc.lim _).2 ⟨n, hf⟩]
      exact ((hk r hh).lim v).2 ⟨n, h⟩⟩
noncomputable def SE.cals (S : SE) : Option Nat → Cal | none => S.CC | some n => (S.sem n).1
noncomputable def SE.lops (S : SE) : Option Nat → Lop | none => S.LL | some n => (S.sem n).2
theorem cals_good (hS : S.OK) (g : FuncId) (args : List PV) (h : Objs) : GoodLim fun i => S.cals i g args h :=
  ⟨fun n v hv => (semn_mono hS n).1 g args h v hv, fun v => lim_some fun n v hv => (semn_mono hS n).1 g args h v hv⟩
theorem lops_good (hS : S.OK) (E : AE) (m0 : Nat) (l : List Nat) (m : Nat) (x : Code) (K : Option Nat → AX → ASt → R) (σ : ASt) (hK : ∀ e σ, GoodLim fun i => K i e σ) : GoodLim fun i => S.lops i E m0 l m x (K i) σ := by
  have hl : ∀ v, S.LL E m0 l m x (K none) σ = some v ↔ ∃ n, (S.sem n).2 E m0 l m x (K none) σ = some v := fun v => lim_some fun n v hv => (semn_mono hS n).2 _ _ _ _ _ _ _ _ _ (fun _ _ _ h => h) hv
  refine ⟨fun n v hv => (semn_mono hS n).2 _ _ _ _ _ _ _ _ _ (fun e σ v h => (hK e σ).mono n v h) hv, fun v => ⟨fun h => ?_, fun ⟨n, h⟩ => ?_⟩⟩
  · obtain ⟨n, hn⟩ := (hl v).1 h
    obtain ⟨k, hk⟩ := ((good_semL famLim hS n E m0 l m x K σ hK).lim v).1 hn
    refine ⟨max n k, ?_⟩
    exact lop_le hS (Nat.le_max_left n k) (lop_leK hS n (fun e σ v h => (hK e σ).le (Nat.le_max_right n k) h) hk)
  · exact (hl v).2 ⟨n, lop_leK hS n (fun e σ v h => ((hK e σ).lim v).2 ⟨n, h⟩) h⟩
/-- A call is one unfolding of itself. -/
theorem CC_eq (hS : S.OK) (g : FuncId) (args : List PV) (h : Objs) : S.CC g args h = orR (S.C0 g args h) (S.run S.CC S.LL g args h) := by
  have hg := good_or famLim (a := S.C0 g args h) (good_run famLim hS (cals_good hS) (lops_good hS) (g := g) (args := args) (h := h))
  refine Option.ext fun v => ?_
  have h1 : S.CC g args h = some v ↔ ∃ n, (S.sem n).1 g args h = some v := (cals_good hS g args h).lim v
  have h2 : orR (S.C0 g args h) (S.run S.CC S.LL g args h) = some v ↔ ∃ n, (S.sem (n + 1)).1 g args h = some v := hg.lim v
  rw [h1, h2]
  exact ⟨fun ⟨n, hn⟩ => ⟨n, (semn_mono hS n).1 _ _ _ _ hn⟩, fun ⟨n, hn⟩ => ⟨n + 1, hn⟩⟩
theorem LL_turn (hS : S.OK) (E : AE) (m0 : Nat) (l : List Nat) (m : Nat) (x : Code) (K : AX → ASt → R) (σ : ASt) : S.LL E m0 l m x K σ = S.turn S.CC S.LL E m0 l m x K σ := by
  have hg := good_turn famLim hS (cals_good hS) (lops_good hS) (E := E) (m0 := m0) (l := l) (m := m) (x := x) (K := fun _ => K) (σ := σ) fun e σ => famLim.const _
  refine Option.ext fun v => ?_
  have h1 : S.LL E m0 l m x K σ = some v ↔ ∃ n, (S.sem n).2 E m0 l m x K σ = some v := (lops_good hS E m0 l m x (fun _ => K) σ fun e σ => famLim.const _).lim v
  have h2 : S.turn S.CC S.LL E m0 l m x K σ = some v ↔ ∃ n, (S.sem (n + 1)).2 E m0 l m x K σ = some v := hg.lim v
  rw [h1, h2]
  exact ⟨fun ⟨n, hn⟩ => ⟨n, (semn_mono hS n).2 _ _ _ _ _ _ _ _ _ (fun _ _ _ h => h) hn⟩, fun ⟨n, hn⟩ => ⟨n + 1, hn⟩⟩
/-- A loop is one round and itself. -/
theorem LL_eq (hS : S.OK) {E : AE} {m0 : Nat} {l : List Nat} {m : Nat} {x : Code} {K : AX → ASt → R} {σ : ASt} (hm : m0 ≤ m) (hg : gcOK l m σ = true) (hP : S.wp E = E) :
    S.LL E m0 l m x K σ = exK (S.xe S.CC S.LL E m0) x (thenK (fun σ' => S.LL E m0 l m x K (σ'.gc l m)) K) (σ.gc l m) := by
  rw [LL_turn hS]; unfold SE.turn; rw [decide_eq_true hm, hg, hP]; rfl
/-- A call of a function of the program. -/
theorem CC_run (hS : S.OK) {g : FuncId} {args : List PV} {h : Objs} (h0 : S.C0 g args h = none) : S.CC g args h = S.run S.CC S.LL g args h := by
  rw [CC_eq hS, h0]; rfl

/-! what it says holds -/
theorem ret_ok {P : Program} {rs : List ResultVar} {ro : List (List Nat × Bool)} {m0 : Nat} {σ : ASt} {r : PV} {h' : Objs} (h : retV P rs ro m0 σ = some (r, h')) : ∃ r0, retOK P rs m0 r0 h' σ ∧ finR ro r0 = r := by
  unfold retV at h
  split at h
  · rename_i q hq
    split at h
    · rename_i hb
      injection h with h
      injection h with h1 h2
      subst h1
      simp only [Bool.and_eq_true, decide_eq_true_eq] at hb
      obtain ⟨b1, b2, b3⟩ := hb
      have hlen : h'.length = Nat.max m0 (topPtr q) := by rw [← h2, List.length_take]; omega
      refine ⟨q, ⟨by rw [hlen]; exact Nat.le_max_left _ _, by rw [hlen]; exact h2, by rw [hlen]; exact b2, by rw [hlen, ← h2]; exact b3, ?_⟩, rfl⟩
      unfold retR at hq
      split at hq
      · exact hq
      · rename_i hne
        split
        · rename_i x; exact absurd rfl (hne x)
        · exact hq
    · cases h
  · cases h
theorem sem_sound (hm : S.P.follows .mixedOrders = true) (hS : S.OK) (h0 : calOK S.P S.C0) : ∀ n, calOK S.P (S.sem n).1 ∧
    ∀ E m0 l m x (K : AX → ASt → R) σ v, S.wp E = E → (S.sem n).2 E m0 l m x K (σ.gc l m) = some v → roundsA m0 (awp E m0 x) (fun e σ' => K e σ' = some v) n σ
  | 0 => ⟨h0, fun _ _ _ _ _ _ _ _ _ h => by cases h⟩
  | n + 1 => by
    obtain ⟨ih1, ih2⟩ := sem_sound hm hS h0 n
    have hlop : ∀ E m0, S.wp E = E → lopOK (S.xe (S.sem n).1 (S.sem n).2 E m0) := fun E m0 hE l m x K σ v hv => by
      refine ⟨n, ?_⟩
      exact ih2 E m0 l m x K σ v hE hv
    refine ⟨fun g args h r h' hv => ?_, fun E m0 l m x K σ v hE hv => ?_⟩
    · have hv : orR (S.C0 g args h) (S.run (S.sem n).1 (S.sem n).2 g args h) = some (r, h') := hv
      cases hc : S.C0 g args h with
      | some x => rw [hc] at hv; injection hv with hv; subst hv; exact h0 _ _ _ _ _ hc
      | none =>
        rw [hc] at hv
        have hv : S.run (S.sem n).1 (S.sem n).2 g args h = some (r, h') := hv
        unfold SE.run at hv
        split at hv
        · rename_i fn hf
          split at hv
          · rename_i c hb
            split at hv
            · rename_i hd
              simp only [Bool.and_eq_true, decide_eq_true_eq] at hd
              have key := exK_sound (X := S.xe (S.sem n).1 (S.sem n).2 (S.ae g fn.ntmps) h.length) hS.V hS.W ih1 (hlop _ _ rfl) c hv
              refine Ev.of_awp hm hf hb hd.2 (S.prm g).vars (S.prm g).mv (S.prm g).mu (S.prm g).sz (S.prm g).jt (S.prm g).lt (S.prm g).pt (S.prm g).fz (S.prm g).ro hd.1 (awp_mono c (fun e σ' he => ?_) key)
              cases e with
              | normal => exact ⟨trivial, ret_ok he⟩
              | ret => exact ⟨trivial, ret_ok he⟩
              | exit i => cases he
            · cases hv
          · cases hv
        · cases hv
    · have hv : S.turn (S.sem n).1 (S.sem n).2 E m0 l m x K (σ.gc l m) = some v := hv
      rw [turn_gc] at hv
      unfold SE.turn at hv
      split at hv
      · rename_i hc
        simp only [Bool.and_eq_true, decide_eq_true_eq] at hc
        rw [hE] at hv
        refine ⟨l, m, hc.1, hc.2, awp_mono x (fun e σ' he => ?_) (exK_sound (X := S.xe (S.sem n).1 (S.sem n).2 E m0) hS.V hS.W (by rw [← hE]; exact ih1) (hlop _ _ hE) x hv)⟩
        cases e with
        | normal => exact ih2 E m0 l m x K σ' v hE he
        | ret => exact he
        | exit i => exact he
      · cases hv
theorem CC_of_sem (hS : S.OK) (n : Nat) {g : FuncId} {args : List PV} {h : Objs} {v : PV × Objs} (e : (S.sem n).1 g args h = some v) : S.CC g args h = some v := ((cals_good hS g args h).lim v).2 ⟨n, e⟩
theorem CC_sound (hm : S.P.follows .mixedOrders = true) (hS : S.OK) (h0 : calOK S.P S.C0) : calOK S.P S.CC := fun g args h r h' hv => by
  obtain ⟨n, hn⟩ := ((cals_good hS g args h).lim _).1 hv
  exact (sem_sound hm hS h0 n).1 g args h r h' hn
end
end Go.Proofs.Ytmclnnpaephkpaa
